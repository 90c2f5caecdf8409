/- Closed facts on the tables of types and functions of this program. Written by a program of ours (facts.py). -/
import Derived.Test.YtmgnnclkjkbmdaaProg
import Derived.Test.YtmgnnclkjkbmdaaFw10
set_option maxRecDepth 100000
namespace Go.Proofs.Ytmgnnclkjkbmdaa
open Go Go.Fw
theorem pmix : Try.prog.follows .mixedOrders = true := by kernel_rfl
theorem un2 : Try.prog.underlying 2 = some (.int .i64) := by kernel_rfl
theorem ty2 : Ty Try.prog 2 (.int .i64) 1 8 ([I 0]) := Ty.of (v := I 0) un2 (by kernel_rfl) (by kernel_rfl) (by kernel_rfl) (by kernel_rfl)
theorem un3 : Try.prog.underlying 3 = some (.int .i64) := by kernel_rfl
theorem ty3 : Ty Try.prog 3 (.int .i64) 1 8 ([I 0]) := Ty.of (v := I 0) un3 (by kernel_rfl) (by kernel_rfl) (by kernel_rfl) (by kernel_rfl)
theorem un4 : Try.prog.underlying 4 = some (.bool) := by kernel_rfl
theorem ty4 : Ty Try.prog 4 (.bool) 1 1 ([Value.bool false]) := Ty.of (v := Value.bool false) un4 (by kernel_rfl) (by kernel_rfl) (by kernel_rfl) (by kernel_rfl)
theorem un5 : Try.prog.underlying 5 = some (.int .u8) := by kernel_rfl
theorem ty5 : Ty Try.prog 5 (.int .u8) 1 1 ([B 0]) := Ty.of (v := B 0) un5 (by kernel_rfl) (by kernel_rfl) (by kernel_rfl) (by kernel_rfl)
theorem un6 : Try.prog.underlying 6 = some (.int .u8) := by kernel_rfl
theorem ty6 : Ty Try.prog 6 (.int .u8) 1 1 ([B 0]) := Ty.of (v := B 0) un6 (by kernel_rfl) (by kernel_rfl) (by kernel_rfl) (by kernel_rfl)
theorem un7 : Try.prog.underlying 7 = some (dOf Try.prog 7) := und_of (by kernel_rfl)
theorem ty7 : Ty Try.prog 7 (dOf Try.prog 7) 4 24 (List.replicate 2 (I 0) ++ [Value.bool false] ++ [B 0]) := Ty.of (v := .agg (List.replicate 2 (I 0) ++ [Value.bool false] ++ [B 0]).toArray) un7 (by kernel_rfl) (by kernel_rfl) (by kernel_rfl) (by kernel_rfl)
theorem ag7 : aggD (dOf Try.prog 7) = true := by kernel_rfl
theorem fl7_0 : Fld Try.prog 7 0 0 := Fld.of (by kernel_rfl)
theorem fl7_1 : Fld Try.prog 7 1 1 := Fld.of (by kernel_rfl)
theorem fl7_2 : Fld Try.prog 7 2 2 := Fld.of (by kernel_rfl)
theorem fl7_3 : Fld Try.prog 7 3 3 := Fld.of (by kernel_rfl)
theorem un8 : Try.prog.underlying 8 = some (dOf Try.prog 8) := und_of (by kernel_rfl)
theorem ty8 : Ty Try.prog 8 (dOf Try.prog 8) 4 24 (List.replicate 2 (I 0) ++ [Value.bool false] ++ [B 0]) := Ty.of (v := .agg (List.replicate 2 (I 0) ++ [Value.bool false] ++ [B 0]).toArray) un8 (by kernel_rfl) (by kernel_rfl) (by kernel_rfl) (by kernel_rfl)
theorem ag8 : aggD (dOf Try.prog 8) = true := by kernel_rfl
theorem fl8_0 : Fld Try.prog 8 0 0 := Fld.of (by kernel_rfl)
theorem fl8_1 : Fld Try.prog 8 1 1 := Fld.of (by kernel_rfl)
theorem fl8_2 : Fld Try.prog 8 2 2 := Fld.of (by kernel_rfl)
theorem fl8_3 : Fld Try.prog 8 3 3 := Fld.of (by kernel_rfl)
theorem un9 : Try.prog.underlying 9 = some (.string) := by kernel_rfl
theorem ty9 : Ty Try.prog 9 (.string) 1 16 ([Value.string ⟨#[]⟩]) := Ty.of (v := Value.string ⟨#[]⟩) un9 (by kernel_rfl) (by kernel_rfl) (by kernel_rfl) (by kernel_rfl)
theorem un10 : Try.prog.underlying 10 = some (.string) := by kernel_rfl
theorem ty10 : Ty Try.prog 10 (.string) 1 16 ([Value.string ⟨#[]⟩]) := Ty.of (v := Value.string ⟨#[]⟩) un10 (by kernel_rfl) (by kernel_rfl) (by kernel_rfl) (by kernel_rfl)
theorem un11 : Try.prog.underlying 11 = some (.string) := by kernel_rfl
theorem ty11 : Ty Try.prog 11 (.string) 1 16 ([Value.string ⟨#[]⟩]) := Ty.of (v := Value.string ⟨#[]⟩) un11 (by kernel_rfl) (by kernel_rfl) (by kernel_rfl) (by kernel_rfl)
theorem un12 : Try.prog.underlying 12 = some (.int .u64) := by kernel_rfl
theorem ty12 : Ty Try.prog 12 (.int .u64) 1 8 ([V 0]) := Ty.of (v := V 0) un12 (by kernel_rfl) (by kernel_rfl) (by kernel_rfl) (by kernel_rfl)
theorem un15 : Try.prog.underlying 15 = some (.pointer 290) := by kernel_rfl
theorem ty15 : Ty Try.prog 15 (.pointer 290) 1 8 ([Value.pointer none]) := Ty.of (v := Value.pointer none) un15 (by kernel_rfl) (by kernel_rfl) (by kernel_rfl) (by kernel_rfl)
theorem un16 : Try.prog.underlying 16 = some (.pointer 293) := by kernel_rfl
theorem ty16 : Ty Try.prog 16 (.pointer 293) 1 8 ([Value.pointer none]) := Ty.of (v := Value.pointer none) un16 (by kernel_rfl) (by kernel_rfl) (by kernel_rfl) (by kernel_rfl)
theorem un17 : Try.prog.underlying 17 = some (.pointer 301) := by kernel_rfl
theorem ty17 : Ty Try.prog 17 (.pointer 301) 1 8 ([Value.pointer none]) := Ty.of (v := Value.pointer none) un17 (by kernel_rfl) (by kernel_rfl) (by kernel_rfl) (by kernel_rfl)
theorem un18 : Try.prog.underlying 18 = some (dOf Try.prog 18) := und_of (by kernel_rfl)
theorem ty18 : Ty Try.prog 18 (dOf Try.prog 18) 1 8 ([Value.pointer none]) := Ty.of (v := .agg ([Value.pointer none]).toArray) un18 (by kernel_rfl) (by kernel_rfl) (by kernel_rfl) (by kernel_rfl)
theorem ag18 : aggD (dOf Try.prog 18) = true := by kernel_rfl
theorem fl18_0 : Fld Try.prog 18 0 0 := Fld.of (by kernel_rfl)
theorem un19 : Try.prog.underlying 19 = some (dOf Try.prog 19) := und_of (by kernel_rfl)
theorem ty19 : Ty Try.prog 19 (dOf Try.prog 19) 1 8 ([Value.pointer none]) := Ty.of (v := .agg ([Value.pointer none]).toArray) un19 (by kernel_rfl) (by kernel_rfl) (by kernel_rfl) (by kernel_rfl)
theorem ag19 : aggD (dOf Try.prog 19) = true := by kernel_rfl
theorem fl19_0 : Fld Try.prog 19 0 0 := Fld.of (by kernel_rfl)
theorem un21 : Try.prog.underlying 21 = some (.int .i32) := by kernel_rfl
theorem ty21 : Ty Try.prog 21 (.int .i32) 1 4 ([Value.int .i32 0]) := Ty.of (v := Value.int .i32 0) un21 (by kernel_rfl) (by kernel_rfl) (by kernel_rfl) (by kernel_rfl)
theorem un22 : Try.prog.underlying 22 = some (.array 16 5) := by kernel_rfl
theorem ty22 : Ty Try.prog 22 (.array 16 5) 16 16 ((List.replicate 16 (0 : UInt8)).map B) := Ty.of (v := .agg ((List.replicate 16 (0 : UInt8)).map B).toArray) un22 (by kernel_rfl) (by kernel_rfl) (by kernel_rfl) (by kernel_rfl)
theorem eg22 : Try.prog.eqGuardType Try.prog.depth 22 = false := by kernel_rfl
theorem un23 : Try.prog.underlying 23 = some (.array 68 5) := by kernel_rfl
theorem ty23 : Ty Try.prog 23 (.array 68 5) 68 68 ((List.replicate 68 (0 : UInt8)).map B) := Ty.of (v := .agg ((List.replicate 68 (0 : UInt8)).map B).toArray) un23 (by kernel_rfl) (by kernel_rfl) (by kernel_rfl) (by kernel_rfl)
theorem eg23 : Try.prog.eqGuardType Try.prog.depth 23 = false := by kernel_rfl
theorem un27 : Try.prog.underlying 27 = some (.int .u32) := by kernel_rfl
theorem ty27 : Ty Try.prog 27 (.int .u32) 1 4 ([U 0]) := Ty.of (v := U 0) un27 (by kernel_rfl) (by kernel_rfl) (by kernel_rfl) (by kernel_rfl)
theorem un28 : Try.prog.underlying 28 = some (dOf Try.prog 28) := und_of (by kernel_rfl)
theorem ty28 : Ty Try.prog 28 (dOf Try.prog 28) 2 16 ([I 0] ++ [U 0]) := Ty.of (v := .agg ([I 0] ++ [U 0]).toArray) un28 (by kernel_rfl) (by kernel_rfl) (by kernel_rfl) (by kernel_rfl)
theorem eg28 : Try.prog.eqGuardType Try.prog.depth 28 = false := by kernel_rfl
theorem ag28 : aggD (dOf Try.prog 28) = true := by kernel_rfl
theorem fl28_0 : Fld Try.prog 28 0 0 := Fld.of (by kernel_rfl)
theorem fl28_1 : Fld Try.prog 28 1 1 := Fld.of (by kernel_rfl)
theorem un29 : Try.prog.underlying 29 = some (dOf Try.prog 29) := und_of (by kernel_rfl)
theorem ty29 : Ty Try.prog 29 (dOf Try.prog 29) 2 16 ([I 0] ++ [U 0]) := Ty.of (v := .agg ([I 0] ++ [U 0]).toArray) un29 (by kernel_rfl) (by kernel_rfl) (by kernel_rfl) (by kernel_rfl)
theorem eg29 : Try.prog.eqGuardType Try.prog.depth 29 = false := by kernel_rfl
theorem ag29 : aggD (dOf Try.prog 29) = true := by kernel_rfl
theorem fl29_0 : Fld Try.prog 29 0 0 := Fld.of (by kernel_rfl)
theorem fl29_1 : Fld Try.prog 29 1 1 := Fld.of (by kernel_rfl)
theorem un30 : Try.prog.underlying 30 = some (.slice 34) := by kernel_rfl
theorem ty30 : Ty Try.prog 30 (.slice 34) 1 24 ([Value.slice none 0 0]) := Ty.of (v := Value.slice none 0 0) un30 (by kernel_rfl) (by kernel_rfl) (by kernel_rfl) (by kernel_rfl)
theorem un33 : Try.prog.underlying 33 = some (.array 68 22) := by kernel_rfl
theorem ty33 : Ty Try.prog 33 (.array 68 22) 1088 1088 ((List.replicate 1088 (0 : UInt8)).map B) := Ty.of (v := .agg ((List.replicate 1088 (0 : UInt8)).map B).toArray) un33 (by kernel_rfl) (by kernel_rfl) (by kernel_rfl) (by kernel_rfl)
theorem eg33 : Try.prog.eqGuardType Try.prog.depth 33 = false := by kernel_rfl
theorem un34 : Try.prog.underlying 34 = some (.slice 5) := by kernel_rfl
theorem ty34 : Ty Try.prog 34 (.slice 5) 1 24 ([Value.slice none 0 0]) := Ty.of (v := Value.slice none 0 0) un34 (by kernel_rfl) (by kernel_rfl) (by kernel_rfl) (by kernel_rfl)
theorem un40 : Try.prog.underlying 40 = some (.array 32 5) := by kernel_rfl
theorem ty40 : Ty Try.prog 40 (.array 32 5) 32 32 ((List.replicate 32 (0 : UInt8)).map B) := Ty.of (v := .agg ((List.replicate 32 (0 : UInt8)).map B).toArray) un40 (by kernel_rfl) (by kernel_rfl) (by kernel_rfl) (by kernel_rfl)
theorem eg40 : Try.prog.eqGuardType Try.prog.depth 40 = false := by kernel_rfl
theorem un41 : Try.prog.underlying 41 = some (.array 32 5) := by kernel_rfl
theorem ty41 : Ty Try.prog 41 (.array 32 5) 32 32 ((List.replicate 32 (0 : UInt8)).map B) := Ty.of (v := .agg ((List.replicate 32 (0 : UInt8)).map B).toArray) un41 (by kernel_rfl) (by kernel_rfl) (by kernel_rfl) (by kernel_rfl)
theorem eg41 : Try.prog.eqGuardType Try.prog.depth 41 = false := by kernel_rfl
theorem un48 : Try.prog.underlying 48 = some (.pointer 213) := by kernel_rfl
theorem ty48 : Ty Try.prog 48 (.pointer 213) 1 8 ([Value.pointer none]) := Ty.of (v := Value.pointer none) un48 (by kernel_rfl) (by kernel_rfl) (by kernel_rfl) (by kernel_rfl)
theorem un54 : Try.prog.underlying 54 = some (.array 16 5) := by kernel_rfl
theorem ty54 : Ty Try.prog 54 (.array 16 5) 16 16 ((List.replicate 16 (0 : UInt8)).map B) := Ty.of (v := .agg ((List.replicate 16 (0 : UInt8)).map B).toArray) un54 (by kernel_rfl) (by kernel_rfl) (by kernel_rfl) (by kernel_rfl)
theorem eg54 : Try.prog.eqGuardType Try.prog.depth 54 = false := by kernel_rfl
theorem un56 : Try.prog.underlying 56 = some (dOf Try.prog 56) := und_of (by kernel_rfl)
theorem ty56 : Ty Try.prog 56 (dOf Try.prog 56) 2 16 ([I 0] ++ [U 0]) := Ty.of (v := .agg ([I 0] ++ [U 0]).toArray) un56 (by kernel_rfl) (by kernel_rfl) (by kernel_rfl) (by kernel_rfl)
theorem eg56 : Try.prog.eqGuardType Try.prog.depth 56 = false := by kernel_rfl
theorem ag56 : aggD (dOf Try.prog 56) = true := by kernel_rfl
theorem fl56_0 : Fld Try.prog 56 0 0 := Fld.of (by kernel_rfl)
theorem fl56_1 : Fld Try.prog 56 1 1 := Fld.of (by kernel_rfl)
theorem un61 : Try.prog.underlying 61 = some (.int .i64) := by kernel_rfl
theorem ty61 : Ty Try.prog 61 (.int .i64) 1 8 ([I 0]) := Ty.of (v := I 0) un61 (by kernel_rfl) (by kernel_rfl) (by kernel_rfl) (by kernel_rfl)
theorem un69 : Try.prog.underlying 69 = some (.array 68 54) := by kernel_rfl
theorem ty69 : Ty Try.prog 69 (.array 68 54) 1088 1088 ((List.replicate 1088 (0 : UInt8)).map B) := Ty.of (v := .agg ((List.replicate 1088 (0 : UInt8)).map B).toArray) un69 (by kernel_rfl) (by kernel_rfl) (by kernel_rfl) (by kernel_rfl)
theorem eg69 : Try.prog.eqGuardType Try.prog.depth 69 = false := by kernel_rfl
theorem un70 : Try.prog.underlying 70 = some (.array 68 54) := by kernel_rfl
theorem ty70 : Ty Try.prog 70 (.array 68 54) 1088 1088 ((List.replicate 1088 (0 : UInt8)).map B) := Ty.of (v := .agg ((List.replicate 1088 (0 : UInt8)).map B).toArray) un70 (by kernel_rfl) (by kernel_rfl) (by kernel_rfl) (by kernel_rfl)
theorem eg70 : Try.prog.eqGuardType Try.prog.depth 70 = false := by kernel_rfl
theorem un75 : Try.prog.underlying 75 = some (.int .u64) := by kernel_rfl
theorem ty75 : Ty Try.prog 75 (.int .u64) 1 8 ([V 0]) := Ty.of (v := V 0) un75 (by kernel_rfl) (by kernel_rfl) (by kernel_rfl) (by kernel_rfl)
theorem un80 : Try.prog.underlying 80 = some (dOf Try.prog 80) := und_of (by kernel_rfl)
theorem ty80 : Ty Try.prog 80 (dOf Try.prog 80) 3 16 ([I 0] ++ (List.replicate 2 (0 : UInt32)).map U) := Ty.of (v := .agg ([I 0] ++ (List.replicate 2 (0 : UInt32)).map U).toArray) un80 (by kernel_rfl) (by kernel_rfl) (by kernel_rfl) (by kernel_rfl)
theorem eg80 : Try.prog.eqGuardType Try.prog.depth 80 = false := by kernel_rfl
theorem ag80 : aggD (dOf Try.prog 80) = true := by kernel_rfl
theorem fl80_0 : Fld Try.prog 80 0 0 := Fld.of (by kernel_rfl)
theorem fl80_1 : Fld Try.prog 80 1 1 := Fld.of (by kernel_rfl)
theorem fl80_2 : Fld Try.prog 80 2 2 := Fld.of (by kernel_rfl)
theorem un81 : Try.prog.underlying 81 = some (dOf Try.prog 81) := und_of (by kernel_rfl)
theorem ty81 : Ty Try.prog 81 (dOf Try.prog 81) 3 16 ([I 0] ++ (List.replicate 2 (0 : UInt32)).map U) := Ty.of (v := .agg ([I 0] ++ (List.replicate 2 (0 : UInt32)).map U).toArray) un81 (by kernel_rfl) (by kernel_rfl) (by kernel_rfl) (by kernel_rfl)
theorem eg81 : Try.prog.eqGuardType Try.prog.depth 81 = false := by kernel_rfl
theorem ag81 : aggD (dOf Try.prog 81) = true := by kernel_rfl
theorem fl81_0 : Fld Try.prog 81 0 0 := Fld.of (by kernel_rfl)
theorem fl81_1 : Fld Try.prog 81 1 1 := Fld.of (by kernel_rfl)
theorem fl81_2 : Fld Try.prog 81 2 2 := Fld.of (by kernel_rfl)
theorem un84 : Try.prog.underlying 84 = some (dOf Try.prog 84) := und_of (by kernel_rfl)
theorem ty84 : Ty Try.prog 84 (dOf Try.prog 84) 3 16 ([I 0] ++ (List.replicate 2 (0 : UInt32)).map U) := Ty.of (v := .agg ([I 0] ++ (List.replicate 2 (0 : UInt32)).map U).toArray) un84 (by kernel_rfl) (by kernel_rfl) (by kernel_rfl) (by kernel_rfl)
theorem eg84 : Try.prog.eqGuardType Try.prog.depth 84 = false := by kernel_rfl
theorem ag84 : aggD (dOf Try.prog 84) = true := by kernel_rfl
theorem fl84_0 : Fld Try.prog 84 0 0 := Fld.of (by kernel_rfl)
theorem fl84_1 : Fld Try.prog 84 1 1 := Fld.of (by kernel_rfl)
theorem fl84_2 : Fld Try.prog 84 2 2 := Fld.of (by kernel_rfl)
theorem un98 : Try.prog.underlying 98 = some (.int .u16) := by kernel_rfl
theorem ty98 : Ty Try.prog 98 (.int .u16) 1 2 ([Value.int .u16 0]) := Ty.of (v := Value.int .u16 0) un98 (by kernel_rfl) (by kernel_rfl) (by kernel_rfl) (by kernel_rfl)
theorem un109 : Try.prog.underlying 109 = some (.slice 22) := by kernel_rfl
theorem ty109 : Ty Try.prog 109 (.slice 22) 1 24 ([Value.slice none 0 0]) := Ty.of (v := Value.slice none 0 0) un109 (by kernel_rfl) (by kernel_rfl) (by kernel_rfl) (by kernel_rfl)
theorem un110 : Try.prog.underlying 110 = some (.slice 54) := by kernel_rfl
theorem ty110 : Ty Try.prog 110 (.slice 54) 1 24 ([Value.slice none 0 0]) := Ty.of (v := Value.slice none 0 0) un110 (by kernel_rfl) (by kernel_rfl) (by kernel_rfl) (by kernel_rfl)
theorem un112 : Try.prog.underlying 112 = some (.pointer 231) := by kernel_rfl
theorem ty112 : Ty Try.prog 112 (.pointer 231) 1 8 ([Value.pointer none]) := Ty.of (v := Value.pointer none) un112 (by kernel_rfl) (by kernel_rfl) (by kernel_rfl) (by kernel_rfl)
theorem un124 : Try.prog.underlying 124 = some (.slice 210) := by kernel_rfl
theorem ty124 : Ty Try.prog 124 (.slice 210) 1 24 ([Value.slice none 0 0]) := Ty.of (v := Value.slice none 0 0) un124 (by kernel_rfl) (by kernel_rfl) (by kernel_rfl) (by kernel_rfl)
theorem un157 : Try.prog.underlying 157 = some (dOf Try.prog 157) := und_of (by kernel_rfl)
theorem ty157 : Ty Try.prog 157 (dOf Try.prog 157) 3 24 (List.replicate 3 (I 0)) := Ty.of (v := .agg (List.replicate 3 (I 0)).toArray) un157 (by kernel_rfl) (by kernel_rfl) (by kernel_rfl) (by kernel_rfl)
theorem eg157 : Try.prog.eqGuardType Try.prog.depth 157 = false := by kernel_rfl
theorem ag157 : aggD (dOf Try.prog 157) = true := by kernel_rfl
theorem fl157_0 : Fld Try.prog 157 0 0 := Fld.of (by kernel_rfl)
theorem fl157_1 : Fld Try.prog 157 1 1 := Fld.of (by kernel_rfl)
theorem fl157_2 : Fld Try.prog 157 2 2 := Fld.of (by kernel_rfl)
theorem un158 : Try.prog.underlying 158 = some (dOf Try.prog 158) := und_of (by kernel_rfl)
theorem ty158 : Ty Try.prog 158 (dOf Try.prog 158) 3 24 (List.replicate 3 (I 0)) := Ty.of (v := .agg (List.replicate 3 (I 0)).toArray) un158 (by kernel_rfl) (by kernel_rfl) (by kernel_rfl) (by kernel_rfl)
theorem eg158 : Try.prog.eqGuardType Try.prog.depth 158 = false := by kernel_rfl
theorem ag158 : aggD (dOf Try.prog 158) = true := by kernel_rfl
theorem fl158_0 : Fld Try.prog 158 0 0 := Fld.of (by kernel_rfl)
theorem fl158_1 : Fld Try.prog 158 1 1 := Fld.of (by kernel_rfl)
theorem fl158_2 : Fld Try.prog 158 2 2 := Fld.of (by kernel_rfl)
theorem un159 : Try.prog.underlying 159 = some (.pointer 251) := by kernel_rfl
theorem ty159 : Ty Try.prog 159 (.pointer 251) 1 8 ([Value.pointer none]) := Ty.of (v := Value.pointer none) un159 (by kernel_rfl) (by kernel_rfl) (by kernel_rfl) (by kernel_rfl)
theorem un162 : Try.prog.underlying 162 = some (dOf Try.prog 162) := und_of (by kernel_rfl)
theorem ty162 : Ty Try.prog 162 (dOf Try.prog 162) 3 24 (List.replicate 3 (I 0)) := Ty.of (v := .agg (List.replicate 3 (I 0)).toArray) un162 (by kernel_rfl) (by kernel_rfl) (by kernel_rfl) (by kernel_rfl)
theorem eg162 : Try.prog.eqGuardType Try.prog.depth 162 = false := by kernel_rfl
theorem ag162 : aggD (dOf Try.prog 162) = true := by kernel_rfl
theorem fl162_0 : Fld Try.prog 162 0 0 := Fld.of (by kernel_rfl)
theorem fl162_1 : Fld Try.prog 162 1 1 := Fld.of (by kernel_rfl)
theorem fl162_2 : Fld Try.prog 162 2 2 := Fld.of (by kernel_rfl)
theorem un169 : Try.prog.underlying 169 = some (.slice 3) := by kernel_rfl
theorem ty169 : Ty Try.prog 169 (.slice 3) 1 24 ([Value.slice none 0 0]) := Ty.of (v := Value.slice none 0 0) un169 (by kernel_rfl) (by kernel_rfl) (by kernel_rfl) (by kernel_rfl)
theorem un171 : Try.prog.underlying 171 = some (.map 3 54) := by kernel_rfl
theorem ty171 : Ty Try.prog 171 (.map 3 54) 1 8 ([Value.map none]) := Ty.of (v := Value.map none) un171 (by kernel_rfl) (by kernel_rfl) (by kernel_rfl) (by kernel_rfl)
theorem un175 : Try.prog.underlying 175 = some (dOf Try.prog 175) := und_of (by kernel_rfl)
theorem ty175 : Ty Try.prog 175 (dOf Try.prog 175) 3 16 ((List.replicate 2 (0 : UInt32)).map U ++ [I 0]) := Ty.of (v := .agg ((List.replicate 2 (0 : UInt32)).map U ++ [I 0]).toArray) un175 (by kernel_rfl) (by kernel_rfl) (by kernel_rfl) (by kernel_rfl)
theorem eg175 : Try.prog.eqGuardType Try.prog.depth 175 = false := by kernel_rfl
theorem ag175 : aggD (dOf Try.prog 175) = true := by kernel_rfl
theorem fl175_0 : Fld Try.prog 175 0 0 := Fld.of (by kernel_rfl)
theorem fl175_1 : Fld Try.prog 175 1 1 := Fld.of (by kernel_rfl)
theorem fl175_2 : Fld Try.prog 175 2 2 := Fld.of (by kernel_rfl)
theorem un176 : Try.prog.underlying 176 = some (dOf Try.prog 176) := und_of (by kernel_rfl)
theorem ty176 : Ty Try.prog 176 (dOf Try.prog 176) 3 16 ((List.replicate 2 (0 : UInt32)).map U ++ [I 0]) := Ty.of (v := .agg ((List.replicate 2 (0 : UInt32)).map U ++ [I 0]).toArray) un176 (by kernel_rfl) (by kernel_rfl) (by kernel_rfl) (by kernel_rfl)
theorem eg176 : Try.prog.eqGuardType Try.prog.depth 176 = false := by kernel_rfl
theorem ag176 : aggD (dOf Try.prog 176) = true := by kernel_rfl
theorem fl176_0 : Fld Try.prog 176 0 0 := Fld.of (by kernel_rfl)
theorem fl176_1 : Fld Try.prog 176 1 1 := Fld.of (by kernel_rfl)
theorem fl176_2 : Fld Try.prog 176 2 2 := Fld.of (by kernel_rfl)
theorem un177 : Try.prog.underlying 177 = some (dOf Try.prog 177) := und_of (by kernel_rfl)
theorem ty177 : Ty Try.prog 177 (dOf Try.prog 177) 5 32 ([I 0] ++ (List.replicate 2 (0 : UInt32)).map U ++ List.replicate 2 (I 0)) := Ty.of (v := .agg ([I 0] ++ (List.replicate 2 (0 : UInt32)).map U ++ List.replicate 2 (I 0)).toArray) un177 (by kernel_rfl) (by kernel_rfl) (by kernel_rfl) (by kernel_rfl)
theorem eg177 : Try.prog.eqGuardType Try.prog.depth 177 = false := by kernel_rfl
theorem ag177 : aggD (dOf Try.prog 177) = true := by kernel_rfl
theorem fl177_0 : Fld Try.prog 177 0 0 := Fld.of (by kernel_rfl)
theorem fl177_1 : Fld Try.prog 177 1 1 := Fld.of (by kernel_rfl)
theorem fl177_2 : Fld Try.prog 177 2 4 := Fld.of (by kernel_rfl)
theorem un178 : Try.prog.underlying 178 = some (dOf Try.prog 178) := und_of (by kernel_rfl)
theorem ty178 : Ty Try.prog 178 (dOf Try.prog 178) 5 32 ([I 0] ++ (List.replicate 2 (0 : UInt32)).map U ++ List.replicate 2 (I 0)) := Ty.of (v := .agg ([I 0] ++ (List.replicate 2 (0 : UInt32)).map U ++ List.replicate 2 (I 0)).toArray) un178 (by kernel_rfl) (by kernel_rfl) (by kernel_rfl) (by kernel_rfl)
theorem eg178 : Try.prog.eqGuardType Try.prog.depth 178 = false := by kernel_rfl
theorem ag178 : aggD (dOf Try.prog 178) = true := by kernel_rfl
theorem fl178_0 : Fld Try.prog 178 0 0 := Fld.of (by kernel_rfl)
theorem fl178_1 : Fld Try.prog 178 1 1 := Fld.of (by kernel_rfl)
theorem fl178_2 : Fld Try.prog 178 2 4 := Fld.of (by kernel_rfl)
theorem un180 : Try.prog.underlying 180 = some (dOf Try.prog 180) := und_of (by kernel_rfl)
theorem ty180 : Ty Try.prog 180 (dOf Try.prog 180) 3 16 ((List.replicate 2 (0 : UInt32)).map U ++ [I 0]) := Ty.of (v := .agg ((List.replicate 2 (0 : UInt32)).map U ++ [I 0]).toArray) un180 (by kernel_rfl) (by kernel_rfl) (by kernel_rfl) (by kernel_rfl)
theorem eg180 : Try.prog.eqGuardType Try.prog.depth 180 = false := by kernel_rfl
theorem ag180 : aggD (dOf Try.prog 180) = true := by kernel_rfl
theorem fl180_0 : Fld Try.prog 180 0 0 := Fld.of (by kernel_rfl)
theorem fl180_1 : Fld Try.prog 180 1 1 := Fld.of (by kernel_rfl)
theorem fl180_2 : Fld Try.prog 180 2 2 := Fld.of (by kernel_rfl)
theorem un181 : Try.prog.underlying 181 = some (dOf Try.prog 181) := und_of (by kernel_rfl)
theorem ty181 : Ty Try.prog 181 (dOf Try.prog 181) 5 32 ([I 0] ++ (List.replicate 2 (0 : UInt32)).map U ++ List.replicate 2 (I 0)) := Ty.of (v := .agg ([I 0] ++ (List.replicate 2 (0 : UInt32)).map U ++ List.replicate 2 (I 0)).toArray) un181 (by kernel_rfl) (by kernel_rfl) (by kernel_rfl) (by kernel_rfl)
theorem eg181 : Try.prog.eqGuardType Try.prog.depth 181 = false := by kernel_rfl
theorem ag181 : aggD (dOf Try.prog 181) = true := by kernel_rfl
theorem fl181_0 : Fld Try.prog 181 0 0 := Fld.of (by kernel_rfl)
theorem fl181_1 : Fld Try.prog 181 1 1 := Fld.of (by kernel_rfl)
theorem fl181_2 : Fld Try.prog 181 2 4 := Fld.of (by kernel_rfl)
theorem un182 : Try.prog.underlying 182 = some (dOf Try.prog 182) := und_of (by kernel_rfl)
theorem ty182 : Ty Try.prog 182 (dOf Try.prog 182) 5 32 ([I 0] ++ (List.replicate 2 (0 : UInt32)).map U ++ List.replicate 2 (I 0)) := Ty.of (v := .agg ([I 0] ++ (List.replicate 2 (0 : UInt32)).map U ++ List.replicate 2 (I 0)).toArray) un182 (by kernel_rfl) (by kernel_rfl) (by kernel_rfl) (by kernel_rfl)
theorem eg182 : Try.prog.eqGuardType Try.prog.depth 182 = false := by kernel_rfl
theorem ag182 : aggD (dOf Try.prog 182) = true := by kernel_rfl
theorem fl182_0 : Fld Try.prog 182 0 0 := Fld.of (by kernel_rfl)
theorem fl182_1 : Fld Try.prog 182 1 1 := Fld.of (by kernel_rfl)
theorem fl182_2 : Fld Try.prog 182 2 4 := Fld.of (by kernel_rfl)
theorem un191 : Try.prog.underlying 191 = some (dOf Try.prog 191) := und_of (by kernel_rfl)
theorem ty191 : Ty Try.prog 191 (dOf Try.prog 191) 18 64 ((List.replicate 16 (0 : UInt8)).map B ++ List.replicate 2 (Value.slice none 0 0)) := Ty.of (v := .agg ((List.replicate 16 (0 : UInt8)).map B ++ List.replicate 2 (Value.slice none 0 0)).toArray) un191 (by kernel_rfl) (by kernel_rfl) (by kernel_rfl) (by kernel_rfl)
theorem ag191 : aggD (dOf Try.prog 191) = true := by kernel_rfl
theorem fl191_0 : Fld Try.prog 191 0 0 := Fld.of (by kernel_rfl)
theorem fl191_1 : Fld Try.prog 191 1 16 := Fld.of (by kernel_rfl)
theorem fl191_2 : Fld Try.prog 191 2 17 := Fld.of (by kernel_rfl)
theorem un192 : Try.prog.underlying 192 = some (dOf Try.prog 192) := und_of (by kernel_rfl)
theorem ty192 : Ty Try.prog 192 (dOf Try.prog 192) 18 64 ((List.replicate 16 (0 : UInt8)).map B ++ List.replicate 2 (Value.slice none 0 0)) := Ty.of (v := .agg ((List.replicate 16 (0 : UInt8)).map B ++ List.replicate 2 (Value.slice none 0 0)).toArray) un192 (by kernel_rfl) (by kernel_rfl) (by kernel_rfl) (by kernel_rfl)
theorem ag192 : aggD (dOf Try.prog 192) = true := by kernel_rfl
theorem fl192_0 : Fld Try.prog 192 0 0 := Fld.of (by kernel_rfl)
theorem fl192_1 : Fld Try.prog 192 1 16 := Fld.of (by kernel_rfl)
theorem fl192_2 : Fld Try.prog 192 2 17 := Fld.of (by kernel_rfl)
theorem un196 : Try.prog.underlying 196 = some (dOf Try.prog 196) := und_of (by kernel_rfl)
theorem ty196 : Ty Try.prog 196 (dOf Try.prog 196) 21 64 ([I 0] ++ (List.replicate 2 (0 : UInt32)).map U ++ [I 0] ++ (List.replicate 16 (0 : UInt8)).map B ++ [Value.slice none 0 0]) := Ty.of (v := .agg ([I 0] ++ (List.replicate 2 (0 : UInt32)).map U ++ [I 0] ++ (List.replicate 16 (0 : UInt8)).map B ++ [Value.slice none 0 0]).toArray) un196 (by kernel_rfl) (by kernel_rfl) (by kernel_rfl) (by kernel_rfl)
theorem ag196 : aggD (dOf Try.prog 196) = true := by kernel_rfl
theorem fl196_0 : Fld Try.prog 196 0 0 := Fld.of (by kernel_rfl)
theorem fl196_1 : Fld Try.prog 196 1 1 := Fld.of (by kernel_rfl)
theorem fl196_2 : Fld Try.prog 196 2 4 := Fld.of (by kernel_rfl)
theorem fl196_3 : Fld Try.prog 196 3 20 := Fld.of (by kernel_rfl)
theorem un197 : Try.prog.underlying 197 = some (dOf Try.prog 197) := und_of (by kernel_rfl)
theorem ty197 : Ty Try.prog 197 (dOf Try.prog 197) 21 64 ([I 0] ++ (List.replicate 2 (0 : UInt32)).map U ++ [I 0] ++ (List.replicate 16 (0 : UInt8)).map B ++ [Value.slice none 0 0]) := Ty.of (v := .agg ([I 0] ++ (List.replicate 2 (0 : UInt32)).map U ++ [I 0] ++ (List.replicate 16 (0 : UInt8)).map B ++ [Value.slice none 0 0]).toArray) un197 (by kernel_rfl) (by kernel_rfl) (by kernel_rfl) (by kernel_rfl)
theorem ag197 : aggD (dOf Try.prog 197) = true := by kernel_rfl
theorem fl197_0 : Fld Try.prog 197 0 0 := Fld.of (by kernel_rfl)
theorem fl197_1 : Fld Try.prog 197 1 1 := Fld.of (by kernel_rfl)
theorem fl197_2 : Fld Try.prog 197 2 4 := Fld.of (by kernel_rfl)
theorem fl197_3 : Fld Try.prog 197 3 20 := Fld.of (by kernel_rfl)
theorem un205 : Try.prog.underlying 205 = some (.array 8 27) := by kernel_rfl
theorem ty205 : Ty Try.prog 205 (.array 8 27) 8 32 ((List.replicate 8 (0 : UInt32)).map U) := Ty.of (v := .agg ((List.replicate 8 (0 : UInt32)).map U).toArray) un205 (by kernel_rfl) (by kernel_rfl) (by kernel_rfl) (by kernel_rfl)
theorem eg205 : Try.prog.eqGuardType Try.prog.depth 205 = false := by kernel_rfl
theorem un207 : Try.prog.underlying 207 = some (.array 64 27) := by kernel_rfl
theorem ty207 : Ty Try.prog 207 (.array 64 27) 64 256 ((List.replicate 64 (0 : UInt32)).map U) := Ty.of (v := .agg ((List.replicate 64 (0 : UInt32)).map U).toArray) un207 (by kernel_rfl) (by kernel_rfl) (by kernel_rfl) (by kernel_rfl)
theorem eg207 : Try.prog.eqGuardType Try.prog.depth 207 = false := by kernel_rfl
theorem un210 : Try.prog.underlying 210 = some (.int .u64) := by kernel_rfl
theorem ty210 : Ty Try.prog 210 (.int .u64) 1 8 ([V 0]) := Ty.of (v := V 0) un210 (by kernel_rfl) (by kernel_rfl) (by kernel_rfl) (by kernel_rfl)
theorem un211 : Try.prog.underlying 211 = some (.array 8 5) := by kernel_rfl
theorem ty211 : Ty Try.prog 211 (.array 8 5) 8 8 ((List.replicate 8 (0 : UInt8)).map B) := Ty.of (v := .agg ((List.replicate 8 (0 : UInt8)).map B).toArray) un211 (by kernel_rfl) (by kernel_rfl) (by kernel_rfl) (by kernel_rfl)
theorem eg211 : Try.prog.eqGuardType Try.prog.depth 211 = false := by kernel_rfl
theorem un212 : Try.prog.underlying 212 = some (dOf Try.prog 212) := und_of (by kernel_rfl)
theorem ty212 : Ty Try.prog 212 (dOf Try.prog 212) 11 72 ((List.replicate 8 (0 : UInt32)).map U ++ [Value.slice none 0 0] ++ [V 0] ++ [I 0]) := Ty.of (v := .agg ((List.replicate 8 (0 : UInt32)).map U ++ [Value.slice none 0 0] ++ [V 0] ++ [I 0]).toArray) un212 (by kernel_rfl) (by kernel_rfl) (by kernel_rfl) (by kernel_rfl)
theorem ag212 : aggD (dOf Try.prog 212) = true := by kernel_rfl
theorem fl212_0 : Fld Try.prog 212 0 0 := Fld.of (by kernel_rfl)
theorem fl212_1 : Fld Try.prog 212 1 8 := Fld.of (by kernel_rfl)
theorem fl212_2 : Fld Try.prog 212 2 9 := Fld.of (by kernel_rfl)
theorem fl212_3 : Fld Try.prog 212 3 10 := Fld.of (by kernel_rfl)
theorem un213 : Try.prog.underlying 213 = some (dOf Try.prog 213) := und_of (by kernel_rfl)
theorem ty213 : Ty Try.prog 213 (dOf Try.prog 213) 11 72 ((List.replicate 8 (0 : UInt32)).map U ++ [Value.slice none 0 0] ++ [V 0] ++ [I 0]) := Ty.of (v := .agg ((List.replicate 8 (0 : UInt32)).map U ++ [Value.slice none 0 0] ++ [V 0] ++ [I 0]).toArray) un213 (by kernel_rfl) (by kernel_rfl) (by kernel_rfl) (by kernel_rfl)
theorem ag213 : aggD (dOf Try.prog 213) = true := by kernel_rfl
theorem fl213_0 : Fld Try.prog 213 0 0 := Fld.of (by kernel_rfl)
theorem fl213_1 : Fld Try.prog 213 1 8 := Fld.of (by kernel_rfl)
theorem fl213_2 : Fld Try.prog 213 2 9 := Fld.of (by kernel_rfl)
theorem fl213_3 : Fld Try.prog 213 3 10 := Fld.of (by kernel_rfl)
theorem un222 : Try.prog.underlying 222 = some (.slice 110) := by kernel_rfl
theorem ty222 : Ty Try.prog 222 (.slice 110) 1 24 ([Value.slice none 0 0]) := Ty.of (v := Value.slice none 0 0) un222 (by kernel_rfl) (by kernel_rfl) (by kernel_rfl) (by kernel_rfl)
theorem un226 : Try.prog.underlying 226 = some (.array 64 5) := by kernel_rfl
theorem ty226 : Ty Try.prog 226 (.array 64 5) 64 64 ((List.replicate 64 (0 : UInt8)).map B) := Ty.of (v := .agg ((List.replicate 64 (0 : UInt8)).map B).toArray) un226 (by kernel_rfl) (by kernel_rfl) (by kernel_rfl) (by kernel_rfl)
theorem eg226 : Try.prog.eqGuardType Try.prog.depth 226 = false := by kernel_rfl
theorem un230 : Try.prog.underlying 230 = some (dOf Try.prog 230) := und_of (by kernel_rfl)
theorem ty230 : Ty Try.prog 230 (dOf Try.prog 230) 3 40 ([I 0] ++ [U 0] ++ [Value.slice none 0 0]) := Ty.of (v := .agg ([I 0] ++ [U 0] ++ [Value.slice none 0 0]).toArray) un230 (by kernel_rfl) (by kernel_rfl) (by kernel_rfl) (by kernel_rfl)
theorem ag230 : aggD (dOf Try.prog 230) = true := by kernel_rfl
theorem fl230_0 : Fld Try.prog 230 0 0 := Fld.of (by kernel_rfl)
theorem fl230_1 : Fld Try.prog 230 1 1 := Fld.of (by kernel_rfl)
theorem fl230_2 : Fld Try.prog 230 2 2 := Fld.of (by kernel_rfl)
theorem un231 : Try.prog.underlying 231 = some (dOf Try.prog 231) := und_of (by kernel_rfl)
theorem ty231 : Ty Try.prog 231 (dOf Try.prog 231) 3 40 ([I 0] ++ [U 0] ++ [Value.slice none 0 0]) := Ty.of (v := .agg ([I 0] ++ [U 0] ++ [Value.slice none 0 0]).toArray) un231 (by kernel_rfl) (by kernel_rfl) (by kernel_rfl) (by kernel_rfl)
theorem ag231 : aggD (dOf Try.prog 231) = true := by kernel_rfl
theorem fl231_0 : Fld Try.prog 231 0 0 := Fld.of (by kernel_rfl)
theorem fl231_1 : Fld Try.prog 231 1 1 := Fld.of (by kernel_rfl)
theorem fl231_2 : Fld Try.prog 231 2 2 := Fld.of (by kernel_rfl)
theorem un235 : Try.prog.underlying 235 = some (.slice 266) := by kernel_rfl
theorem ty235 : Ty Try.prog 235 (.slice 266) 1 24 ([Value.slice none 0 0]) := Ty.of (v := Value.slice none 0 0) un235 (by kernel_rfl) (by kernel_rfl) (by kernel_rfl) (by kernel_rfl)
theorem un239 : Try.prog.underlying 239 = some (dOf Try.prog 239) := und_of (by kernel_rfl)
theorem ty239 : Ty Try.prog 239 (dOf Try.prog 239) 1 4 ([U 0]) := Ty.of (v := .agg ([U 0]).toArray) un239 (by kernel_rfl) (by kernel_rfl) (by kernel_rfl) (by kernel_rfl)
theorem eg239 : Try.prog.eqGuardType Try.prog.depth 239 = false := by kernel_rfl
theorem ag239 : aggD (dOf Try.prog 239) = true := by kernel_rfl
theorem fl239_1 : Fld Try.prog 239 1 0 := Fld.of (by kernel_rfl)
theorem un240 : Try.prog.underlying 240 = some (dOf Try.prog 240) := und_of (by kernel_rfl)
theorem ty240 : Ty Try.prog 240 (dOf Try.prog 240) 1 4 ([U 0]) := Ty.of (v := .agg ([U 0]).toArray) un240 (by kernel_rfl) (by kernel_rfl) (by kernel_rfl) (by kernel_rfl)
theorem eg240 : Try.prog.eqGuardType Try.prog.depth 240 = false := by kernel_rfl
theorem ag240 : aggD (dOf Try.prog 240) = true := by kernel_rfl
theorem fl240_1 : Fld Try.prog 240 1 0 := Fld.of (by kernel_rfl)
theorem un241 : Try.prog.underlying 241 = some (dOf Try.prog 241) := und_of (by kernel_rfl)
theorem ty241 : Ty Try.prog 241 (dOf Try.prog 241) 2 8 ([Value.int .i32 0] ++ [U 0]) := Ty.of (v := .agg ([Value.int .i32 0] ++ [U 0]).toArray) un241 (by kernel_rfl) (by kernel_rfl) (by kernel_rfl) (by kernel_rfl)
theorem eg241 : Try.prog.eqGuardType Try.prog.depth 241 = false := by kernel_rfl
theorem ag241 : aggD (dOf Try.prog 241) = true := by kernel_rfl
theorem fl241_0 : Fld Try.prog 241 0 0 := Fld.of (by kernel_rfl)
theorem fl241_1 : Fld Try.prog 241 1 1 := Fld.of (by kernel_rfl)
theorem un242 : Try.prog.underlying 242 = some (dOf Try.prog 242) := und_of (by kernel_rfl)
theorem ty242 : Ty Try.prog 242 (dOf Try.prog 242) 2 8 ([Value.int .i32 0] ++ [U 0]) := Ty.of (v := .agg ([Value.int .i32 0] ++ [U 0]).toArray) un242 (by kernel_rfl) (by kernel_rfl) (by kernel_rfl) (by kernel_rfl)
theorem eg242 : Try.prog.eqGuardType Try.prog.depth 242 = false := by kernel_rfl
theorem ag242 : aggD (dOf Try.prog 242) = true := by kernel_rfl
theorem fl242_0 : Fld Try.prog 242 0 0 := Fld.of (by kernel_rfl)
theorem fl242_1 : Fld Try.prog 242 1 1 := Fld.of (by kernel_rfl)
theorem un243 : Try.prog.underlying 243 = some (dOf Try.prog 243) := und_of (by kernel_rfl)
theorem ty243 : Ty Try.prog 243 (dOf Try.prog 243) 2 8 ([Value.int .i32 0] ++ [U 0]) := Ty.of (v := .agg ([Value.int .i32 0] ++ [U 0]).toArray) un243 (by kernel_rfl) (by kernel_rfl) (by kernel_rfl) (by kernel_rfl)
theorem eg243 : Try.prog.eqGuardType Try.prog.depth 243 = false := by kernel_rfl
theorem ag243 : aggD (dOf Try.prog 243) = true := by kernel_rfl
theorem fl243_1 : Fld Try.prog 243 1 0 := Fld.of (by kernel_rfl)
theorem un244 : Try.prog.underlying 244 = some (dOf Try.prog 244) := und_of (by kernel_rfl)
theorem ty244 : Ty Try.prog 244 (dOf Try.prog 244) 2 8 ([Value.int .i32 0] ++ [U 0]) := Ty.of (v := .agg ([Value.int .i32 0] ++ [U 0]).toArray) un244 (by kernel_rfl) (by kernel_rfl) (by kernel_rfl) (by kernel_rfl)
theorem eg244 : Try.prog.eqGuardType Try.prog.depth 244 = false := by kernel_rfl
theorem ag244 : aggD (dOf Try.prog 244) = true := by kernel_rfl
theorem fl244_1 : Fld Try.prog 244 1 0 := Fld.of (by kernel_rfl)
theorem un245 : Try.prog.underlying 245 = some (dOf Try.prog 245) := und_of (by kernel_rfl)
theorem ty245 : Ty Try.prog 245 (dOf Try.prog 245) 3 12 ([U 0] ++ [Value.int .i32 0] ++ [U 0]) := Ty.of (v := .agg ([U 0] ++ [Value.int .i32 0] ++ [U 0]).toArray) un245 (by kernel_rfl) (by kernel_rfl) (by kernel_rfl) (by kernel_rfl)
theorem eg245 : Try.prog.eqGuardType Try.prog.depth 245 = false := by kernel_rfl
theorem ag245 : aggD (dOf Try.prog 245) = true := by kernel_rfl
theorem fl245_1 : Fld Try.prog 245 1 0 := Fld.of (by kernel_rfl)
theorem fl245_2 : Fld Try.prog 245 2 1 := Fld.of (by kernel_rfl)
theorem un246 : Try.prog.underlying 246 = some (dOf Try.prog 246) := und_of (by kernel_rfl)
theorem ty246 : Ty Try.prog 246 (dOf Try.prog 246) 3 12 ([U 0] ++ [Value.int .i32 0] ++ [U 0]) := Ty.of (v := .agg ([U 0] ++ [Value.int .i32 0] ++ [U 0]).toArray) un246 (by kernel_rfl) (by kernel_rfl) (by kernel_rfl) (by kernel_rfl)
theorem eg246 : Try.prog.eqGuardType Try.prog.depth 246 = false := by kernel_rfl
theorem ag246 : aggD (dOf Try.prog 246) = true := by kernel_rfl
theorem fl246_1 : Fld Try.prog 246 1 0 := Fld.of (by kernel_rfl)
theorem fl246_2 : Fld Try.prog 246 2 1 := Fld.of (by kernel_rfl)
theorem un248 : Try.prog.underlying 248 = some (dOf Try.prog 248) := und_of (by kernel_rfl)
theorem ty248 : Ty Try.prog 248 (dOf Try.prog 248) 1 8 ([I 0]) := Ty.of (v := .agg ([I 0]).toArray) un248 (by kernel_rfl) (by kernel_rfl) (by kernel_rfl) (by kernel_rfl)
theorem eg248 : Try.prog.eqGuardType Try.prog.depth 248 = false := by kernel_rfl
theorem ag248 : aggD (dOf Try.prog 248) = true := by kernel_rfl
theorem fl248_2 : Fld Try.prog 248 2 0 := Fld.of (by kernel_rfl)
theorem un249 : Try.prog.underlying 249 = some (dOf Try.prog 249) := und_of (by kernel_rfl)
theorem ty249 : Ty Try.prog 249 (dOf Try.prog 249) 1 8 ([I 0]) := Ty.of (v := .agg ([I 0]).toArray) un249 (by kernel_rfl) (by kernel_rfl) (by kernel_rfl) (by kernel_rfl)
theorem eg249 : Try.prog.eqGuardType Try.prog.depth 249 = false := by kernel_rfl
theorem ag249 : aggD (dOf Try.prog 249) = true := by kernel_rfl
theorem fl249_2 : Fld Try.prog 249 2 0 := Fld.of (by kernel_rfl)
theorem un250 : Try.prog.underlying 250 = some (dOf Try.prog 250) := und_of (by kernel_rfl)
theorem ty250 : Ty Try.prog 250 (dOf Try.prog 250) 43 128 (List.replicate 3 (I 0) ++ (List.replicate 32 (0 : UInt8)).map B ++ [I 0] ++ [U 0] ++ [Value.slice none 0 0] ++ [U 0] ++ [Value.int .i32 0] ++ [U 0] ++ [Value.pointer none] ++ [I 0]) := Ty.of (v := .agg (List.replicate 3 (I 0) ++ (List.replicate 32 (0 : UInt8)).map B ++ [I 0] ++ [U 0] ++ [Value.slice none 0 0] ++ [U 0] ++ [Value.int .i32 0] ++ [U 0] ++ [Value.pointer none] ++ [I 0]).toArray) un250 (by kernel_rfl) (by kernel_rfl) (by kernel_rfl) (by kernel_rfl)
theorem ag250 : aggD (dOf Try.prog 250) = true := by kernel_rfl
theorem fl250_0 : Fld Try.prog 250 0 0 := Fld.of (by kernel_rfl)
theorem fl250_1 : Fld Try.prog 250 1 3 := Fld.of (by kernel_rfl)
theorem fl250_2 : Fld Try.prog 250 2 35 := Fld.of (by kernel_rfl)
theorem fl250_3 : Fld Try.prog 250 3 36 := Fld.of (by kernel_rfl)
theorem fl250_4 : Fld Try.prog 250 4 37 := Fld.of (by kernel_rfl)
theorem fl250_5 : Fld Try.prog 250 5 38 := Fld.of (by kernel_rfl)
theorem fl250_6 : Fld Try.prog 250 6 41 := Fld.of (by kernel_rfl)
theorem fl250_7 : Fld Try.prog 250 7 42 := Fld.of (by kernel_rfl)
theorem un251 : Try.prog.underlying 251 = some (dOf Try.prog 251) := und_of (by kernel_rfl)
theorem ty251 : Ty Try.prog 251 (dOf Try.prog 251) 43 128 (List.replicate 3 (I 0) ++ (List.replicate 32 (0 : UInt8)).map B ++ [I 0] ++ [U 0] ++ [Value.slice none 0 0] ++ [U 0] ++ [Value.int .i32 0] ++ [U 0] ++ [Value.pointer none] ++ [I 0]) := Ty.of (v := .agg (List.replicate 3 (I 0) ++ (List.replicate 32 (0 : UInt8)).map B ++ [I 0] ++ [U 0] ++ [Value.slice none 0 0] ++ [U 0] ++ [Value.int .i32 0] ++ [U 0] ++ [Value.pointer none] ++ [I 0]).toArray) un251 (by kernel_rfl) (by kernel_rfl) (by kernel_rfl) (by kernel_rfl)
theorem ag251 : aggD (dOf Try.prog 251) = true := by kernel_rfl
theorem fl251_0 : Fld Try.prog 251 0 0 := Fld.of (by kernel_rfl)
theorem fl251_1 : Fld Try.prog 251 1 3 := Fld.of (by kernel_rfl)
theorem fl251_2 : Fld Try.prog 251 2 35 := Fld.of (by kernel_rfl)
theorem fl251_3 : Fld Try.prog 251 3 36 := Fld.of (by kernel_rfl)
theorem fl251_4 : Fld Try.prog 251 4 37 := Fld.of (by kernel_rfl)
theorem fl251_5 : Fld Try.prog 251 5 38 := Fld.of (by kernel_rfl)
theorem fl251_6 : Fld Try.prog 251 6 41 := Fld.of (by kernel_rfl)
theorem fl251_7 : Fld Try.prog 251 7 42 := Fld.of (by kernel_rfl)
theorem un260 : Try.prog.underlying 260 = some (.pointer 249) := by kernel_rfl
theorem ty260 : Ty Try.prog 260 (.pointer 249) 1 8 ([Value.pointer none]) := Ty.of (v := Value.pointer none) un260 (by kernel_rfl) (by kernel_rfl) (by kernel_rfl) (by kernel_rfl)
theorem un262 : Try.prog.underlying 262 = some (.pointer 2) := by kernel_rfl
theorem ty262 : Ty Try.prog 262 (.pointer 2) 1 8 ([Value.pointer none]) := Ty.of (v := Value.pointer none) un262 (by kernel_rfl) (by kernel_rfl) (by kernel_rfl) (by kernel_rfl)
theorem un264 : Try.prog.underlying 264 = some (.pointer 266) := by kernel_rfl
theorem ty264 : Ty Try.prog 264 (.pointer 266) 1 8 ([Value.pointer none]) := Ty.of (v := Value.pointer none) un264 (by kernel_rfl) (by kernel_rfl) (by kernel_rfl) (by kernel_rfl)
theorem un265 : Try.prog.underlying 265 = some (dOf Try.prog 265) := und_of (by kernel_rfl)
theorem ty265 : Ty Try.prog 265 (dOf Try.prog 265) 4 40 ([U 0] ++ [Value.int .i32 0] ++ [U 0] ++ [Value.slice none 0 0]) := Ty.of (v := .agg ([U 0] ++ [Value.int .i32 0] ++ [U 0] ++ [Value.slice none 0 0]).toArray) un265 (by kernel_rfl) (by kernel_rfl) (by kernel_rfl) (by kernel_rfl)
theorem ag265 : aggD (dOf Try.prog 265) = true := by kernel_rfl
theorem fl265_0 : Fld Try.prog 265 0 0 := Fld.of (by kernel_rfl)
theorem fl265_1 : Fld Try.prog 265 1 3 := Fld.of (by kernel_rfl)
theorem un266 : Try.prog.underlying 266 = some (dOf Try.prog 266) := und_of (by kernel_rfl)
theorem ty266 : Ty Try.prog 266 (dOf Try.prog 266) 4 40 ([U 0] ++ [Value.int .i32 0] ++ [U 0] ++ [Value.slice none 0 0]) := Ty.of (v := .agg ([U 0] ++ [Value.int .i32 0] ++ [U 0] ++ [Value.slice none 0 0]).toArray) un266 (by kernel_rfl) (by kernel_rfl) (by kernel_rfl) (by kernel_rfl)
theorem ag266 : aggD (dOf Try.prog 266) = true := by kernel_rfl
theorem fl266_0 : Fld Try.prog 266 0 0 := Fld.of (by kernel_rfl)
theorem fl266_1 : Fld Try.prog 266 1 3 := Fld.of (by kernel_rfl)
theorem un268 : Try.prog.underlying 268 = some (.pointer 246) := by kernel_rfl
theorem ty268 : Ty Try.prog 268 (.pointer 246) 1 8 ([Value.pointer none]) := Ty.of (v := Value.pointer none) un268 (by kernel_rfl) (by kernel_rfl) (by kernel_rfl) (by kernel_rfl)
theorem un271 : Try.prog.underlying 271 = some (.pointer 240) := by kernel_rfl
theorem ty271 : Ty Try.prog 271 (.pointer 240) 1 8 ([Value.pointer none]) := Ty.of (v := Value.pointer none) un271 (by kernel_rfl) (by kernel_rfl) (by kernel_rfl) (by kernel_rfl)
theorem un273 : Try.prog.underlying 273 = some (.pointer 27) := by kernel_rfl
theorem ty273 : Ty Try.prog 273 (.pointer 27) 1 8 ([Value.pointer none]) := Ty.of (v := Value.pointer none) un273 (by kernel_rfl) (by kernel_rfl) (by kernel_rfl) (by kernel_rfl)
theorem un276 : Try.prog.underlying 276 = some (.pointer 244) := by kernel_rfl
theorem ty276 : Ty Try.prog 276 (.pointer 244) 1 8 ([Value.pointer none]) := Ty.of (v := Value.pointer none) un276 (by kernel_rfl) (by kernel_rfl) (by kernel_rfl) (by kernel_rfl)
theorem un279 : Try.prog.underlying 279 = some (.pointer 242) := by kernel_rfl
theorem ty279 : Ty Try.prog 279 (.pointer 242) 1 8 ([Value.pointer none]) := Ty.of (v := Value.pointer none) un279 (by kernel_rfl) (by kernel_rfl) (by kernel_rfl) (by kernel_rfl)
theorem un281 : Try.prog.underlying 281 = some (.pointer 21) := by kernel_rfl
theorem ty281 : Ty Try.prog 281 (.pointer 21) 1 8 ([Value.pointer none]) := Ty.of (v := Value.pointer none) un281 (by kernel_rfl) (by kernel_rfl) (by kernel_rfl) (by kernel_rfl)
theorem un294 : Try.prog.underlying 294 = some (.int .u8) := by kernel_rfl
theorem ty294 : Ty Try.prog 294 (.int .u8) 1 1 ([B 0]) := Ty.of (v := B 0) un294 (by kernel_rfl) (by kernel_rfl) (by kernel_rfl) (by kernel_rfl)
theorem un295 : Try.prog.underlying 295 = some (.int .u8) := by kernel_rfl
theorem ty295 : Ty Try.prog 295 (.int .u8) 1 1 ([B 0]) := Ty.of (v := B 0) un295 (by kernel_rfl) (by kernel_rfl) (by kernel_rfl) (by kernel_rfl)
theorem un297 : Try.prog.underlying 297 = some (.pointer 5) := by kernel_rfl
theorem ty297 : Ty Try.prog 297 (.pointer 5) 1 8 ([Value.pointer none]) := Ty.of (v := Value.pointer none) un297 (by kernel_rfl) (by kernel_rfl) (by kernel_rfl) (by kernel_rfl)
theorem un298 : Try.prog.underlying 298 = some (.int .i32) := by kernel_rfl
theorem ty298 : Ty Try.prog 298 (.int .i32) 1 4 ([Value.int .i32 0]) := Ty.of (v := Value.int .i32 0) un298 (by kernel_rfl) (by kernel_rfl) (by kernel_rfl) (by kernel_rfl)
theorem un299 : Try.prog.underlying 299 = some (.int .i32) := by kernel_rfl
theorem ty299 : Ty Try.prog 299 (.int .i32) 1 4 ([Value.int .i32 0]) := Ty.of (v := Value.int .i32 0) un299 (by kernel_rfl) (by kernel_rfl) (by kernel_rfl) (by kernel_rfl)
theorem fu2 : Fun Try.prog 2 := ⟨_, Try.func2, by kernel_rfl, rfl⟩
theorem fu3 : Fun Try.prog 3 := ⟨_, Try.func3, by kernel_rfl, rfl⟩
theorem fu4 : Fun Try.prog 4 := ⟨_, Try.func4, by kernel_rfl, rfl⟩
theorem fu5 : Fun Try.prog 5 := ⟨_, Try.func5, by kernel_rfl, rfl⟩
theorem fu6 : Fun Try.prog 6 := ⟨_, Try.func6, by kernel_rfl, rfl⟩
theorem fu7 : Fun Try.prog 7 := ⟨_, Try.func7, by kernel_rfl, rfl⟩
theorem fu8 : Fun Try.prog 8 := ⟨_, Try.func8, by kernel_rfl, rfl⟩
theorem fu9 : Fun Try.prog 9 := ⟨_, Try.func9, by kernel_rfl, rfl⟩
theorem fu10 : Fun Try.prog 10 := ⟨_, Try.func10, by kernel_rfl, rfl⟩
theorem fu11 : Fun Try.prog 11 := ⟨_, Try.func11, by kernel_rfl, rfl⟩
theorem fu12 : Fun Try.prog 12 := ⟨_, Try.func12, by kernel_rfl, rfl⟩
theorem fu13 : Fun Try.prog 13 := ⟨_, Try.func13, by kernel_rfl, rfl⟩
theorem fu14 : Fun Try.prog 14 := ⟨_, Try.func14, by kernel_rfl, rfl⟩
theorem fu15 : Fun Try.prog 15 := ⟨_, Try.func15, by kernel_rfl, rfl⟩
theorem fu16 : Fun Try.prog 16 := ⟨_, Try.func16, by kernel_rfl, rfl⟩
theorem fu17 : Fun Try.prog 17 := ⟨_, Try.func17, by kernel_rfl, rfl⟩
theorem fu18 : Fun Try.prog 18 := ⟨_, Try.func18, by kernel_rfl, rfl⟩
theorem fu19 : Fun Try.prog 19 := ⟨_, Try.func19, by kernel_rfl, rfl⟩
theorem fu20 : Fun Try.prog 20 := ⟨_, Try.func20, by kernel_rfl, rfl⟩
theorem fu21 : Fun Try.prog 21 := ⟨_, Try.func21, by kernel_rfl, rfl⟩
theorem fu22 : Fun Try.prog 22 := ⟨_, Try.func22, by kernel_rfl, rfl⟩
theorem fu23 : Fun Try.prog 23 := ⟨_, Try.func23, by kernel_rfl, rfl⟩
theorem fu24 : Fun Try.prog 24 := ⟨_, Try.func24, by kernel_rfl, rfl⟩
theorem fu25 : Fun Try.prog 25 := ⟨_, Try.func25, by kernel_rfl, rfl⟩
theorem fu26 : Fun Try.prog 26 := ⟨_, Try.func26, by kernel_rfl, rfl⟩
theorem fu27 : Fun Try.prog 27 := ⟨_, Try.func27, by kernel_rfl, rfl⟩
theorem fu28 : Fun Try.prog 28 := ⟨_, Try.func28, by kernel_rfl, rfl⟩
theorem fu29 : Fun Try.prog 29 := ⟨_, Try.func29, by kernel_rfl, rfl⟩
theorem fu30 : Fun Try.prog 30 := ⟨_, Try.func30, by kernel_rfl, rfl⟩
theorem fu31 : Fun Try.prog 31 := ⟨_, Try.func31, by kernel_rfl, rfl⟩
theorem fu32 : Fun Try.prog 32 := ⟨_, Try.func32, by kernel_rfl, rfl⟩
theorem fu33 : Fun Try.prog 33 := ⟨_, Try.func33, by kernel_rfl, rfl⟩
theorem fu34 : Fun Try.prog 34 := ⟨_, Try.func34, by kernel_rfl, rfl⟩
theorem fu35 : Fun Try.prog 35 := ⟨_, Try.func35, by kernel_rfl, rfl⟩
theorem fu36 : Fun Try.prog 36 := ⟨_, Try.func36, by kernel_rfl, rfl⟩
theorem fu37 : Fun Try.prog 37 := ⟨_, Try.func37, by kernel_rfl, rfl⟩
theorem fu38 : Fun Try.prog 38 := ⟨_, Try.func38, by kernel_rfl, rfl⟩
theorem fu39 : Fun Try.prog 39 := ⟨_, Try.func39, by kernel_rfl, rfl⟩
theorem fu40 : Fun Try.prog 40 := ⟨_, Try.func40, by kernel_rfl, rfl⟩
theorem fu41 : Fun Try.prog 41 := ⟨_, Try.func41, by kernel_rfl, rfl⟩
theorem fu42 : Fun Try.prog 42 := ⟨_, Try.func42, by kernel_rfl, rfl⟩
theorem fu43 : Fun Try.prog 43 := ⟨_, Try.func43, by kernel_rfl, rfl⟩
theorem fu44 : Fun Try.prog 44 := ⟨_, Try.func44, by kernel_rfl, rfl⟩
theorem fu45 : Fun Try.prog 45 := ⟨_, Try.func45, by kernel_rfl, rfl⟩
theorem fu46 : Fun Try.prog 46 := ⟨_, Try.func46, by kernel_rfl, rfl⟩
theorem fu47 : Fun Try.prog 47 := ⟨_, Try.func47, by kernel_rfl, rfl⟩
theorem fu48 : Fun Try.prog 48 := ⟨_, Try.func48, by kernel_rfl, rfl⟩
theorem fu49 : Fun Try.prog 49 := ⟨_, Try.func49, by kernel_rfl, rfl⟩
theorem fu50 : Fun Try.prog 50 := ⟨_, Try.func50, by kernel_rfl, rfl⟩
theorem fu51 : Fun Try.prog 51 := ⟨_, Try.func51, by kernel_rfl, rfl⟩
theorem fu52 : Fun Try.prog 52 := ⟨_, Try.func52, by kernel_rfl, rfl⟩
theorem fu53 : Fun Try.prog 53 := ⟨_, Try.func53, by kernel_rfl, rfl⟩
theorem fu54 : Fun Try.prog 54 := ⟨_, Try.func54, by kernel_rfl, rfl⟩
theorem fu55 : Fun Try.prog 55 := ⟨_, Try.func55, by kernel_rfl, rfl⟩
theorem fu56 : Fun Try.prog 56 := ⟨_, Try.func56, by kernel_rfl, rfl⟩
theorem fu57 : Fun Try.prog 57 := ⟨_, Try.func57, by kernel_rfl, rfl⟩
theorem fu58 : Fun Try.prog 58 := ⟨_, Try.func58, by kernel_rfl, rfl⟩
theorem fu59 : Fun Try.prog 59 := ⟨_, Try.func59, by kernel_rfl, rfl⟩
theorem fu60 : Fun Try.prog 60 := ⟨_, Try.func60, by kernel_rfl, rfl⟩
theorem fu61 : Fun Try.prog 61 := ⟨_, Try.func61, by kernel_rfl, rfl⟩
theorem fu62 : Fun Try.prog 62 := ⟨_, Try.func62, by kernel_rfl, rfl⟩
theorem fu63 : Fun Try.prog 63 := ⟨_, Try.func63, by kernel_rfl, rfl⟩
theorem fu64 : Fun Try.prog 64 := ⟨_, Try.func64, by kernel_rfl, rfl⟩
theorem fu65 : Fun Try.prog 65 := ⟨_, Try.func65, by kernel_rfl, rfl⟩
theorem fu66 : Fun Try.prog 66 := ⟨_, Try.func66, by kernel_rfl, rfl⟩
theorem fu67 : Fun Try.prog 67 := ⟨_, Try.func67, by kernel_rfl, rfl⟩
theorem fu68 : Fun Try.prog 68 := ⟨_, Try.func68, by kernel_rfl, rfl⟩
theorem fu69 : Fun Try.prog 69 := ⟨_, Try.func69, by kernel_rfl, rfl⟩
theorem fu70 : Fun Try.prog 70 := ⟨_, Try.func70, by kernel_rfl, rfl⟩
theorem fu71 : Fun Try.prog 71 := ⟨_, Try.func71, by kernel_rfl, rfl⟩
theorem fu72 : Fun Try.prog 72 := ⟨_, Try.func72, by kernel_rfl, rfl⟩
theorem fu73 : Fun Try.prog 73 := ⟨_, Try.func73, by kernel_rfl, rfl⟩
theorem fu74 : Fun Try.prog 74 := ⟨_, Try.func74, by kernel_rfl, rfl⟩
theorem fu75 : Fun Try.prog 75 := ⟨_, Try.func75, by kernel_rfl, rfl⟩
theorem fu76 : Fun Try.prog 76 := ⟨_, Try.func76, by kernel_rfl, rfl⟩
theorem fu77 : Fun Try.prog 77 := ⟨_, Try.func77, by kernel_rfl, rfl⟩
theorem fu78 : Fun Try.prog 78 := ⟨_, Try.func78, by kernel_rfl, rfl⟩
theorem fu79 : Fun Try.prog 79 := ⟨_, Try.func79, by kernel_rfl, rfl⟩
theorem fu80 : Fun Try.prog 80 := ⟨_, Try.func80, by kernel_rfl, rfl⟩
theorem fu81 : Fun Try.prog 81 := ⟨_, Try.func81, by kernel_rfl, rfl⟩
theorem fu82 : Fun Try.prog 82 := ⟨_, Try.func82, by kernel_rfl, rfl⟩
theorem fu83 : Fun Try.prog 83 := ⟨_, Try.func83, by kernel_rfl, rfl⟩
theorem fu84 : Fun Try.prog 84 := ⟨_, Try.func84, by kernel_rfl, rfl⟩
theorem fu85 : Fun Try.prog 85 := ⟨_, Try.func85, by kernel_rfl, rfl⟩
theorem fu86 : Fun Try.prog 86 := ⟨_, Try.func86, by kernel_rfl, rfl⟩
theorem fu87 : Fun Try.prog 87 := ⟨_, Try.func87, by kernel_rfl, rfl⟩
theorem fu88 : Fun Try.prog 88 := ⟨_, Try.func88, by kernel_rfl, rfl⟩
theorem fu89 : Fun Try.prog 89 := ⟨_, Try.func89, by kernel_rfl, rfl⟩
theorem fu90 : Fun Try.prog 90 := ⟨_, Try.func90, by kernel_rfl, rfl⟩
theorem fu91 : Fun Try.prog 91 := ⟨_, Try.func91, by kernel_rfl, rfl⟩
theorem fu92 : Fun Try.prog 92 := ⟨_, Try.func92, by kernel_rfl, rfl⟩
theorem fu93 : Fun Try.prog 93 := ⟨_, Try.func93, by kernel_rfl, rfl⟩
theorem fu94 : Fun Try.prog 94 := ⟨_, Try.func94, by kernel_rfl, rfl⟩
theorem fu95 : Fun Try.prog 95 := ⟨_, Try.func95, by kernel_rfl, rfl⟩
theorem fu96 : Fun Try.prog 96 := ⟨_, Try.func96, by kernel_rfl, rfl⟩
theorem fu97 : Fun Try.prog 97 := ⟨_, Try.func97, by kernel_rfl, rfl⟩
theorem fu98 : Fun Try.prog 98 := ⟨_, Try.func98, by kernel_rfl, rfl⟩
theorem fu99 : Fun Try.prog 99 := ⟨_, Try.func99, by kernel_rfl, rfl⟩
theorem fu100 : Fun Try.prog 100 := ⟨_, Try.func100, by kernel_rfl, rfl⟩
theorem fu101 : Fun Try.prog 101 := ⟨_, Try.func101, by kernel_rfl, rfl⟩
theorem fu102 : Fun Try.prog 102 := ⟨_, Try.func102, by kernel_rfl, rfl⟩
theorem fu103 : Fun Try.prog 103 := ⟨_, Try.func103, by kernel_rfl, rfl⟩
theorem fu104 : Fun Try.prog 104 := ⟨_, Try.func104, by kernel_rfl, rfl⟩
theorem fu105 : Fun Try.prog 105 := ⟨_, Try.func105, by kernel_rfl, rfl⟩
theorem fu106 : Fun Try.prog 106 := ⟨_, Try.func106, by kernel_rfl, rfl⟩
theorem fu107 : Fun Try.prog 107 := ⟨_, Try.func107, by kernel_rfl, rfl⟩
theorem fu108 : Fun Try.prog 108 := ⟨_, Try.func108, by kernel_rfl, rfl⟩
theorem fu109 : Fun Try.prog 109 := ⟨_, Try.func109, by kernel_rfl, rfl⟩
theorem fu110 : Fun Try.prog 110 := ⟨_, Try.func110, by kernel_rfl, rfl⟩
theorem fu111 : Fun Try.prog 111 := ⟨_, Try.func111, by kernel_rfl, rfl⟩
theorem fu112 : Fun Try.prog 112 := ⟨_, Try.func112, by kernel_rfl, rfl⟩
theorem fu113 : Fun Try.prog 113 := ⟨_, Try.func113, by kernel_rfl, rfl⟩
theorem fu114 : Fun Try.prog 114 := ⟨_, Try.func114, by kernel_rfl, rfl⟩
theorem fu115 : Fun Try.prog 115 := ⟨_, Try.func115, by kernel_rfl, rfl⟩
theorem fu116 : Fun Try.prog 116 := ⟨_, Try.func116, by kernel_rfl, rfl⟩
theorem fu117 : Fun Try.prog 117 := ⟨_, Try.func117, by kernel_rfl, rfl⟩
theorem fu118 : Fun Try.prog 118 := ⟨_, Try.func118, by kernel_rfl, rfl⟩
theorem fu119 : Fun Try.prog 119 := ⟨_, Try.func119, by kernel_rfl, rfl⟩
theorem fu120 : Fun Try.prog 120 := ⟨_, Try.func120, by kernel_rfl, rfl⟩
theorem fu121 : Fun Try.prog 121 := ⟨_, Try.func121, by kernel_rfl, rfl⟩
theorem fu122 : Fun Try.prog 122 := ⟨_, Try.func122, by kernel_rfl, rfl⟩
theorem fu123 : Fun Try.prog 123 := ⟨_, Try.func123, by kernel_rfl, rfl⟩
theorem fu124 : Fun Try.prog 124 := ⟨_, Try.func124, by kernel_rfl, rfl⟩
theorem fu125 : Fun Try.prog 125 := ⟨_, Try.func125, by kernel_rfl, rfl⟩
theorem fu126 : Fun Try.prog 126 := ⟨_, Try.func126, by kernel_rfl, rfl⟩
theorem fu127 : Fun Try.prog 127 := ⟨_, Try.func127, by kernel_rfl, rfl⟩
theorem fu128 : Fun Try.prog 128 := ⟨_, Try.func128, by kernel_rfl, rfl⟩
theorem fu129 : Fun Try.prog 129 := ⟨_, Try.func129, by kernel_rfl, rfl⟩
theorem fu130 : Fun Try.prog 130 := ⟨_, Try.func130, by kernel_rfl, rfl⟩
theorem fu131 : Fun Try.prog 131 := ⟨_, Try.func131, by kernel_rfl, rfl⟩
theorem fu132 : Fun Try.prog 132 := ⟨_, Try.func132, by kernel_rfl, rfl⟩
theorem fu133 : Fun Try.prog 133 := ⟨_, Try.func133, by kernel_rfl, rfl⟩
theorem fu134 : Fun Try.prog 134 := ⟨_, Try.func134, by kernel_rfl, rfl⟩
theorem fu135 : Fun Try.prog 135 := ⟨_, Try.func135, by kernel_rfl, rfl⟩
theorem fu136 : Fun Try.prog 136 := ⟨_, Try.func136, by kernel_rfl, rfl⟩
theorem fu137 : Fun Try.prog 137 := ⟨_, Try.func137, by kernel_rfl, rfl⟩
theorem fu138 : Fun Try.prog 138 := ⟨_, Try.func138, by kernel_rfl, rfl⟩
theorem fu139 : Fun Try.prog 139 := ⟨_, Try.func139, by kernel_rfl, rfl⟩
theorem fu140 : Fun Try.prog 140 := ⟨_, Try.func140, by kernel_rfl, rfl⟩
theorem fu141 : Fun Try.prog 141 := ⟨_, Try.func141, by kernel_rfl, rfl⟩
theorem fu142 : Fun Try.prog 142 := ⟨_, Try.func142, by kernel_rfl, rfl⟩
theorem fu143 : Fun Try.prog 143 := ⟨_, Try.func143, by kernel_rfl, rfl⟩
theorem fu144 : Fun Try.prog 144 := ⟨_, Try.func144, by kernel_rfl, rfl⟩
theorem fu145 : Fun Try.prog 145 := ⟨_, Try.func145, by kernel_rfl, rfl⟩
theorem fu146 : Fun Try.prog 146 := ⟨_, Try.func146, by kernel_rfl, rfl⟩
theorem fu147 : Fun Try.prog 147 := ⟨_, Try.func147, by kernel_rfl, rfl⟩
theorem fu148 : Fun Try.prog 148 := ⟨_, Try.func148, by kernel_rfl, rfl⟩
theorem fu149 : Fun Try.prog 149 := ⟨_, Try.func149, by kernel_rfl, rfl⟩
theorem fu150 : Fun Try.prog 150 := ⟨_, Try.func150, by kernel_rfl, rfl⟩
theorem fu151 : Fun Try.prog 151 := ⟨_, Try.func151, by kernel_rfl, rfl⟩
theorem fu152 : Fun Try.prog 152 := ⟨_, Try.func152, by kernel_rfl, rfl⟩
theorem fu153 : Fun Try.prog 153 := ⟨_, Try.func153, by kernel_rfl, rfl⟩
theorem fu154 : Fun Try.prog 154 := ⟨_, Try.func154, by kernel_rfl, rfl⟩
theorem fu155 : Fun Try.prog 155 := ⟨_, Try.func155, by kernel_rfl, rfl⟩
theorem fu156 : Fun Try.prog 156 := ⟨_, Try.func156, by kernel_rfl, rfl⟩
theorem fu157 : Fun Try.prog 157 := ⟨_, Try.func157, by kernel_rfl, rfl⟩
theorem fu158 : Fun Try.prog 158 := ⟨_, Try.func158, by kernel_rfl, rfl⟩
theorem fu159 : Fun Try.prog 159 := ⟨_, Try.func159, by kernel_rfl, rfl⟩
theorem fu160 : Fun Try.prog 160 := ⟨_, Try.func160, by kernel_rfl, rfl⟩
theorem fu161 : Fun Try.prog 161 := ⟨_, Try.func161, by kernel_rfl, rfl⟩
theorem fu162 : Fun Try.prog 162 := ⟨_, Try.func162, by kernel_rfl, rfl⟩
theorem fu163 : Fun Try.prog 163 := ⟨_, Try.func163, by kernel_rfl, rfl⟩
theorem fu164 : Fun Try.prog 164 := ⟨_, Try.func164, by kernel_rfl, rfl⟩
theorem fu165 : Fun Try.prog 165 := ⟨_, Try.func165, by kernel_rfl, rfl⟩
theorem fu166 : Fun Try.prog 166 := ⟨_, Try.func166, by kernel_rfl, rfl⟩
theorem fu167 : Fun Try.prog 167 := ⟨_, Try.func167, by kernel_rfl, rfl⟩
theorem fu168 : Fun Try.prog 168 := ⟨_, Try.func168, by kernel_rfl, rfl⟩
theorem fu169 : Fun Try.prog 169 := ⟨_, Try.func169, by kernel_rfl, rfl⟩
theorem fu170 : Fun Try.prog 170 := ⟨_, Try.func170, by kernel_rfl, rfl⟩
theorem fu171 : Fun Try.prog 171 := ⟨_, Try.func171, by kernel_rfl, rfl⟩
theorem fu172 : Fun Try.prog 172 := ⟨_, Try.func172, by kernel_rfl, rfl⟩
theorem fu173 : Fun Try.prog 173 := ⟨_, Try.func173, by kernel_rfl, rfl⟩
theorem fu174 : Fun Try.prog 174 := ⟨_, Try.func174, by kernel_rfl, rfl⟩
theorem fu175 : Fun Try.prog 175 := ⟨_, Try.func175, by kernel_rfl, rfl⟩
theorem fu176 : Fun Try.prog 176 := ⟨_, Try.func176, by kernel_rfl, rfl⟩
theorem fu177 : Fun Try.prog 177 := ⟨_, Try.func177, by kernel_rfl, rfl⟩
theorem fu178 : Fun Try.prog 178 := ⟨_, Try.func178, by kernel_rfl, rfl⟩
theorem fu179 : Fun Try.prog 179 := ⟨_, Try.func179, by kernel_rfl, rfl⟩
theorem fu180 : Fun Try.prog 180 := ⟨_, Try.func180, by kernel_rfl, rfl⟩
theorem fu181 : Fun Try.prog 181 := ⟨_, Try.func181, by kernel_rfl, rfl⟩
theorem fu182 : Fun Try.prog 182 := ⟨_, Try.func182, by kernel_rfl, rfl⟩
theorem fu183 : Fun Try.prog 183 := ⟨_, Try.func183, by kernel_rfl, rfl⟩
theorem fu185 : Fun Try.prog 185 := ⟨_, Try.func185, by kernel_rfl, rfl⟩
theorem fu186 : Fun Try.prog 186 := ⟨_, Try.func186, by kernel_rfl, rfl⟩
theorem fu187 : Fun Try.prog 187 := ⟨_, Try.func187, by kernel_rfl, rfl⟩
theorem fu188 : Fun Try.prog 188 := ⟨_, Try.func188, by kernel_rfl, rfl⟩
theorem fu189 : Fun Try.prog 189 := ⟨_, Try.func189, by kernel_rfl, rfl⟩
theorem fu190 : Fun Try.prog 190 := ⟨_, Try.func190, by kernel_rfl, rfl⟩
theorem fu191 : Fun Try.prog 191 := ⟨_, Try.func191, by kernel_rfl, rfl⟩
theorem fu192 : Fun Try.prog 192 := ⟨_, Try.func192, by kernel_rfl, rfl⟩
theorem fu194 : Fun Try.prog 194 := ⟨_, Try.func194, by kernel_rfl, rfl⟩
theorem fu195 : Fun Try.prog 195 := ⟨_, Try.func195, by kernel_rfl, rfl⟩
theorem fu196 : Fun Try.prog 196 := ⟨_, Try.func196, by kernel_rfl, rfl⟩
theorem fu198 : Fun Try.prog 198 := ⟨_, Try.func198, by kernel_rfl, rfl⟩
theorem fu199 : Fun Try.prog 199 := ⟨_, Try.func199, by kernel_rfl, rfl⟩
theorem fu201 : Fun Try.prog 201 := ⟨_, Try.func201, by kernel_rfl, rfl⟩
theorem fu206 : Fun Try.prog 206 := ⟨_, Try.func206, by kernel_rfl, rfl⟩
theorem fu209 : Fun Try.prog 209 := ⟨_, Try.func209, by kernel_rfl, rfl⟩
end Go.Proofs.Ytmgnnclkjkbmdaa
