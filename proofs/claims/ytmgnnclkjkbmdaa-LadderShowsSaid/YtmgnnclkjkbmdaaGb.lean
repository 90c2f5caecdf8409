/- Own texts of this seat, laid together: Fw10, Fw11, Facts, Fw12, Fw13, Fw14, Fw15, Fw16, Fw17, Fw18, Fw19, Fw20, Fw21, Fw22, Fw23, Facts2. -/
import Derived.Test.YtmgnnclkjkbmdaaGa
import Derived.Test.YtmgnnclkjkbmdaaProg
import Derived.WalkKit
import Derived.ProofKit
import Derived.OpenShut
import Derived.ShutString
import Derived.ChangeOld
import Derived.SizedLaws
import Derived.Deep.Slices
import Derived.JoinedOf
import Derived.KernelRfl
import Derived.Laws.BytesString
import Derived.Laws.CopyRow
import Derived.ChangeSame
import Derived.Deep.Strs
/- Closed facts on the program's tables; comparisons of arrays; what else the walks want. -/
section
set_option linter.unusedSimpArgs false
set_option linter.unusedVariables false
namespace Go.Fw
open Go

def dOf (P : Program) (T : TypeId) : TypeDesc := (P.underlying T).getD .invalid
theorem Ty.of {P : Program} {T : TypeId} {d : TypeDesc} {sz bytes : Nat} {v : Value} {z : List Value} (h1 : P.underlying T = some d) (h2 : (P.info? T).map (fun i => (i.zero, i.size, i.bytes)) = some (some v, sz, bytes))
    (h3 : v.cells = z.toArray) (h4 : z.length = sz) (h5 : z.all (·.oneCell') = true) : Ty P T d sz bytes z := by
  cases hi : P.info? T with
  | none => rw [hi] at h2; cases h2
  | some i =>
    rw [hi] at h2
    simp at h2
    exact ⟨h1, ⟨i, hi, h2.2.1, h2.2.2, v, h2.1, h3⟩, h4, h5⟩
theorem und_of {P : Program} {T : TypeId} (h : (P.underlying T).isSome = true) : P.underlying T = some (dOf P T) := by
  unfold dOf
  cases hu : P.underlying T with
  | none => rw [hu] at h; cases h
  | some d => rfl

def fldB (P : Program) (S : TypeId) (f off : Nat) : Bool :=
  match P.underlying S with
  | some (.struct fs) => match fs[f]? with
    | some fl => Nat.beq fl.offset off && (match P.info? fl.type with | some i => !Nat.beq i.size 0 | none => false)
    | none => false
  | _ => false
theorem Fld.of {P : Program} {S : TypeId} {f off : Nat} (h : fldB P S f off = true) : Fld P S f off := by
  unfold fldB at h
  split at h
  · rename_i fs hu
    split at h
    · rename_i fl hf
      simp only [Bool.and_eq_true] at h
      cases hi : P.info? fl.type with
      | none => rw [hi] at h; cases h.2
      | some i =>
        rw [hi] at h
        refine ⟨fs, fl, i, hu, hf, Nat.eq_of_beq_eq_true h.1, hi, fun e => ?_⟩
        have h2 := h.2
        dsimp only at h2
        rw [e] at h2
        cases h2
    · cases h
  · cases h

section
variable {N : Nat} {F F' : List (Nat × Value)} {L L' : List Ent} {M : Nat → Prop} {w0 w w' : World} {a : Act}
theorem St.add {n : Nat} {v : Value} (h : St N F L M w0 a w) (hv : a.tmps[n]? = some v) : St N ((n, v) :: F) L M w0 a w := by
  refine ⟨⟨h.know.size, h.know.defers, fun k u hk => ?_⟩, h.has, h.own, h.fr⟩
  simp only [look] at hk
  by_cases e : n = k
  · subst e
    simp at hk
    rw [← hk]
    exact hv
  · rw [Nat.beq_eq_false_of e] at hk
    exact h.know.at_ k u hk
theorem St.rd {v : Value} {n : Nat} {cs : List Value} (h : St N F L (fun _ => False) w0 a w) (hr : Rd w0 v n cs) : Rd w v n cs := hr.fr0 h.fr
end

/-! loops -/
theorem s_loop {P : Program} {Q : Exit → Act → World → Prop} {N : Nat} {F : List (Nat × Value)} {L : List Ent} {M : Nat → Prop} {w0 w : World} {a : Act} {c : Code} {X : Type}
    (hs : St N F L M w0 a w) (Fm : X → List (Nat × Value)) (Fb : List (Nat × Value)) (Lm : X → List Ent) (ok : Nat → X → Prop) (n : Nat) (x : X) (h0 : ok n x) (hF : Sub F (Fm x ++ Fb)) (hL : L = Lm x)
    (round : ∀ n x a w, ok n x → St N (Fm x ++ Fb) (Lm x) M w0 a w → c.wp P (Exit.then (fun a' w' => ∃ m, m < n ∧ ∃ x', ok m x' ∧ St N (Fm x' ++ Fb) (Lm x') M w0 a' w') Q) a w) : (Code.loop c).wp P Q a w := by
  refine wp_loop_ix (fun n a w => ∃ x, ok n x ∧ St N (Fm x ++ Fb) (Lm x) M w0 a w) n ⟨x, h0, (hs.sub hF).toL hL⟩ ?_
  rintro n a w ⟨x, hx, hs⟩
  exact round n x a w hx hs

section
variable {Q : Exit → Act → World → Prop} {K : Act → World → Prop} {a : Act} {w : World}
theorem then_n (h : K a w) : Exit.then K Q .normal a w := h
theorem then_e {id : Nat} (h : Q (.exit id) a w) : Exit.then K Q (.exit id) a w := h
theorem then_r (h : Q .ret a w) : Exit.then K Q .ret a w := h
theorem blk_n {id : Nat} (h : Q .normal a w) : Exit.inBlock id Q .normal a w := h
theorem blk_r {id : Nat} (h : Q .ret a w) : Exit.inBlock id Q .ret a w := h
theorem blk_hit {id : Nat} (h : Q .normal a w) : Exit.inBlock id Q (.exit id) a w := by simp only [Exit.inBlock, if_true]; exact h
theorem blk_miss {id id' : Nat} (hne : Nat.beq id' id = false) (h : Q (.exit id') a w) : Exit.inBlock id Q (.exit id') a w := by
  have : id' ≠ id := fun e => by subst e; simp at hne
  simp only [Exit.inBlock, if_neg this]; exact h
end

/-! more of int -/
section
variable {P : Program} {a : Act} {w : World} {d : Option Tmp} {ty : TypeId} {pos : String} {aft : Array Edge} {g : Option (Nat × Bool)} {x y z : Operand} {t u : TypeId}
theorem c_shlI {i : Int} {k : IntKind} {n : Nat} (hx : a.eval x = I i) (hy : a.eval y = .int k (n : Int)) (hn : n < 64) (h1 : -9223372036854775808 ≤ i * 2 ^ n) (h2 : i * 2 ^ n < 9223372036854775808) :
    (execOp a.eval ⟨d, .binOp .shl t x y u, ty, pos, aft, g⟩).run P w = .ok (.value (I (i * 2 ^ n))) w := by
  have hm : min n 64 = n := by omega
  simp [execOp, hx, hy, eqGuard, binOp, Op.shift, IntKind.bits, hm, wrap64_in h1 h2]
theorem c_shrI {i : Int} {k : IntKind} {n : Nat} (hx : a.eval x = I i) (hy : a.eval y = .int k (n : Int)) (hn : n < 64) :
    (execOp a.eval ⟨d, .binOp .shr t x y u, ty, pos, aft, g⟩).run P w = .ok (.value (I (i / 2 ^ n))) w := by
  have hm : min n 64 = n := by omega
  simp [execOp, hx, hy, eqGuard, binOp, Op.shift, IntKind.bits, hm]
theorem eqpn {E : TypeId} (hu : P.underlying t = some (.pointer E)) (p : Addr) (n : Nat) : (Op.equalIn (n + 1) t (.pointer (some p)) (.pointer none)).run P w = .ok false w := by simp [Op.equalIn, run_underlying hu]
theorem eqnn {E : TypeId} (hu : P.underlying t = some (.pointer E)) (n : Nat) : (Op.equalIn (n + 1) t (.pointer none) (.pointer none)).run P w = .ok true w := by simp [Op.equalIn, run_underlying hu]
theorem c_eqlNil {p : Addr} {E : TypeId} (hu : P.underlying t = some (.pointer E)) (hx : a.eval x = .pointer (some p)) (hy : a.eval y = .pointer none) :
    (execOp a.eval ⟨d, .binOp .eql t x y u, ty, pos, aft, g⟩).run P w = .ok (.value (.bool false)) w := by
  have e : (Op.equal t (.pointer (some p)) (.pointer none)).run P w = .ok false w := by
    exact eqpn hu p 9999
  simp [execOp, hx, hy, eqGuard, binOp, e]
theorem c_eqlNil0 {E : TypeId} (hu : P.underlying t = some (.pointer E)) (hx : a.eval x = .pointer none) (hy : a.eval y = .pointer none) :
    (execOp a.eval ⟨d, .binOp .eql t x y u, ty, pos, aft, g⟩).run P w = .ok (.value (.bool true)) w := by
  have e : (Op.equal t (.pointer none) (.pointer none)).run P w = .ok true w := by
    exact eqnn hu 9999
  simp [execOp, hx, hy, eqGuard, binOp, e]
theorem c_eqlT {s s' : ByteArray} (hx : a.eval x = .string s) (hy : a.eval y = .string s') :
    (execOp a.eval ⟨d, .binOp .eql t x y u, ty, pos, aft, g⟩).run P w = .ok (.value (.bool (s.toList == s'.toList))) w := by
  simp [execOp, hx, hy, eqGuard, binOp, Op.stringOp]
theorem c_neqT {s s' : ByteArray} (hx : a.eval x = .string s) (hy : a.eval y = .string s') :
    (execOp a.eval ⟨d, .binOp .neq t x y u, ty, pos, aft, g⟩).run P w = .ok (.value (.bool (!(s.toList == s'.toList)))) w := by
  simp [execOp, hx, hy, eqGuard, binOp, Op.stringOp]
end
end Go.Fw
end

/- Literals of structs and arrays; small laws on lists of cells. -/
section
set_option linter.unusedSimpArgs false
set_option linter.unusedVariables false
namespace Go.Fw
open Go

def Pl (place : Nat → Option (Nat × Nat)) : Nat → Nat → List Value → Prop
  | _, _, [] => True
  | k, off, v :: t => place k = some (off, v.cells.size) ∧ Pl place (k + 1) (off + v.cells.size) t

theorem fill_seq (place : Nat → Option (Nat × Nat)) : ∀ (vs : List Value) (k : Nat) (done zeros : List Value), Pl place k done.length vs → (flatCells vs).length ≤ zeros.length →
    Instr.fill place (done ++ zeros).toArray (pairsFrom k vs) = some (done ++ flatCells vs ++ zeros.drop (flatCells vs).length).toArray
  | [], k, done, zeros, _, _ => by simp [Instr.fill, pairsFrom, flatCells]
  | v :: t, k, done, zeros, ⟨hp, ht⟩, hz => by
    have hfc : flatCells (v :: t) = v.cells.toList ++ flatCells t := by simp [flatCells]
    rw [hfc, List.length_append, Array.length_toList] at hz
    have step := array_foldl_set done.length v.cells (done ++ zeros).toArray (by simp; omega)
    have e1 : ((done ++ zeros).toArray.toList.take done.length ++ v.cells.toList ++ (done ++ zeros).toArray.toList.drop (done.length + v.cells.size)) = (done ++ v.cells.toList) ++ zeros.drop v.cells.size := by
      simp
    have ih := fill_seq place t (k + 1) (done ++ v.cells.toList) (zeros.drop v.cells.size) (by simpa using ht) (by simp; omega)
    have hn : ¬ (v.cells.size ≠ v.cells.size ∨ done.length + v.cells.size > (done ++ zeros).toArray.size) := by
      simp only [List.size_toArray, List.length_append]
      intro h
      rcases h with h | h
      · exact h rfl
      · omega
    simp only [pairsFrom, Instr.fill, hp]
    rw [if_neg (by simpa using hn), step, e1, ih, hfc]
    simp [List.drop_drop]

section
variable {P : Program} {a : Act} {w : World} {d : Option Tmp} {ty : TypeId} {pos : String} {aft : Array Edge} {g : Option (Nat × Bool)} {x y z : Operand} {t u : TypeId}

theorem pl_arr {s : Nat} : ∀ (vs : List Value) (k off : Nat), off = k * s → (∀ v ∈ vs, v.cells.size = s) → Pl (fun i => some (i * s, s)) k off vs
  | [], _, _, _, _ => trivial
  | v :: t, k, off, h, hv => ⟨by rw [hv v (by simp), h], pl_arr t (k + 1) _ (by rw [hv v (by simp), h, Nat.succ_mul]) fun u hu => hv u (by simp [hu])⟩

/-- An array's literal: what isn't written is zero. -/
theorem c_buildA {n s bytes by2 sz : Nat} {E : TypeId} {ed td : TypeDesc} {ze zs zc : List Value} {ps : Array (Nat × Operand)} {vs : List Value} (hT : Ty P t td sz bytes zs) (hu : P.underlying t = some (.array n E)) (hE : Ty P E ed s by2 ze)
    (hps : Evp a 0 ps.toList vs) (hv : ∀ v ∈ vs, v.cells.size = s) (hle : (flatCells vs).length ≤ sz) (hz : flatCells vs ++ zs.drop (flatCells vs).length = zc) :
    (execOp a.eval ⟨d, .build t ps, ty, pos, aft, g⟩).run P w = .ok (.value (.agg zc.toArray)) w := by
  obtain ⟨v, hzv, hzc⟩ := hT.zero (w := w)
  have hf := fill_seq (fun i => some (i * s, s)) vs 0 [] zs (pl_arr vs 0 0 (by simp) hv) (by rw [hT.len]; exact hle)
  simp only [List.nil_append, hz] at hf
  simp [execOp, Instr.build, hzv, hzc, run_underlying hu, hE.size, hps.map, hf]

def fsOf : TypeDesc → Array Field
  | .struct fs => fs
  | _ => #[]
/-- Where a struct's fields lie. -/
def BP (P : Program) (T : TypeId) (places : Array (Nat × Nat)) : Prop := P.underlying T = some (.struct (fsOf (dOf P T))) ∧ ∀ w, ((fsOf (dOf P T)).mapM (m := Sem) fun f => do pure (f.offset, ← sizeOf f.type)).run P w = .ok places w

theorem c_buildS {bytes sz : Nat} {td : TypeDesc} {zs zc : List Value} {pl : Array (Nat × Nat)} {ps : Array (Nat × Operand)} {vs : List Value} (hT : Ty P t td sz bytes zs) (hB : BP P t pl)
    (hps : Evp a 0 ps.toList vs) (hpl : Pl (fun i => pl[i]?) 0 0 vs) (hle : (flatCells vs).length ≤ sz) (hz : flatCells vs ++ zs.drop (flatCells vs).length = zc) :
    (execOp a.eval ⟨d, .build t ps, ty, pos, aft, g⟩).run P w = .ok (.value (.agg zc.toArray)) w := by
  obtain ⟨v, hzv, hzc⟩ := hT.zero (w := w)
  obtain ⟨hb1, hb2⟩ := hB
  have hf := fill_seq (fun i => pl[i]?) vs 0 [] zs hpl (by rw [hT.len]; exact hle)
  simp only [List.nil_append, hz] at hf
  have hb3 := hb2 w
  simp only [bind_pure_comp] at hb3
  simp [execOp, Instr.build, hzv, hzc, run_underlying hb1, hb3, hps.map, hf]
end

/-! lists of cells -/
theorem seg_get {α : Type} {f : α → Value} {all : Array Value} {l : List α} {o i : Nat} (d : α) (h : (all.toList.drop o).take (l.map f).length = l.map f) (hi : i < l.length) : all.toList[o + i * 1]? = some (f (l.getD i d)) := by
  have h2 : (l.map f)[i]? = some (f (l.getD i d)) := by simp [List.getD, hi]
  rw [← h, List.getElem?_take_of_lt (by simpa using hi), List.getElem?_drop] at h2
  simpa using h2
theorem map_get {α : Type} {f : α → Value} {l : List α} {i : Nat} (d : α) (hi : i < l.length) : (l.map f)[0 + i * 1]? = some (f (l.getD i d)) := by simp [List.getD, hi]
theorem map_set {α : Type} {f : α → Value} {l : List α} {i : Nat} (x : α) (hi : i < l.length) : (l.map f).take (0 + i * 1) ++ [f x] ++ (l.map f).drop (0 + i * 1 + 1) = (l.set i x).map f := by
  have : i < (l.map f).length := by simpa using hi
  rw [List.map_set, Nat.mul_one, Nat.zero_add, List.set_eq_take_append_cons_drop, if_pos this]
  simp

theorem all_map_B (l : List UInt8) : (l.map B).all (·.oneCell') = true := by simp [Value.oneCell']
theorem all_map_U (l : List UInt32) : (l.map U).all (·.oneCell') = true := by simp [Value.oneCell']

theorem St.old {N : Nat} {F : List (Nat × Value)} {L : List Ent} {M : Nat → Prop} {w0 w : World} {a : Act} {g : Nat} {o : Obj} (hs : St N F L M w0 a w) (h : w0.heap[g]? = some o) (hm : ¬ M g) : w.heap[g]? = some o := by
  rw [hs.fr.block g (Array.getElem?_eq_some_iff.1 h).1 hm]; exact h

/-- Bytes behind a slice. -/
abbrev RdB (w : World) (v : Value) (l : List UInt8) : Prop := Rd w v l.length (l.map B)
theorem RdB.at_ {w : World} {v : Value} {l : List UInt8} (h : RdB w v l) (hne : 0 < l.length) : ∃ b o cap T fr all, v = .slice (some ⟨b, o, none⟩) l.length cap ∧ l.length ≤ cap ∧ cap ≤ maxLen ∧ w.heap[b]? = some (.cells all T fr) ∧ (all.toList.drop o).take (l.map B).length = l.map B :=
  Rd.at_ h (by intro e; simp at e; subst e; simp at hne)
theorem Rd.le {w : World} {v : Value} {n : Nat} {cs : List Value} (h : Rd w v n cs) : n ≤ 9223372036854775807 := by
  obtain ⟨ad, cap, hv, h1, h2, _⟩ := h
  simp only [maxLen] at h2
  omega
end Go.Fw
end

/- Closed facts on the tables of types and functions of this program. Written by a program of ours (facts.py). -/
section
set_option maxRecDepth 100000
namespace Go.Proofs.Ytmgnnclkjkbmdaa
open Go Go.Fw
theorem pmix : Try.prog.follows .mixedOrders = true := by kernel_rfl
theorem un2 : Try.prog.underlying 2 = some (.int .i64) := by kernel_rfl
theorem ty2 : Ty Try.prog 2 (.int .i64) 1 8 ([I 0]) := Ty.of (v := I 0) un2 (by kernel_rfl) (by kernel_rfl) (by kernel_rfl) (by kernel_rfl)
theorem un3 : Try.prog.underlying 3 = some (.int .i64) := by kernel_rfl
theorem ty3 : Ty Try.prog 3 (.int .i64) 1 8 ([I 0]) := Ty.of (v := I 0) un3 (by kernel_rfl) (by kernel_rfl) (by kernel_rfl) (by kernel_rfl)
theorem un4 : Try.prog.underlying 4 = some (.bool) := by kernel_rfl
theorem ty4 : Ty Try.prog 4 (.bool) 1 1 ([Value.bool false]) := Ty.of (v := Value.bool false) un4 (by kernel_rfl) (by kernel_rfl) (by kernel_rfl) (by kernel_rfl)
theorem un5 : Try.prog.underlying 5 = some (.int .u8) := by kernel_rfl
theorem ty5 : Ty Try.prog 5 (.int .u8) 1 1 ([B 0]) := Ty.of (v := B 0) un5 (by kernel_rfl) (by kernel_rfl) (by kernel_rfl) (by kernel_rfl)
theorem un6 : Try.prog.underlying 6 = some (.int .u8) := by kernel_rfl
theorem ty6 : Ty Try.prog 6 (.int .u8) 1 1 ([B 0]) := Ty.of (v := B 0) un6 (by kernel_rfl) (by kernel_rfl) (by kernel_rfl) (by kernel_rfl)
theorem un7 : Try.prog.underlying 7 = some (dOf Try.prog 7) := und_of (by kernel_rfl)
theorem ty7 : Ty Try.prog 7 (dOf Try.prog 7) 4 24 (List.replicate 2 (I 0) ++ [Value.bool false] ++ [B 0]) := Ty.of (v := .agg (List.replicate 2 (I 0) ++ [Value.bool false] ++ [B 0]).toArray) un7 (by kernel_rfl) (by kernel_rfl) (by kernel_rfl) (by kernel_rfl)
theorem ag7 : aggD (dOf Try.prog 7) = true := by kernel_rfl
theorem fl7_0 : Fld Try.prog 7 0 0 := Fld.of (by kernel_rfl)
theorem fl7_1 : Fld Try.prog 7 1 1 := Fld.of (by kernel_rfl)
theorem fl7_2 : Fld Try.prog 7 2 2 := Fld.of (by kernel_rfl)
theorem fl7_3 : Fld Try.prog 7 3 3 := Fld.of (by kernel_rfl)
theorem un8 : Try.prog.underlying 8 = some (dOf Try.prog 8) := und_of (by kernel_rfl)
theorem ty8 : Ty Try.prog 8 (dOf Try.prog 8) 4 24 (List.replicate 2 (I 0) ++ [Value.bool false] ++ [B 0]) := Ty.of (v := .agg (List.replicate 2 (I 0) ++ [Value.bool false] ++ [B 0]).toArray) un8 (by kernel_rfl) (by kernel_rfl) (by kernel_rfl) (by kernel_rfl)
theorem ag8 : aggD (dOf Try.prog 8) = true := by kernel_rfl
theorem fl8_0 : Fld Try.prog 8 0 0 := Fld.of (by kernel_rfl)
theorem fl8_1 : Fld Try.prog 8 1 1 := Fld.of (by kernel_rfl)
theorem fl8_2 : Fld Try.prog 8 2 2 := Fld.of (by kernel_rfl)
theorem fl8_3 : Fld Try.prog 8 3 3 := Fld.of (by kernel_rfl)
theorem un9 : Try.prog.underlying 9 = some (.string) := by kernel_rfl
theorem ty9 : Ty Try.prog 9 (.string) 1 16 ([Value.string ⟨#[]⟩]) := Ty.of (v := Value.string ⟨#[]⟩) un9 (by kernel_rfl) (by kernel_rfl) (by kernel_rfl) (by kernel_rfl)
theorem un10 : Try.prog.underlying 10 = some (.string) := by kernel_rfl
theorem ty10 : Ty Try.prog 10 (.string) 1 16 ([Value.string ⟨#[]⟩]) := Ty.of (v := Value.string ⟨#[]⟩) un10 (by kernel_rfl) (by kernel_rfl) (by kernel_rfl) (by kernel_rfl)
theorem un11 : Try.prog.underlying 11 = some (.string) := by kernel_rfl
theorem ty11 : Ty Try.prog 11 (.string) 1 16 ([Value.string ⟨#[]⟩]) := Ty.of (v := Value.string ⟨#[]⟩) un11 (by kernel_rfl) (by kernel_rfl) (by kernel_rfl) (by kernel_rfl)
theorem un12 : Try.prog.underlying 12 = some (.int .u64) := by kernel_rfl
theorem ty12 : Ty Try.prog 12 (.int .u64) 1 8 ([V 0]) := Ty.of (v := V 0) un12 (by kernel_rfl) (by kernel_rfl) (by kernel_rfl) (by kernel_rfl)
theorem un15 : Try.prog.underlying 15 = some (.pointer 290) := by kernel_rfl
theorem ty15 : Ty Try.prog 15 (.pointer 290) 1 8 ([Value.pointer none]) := Ty.of (v := Value.pointer none) un15 (by kernel_rfl) (by kernel_rfl) (by kernel_rfl) (by kernel_rfl)
theorem un16 : Try.prog.underlying 16 = some (.pointer 293) := by kernel_rfl
theorem ty16 : Ty Try.prog 16 (.pointer 293) 1 8 ([Value.pointer none]) := Ty.of (v := Value.pointer none) un16 (by kernel_rfl) (by kernel_rfl) (by kernel_rfl) (by kernel_rfl)
theorem un17 : Try.prog.underlying 17 = some (.pointer 301) := by kernel_rfl
theorem ty17 : Ty Try.prog 17 (.pointer 301) 1 8 ([Value.pointer none]) := Ty.of (v := Value.pointer none) un17 (by kernel_rfl) (by kernel_rfl) (by kernel_rfl) (by kernel_rfl)
theorem un18 : Try.prog.underlying 18 = some (dOf Try.prog 18) := und_of (by kernel_rfl)
theorem ty18 : Ty Try.prog 18 (dOf Try.prog 18) 1 8 ([Value.pointer none]) := Ty.of (v := .agg ([Value.pointer none]).toArray) un18 (by kernel_rfl) (by kernel_rfl) (by kernel_rfl) (by kernel_rfl)
theorem ag18 : aggD (dOf Try.prog 18) = true := by kernel_rfl
theorem fl18_0 : Fld Try.prog 18 0 0 := Fld.of (by kernel_rfl)
theorem un19 : Try.prog.underlying 19 = some (dOf Try.prog 19) := und_of (by kernel_rfl)
theorem ty19 : Ty Try.prog 19 (dOf Try.prog 19) 1 8 ([Value.pointer none]) := Ty.of (v := .agg ([Value.pointer none]).toArray) un19 (by kernel_rfl) (by kernel_rfl) (by kernel_rfl) (by kernel_rfl)
theorem ag19 : aggD (dOf Try.prog 19) = true := by kernel_rfl
theorem fl19_0 : Fld Try.prog 19 0 0 := Fld.of (by kernel_rfl)
theorem un21 : Try.prog.underlying 21 = some (.int .i32) := by kernel_rfl
theorem ty21 : Ty Try.prog 21 (.int .i32) 1 4 ([Value.int .i32 0]) := Ty.of (v := Value.int .i32 0) un21 (by kernel_rfl) (by kernel_rfl) (by kernel_rfl) (by kernel_rfl)
theorem un22 : Try.prog.underlying 22 = some (.array 16 5) := by kernel_rfl
theorem ty22 : Ty Try.prog 22 (.array 16 5) 16 16 ((List.replicate 16 (0 : UInt8)).map B) := Ty.of (v := .agg ((List.replicate 16 (0 : UInt8)).map B).toArray) un22 (by kernel_rfl) (by kernel_rfl) (by kernel_rfl) (by kernel_rfl)
theorem eg22 : Try.prog.eqGuardType Try.prog.depth 22 = false := by kernel_rfl
theorem un23 : Try.prog.underlying 23 = some (.array 68 5) := by kernel_rfl
theorem ty23 : Ty Try.prog 23 (.array 68 5) 68 68 ((List.replicate 68 (0 : UInt8)).map B) := Ty.of (v := .agg ((List.replicate 68 (0 : UInt8)).map B).toArray) un23 (by kernel_rfl) (by kernel_rfl) (by kernel_rfl) (by kernel_rfl)
theorem eg23 : Try.prog.eqGuardType Try.prog.depth 23 = false := by kernel_rfl
theorem un27 : Try.prog.underlying 27 = some (.int .u32) := by kernel_rfl
theorem ty27 : Ty Try.prog 27 (.int .u32) 1 4 ([U 0]) := Ty.of (v := U 0) un27 (by kernel_rfl) (by kernel_rfl) (by kernel_rfl) (by kernel_rfl)
theorem un28 : Try.prog.underlying 28 = some (dOf Try.prog 28) := und_of (by kernel_rfl)
theorem ty28 : Ty Try.prog 28 (dOf Try.prog 28) 2 16 ([I 0] ++ [U 0]) := Ty.of (v := .agg ([I 0] ++ [U 0]).toArray) un28 (by kernel_rfl) (by kernel_rfl) (by kernel_rfl) (by kernel_rfl)
theorem eg28 : Try.prog.eqGuardType Try.prog.depth 28 = false := by kernel_rfl
theorem ag28 : aggD (dOf Try.prog 28) = true := by kernel_rfl
theorem fl28_0 : Fld Try.prog 28 0 0 := Fld.of (by kernel_rfl)
theorem fl28_1 : Fld Try.prog 28 1 1 := Fld.of (by kernel_rfl)
theorem un29 : Try.prog.underlying 29 = some (dOf Try.prog 29) := und_of (by kernel_rfl)
theorem ty29 : Ty Try.prog 29 (dOf Try.prog 29) 2 16 ([I 0] ++ [U 0]) := Ty.of (v := .agg ([I 0] ++ [U 0]).toArray) un29 (by kernel_rfl) (by kernel_rfl) (by kernel_rfl) (by kernel_rfl)
theorem eg29 : Try.prog.eqGuardType Try.prog.depth 29 = false := by kernel_rfl
theorem ag29 : aggD (dOf Try.prog 29) = true := by kernel_rfl
theorem fl29_0 : Fld Try.prog 29 0 0 := Fld.of (by kernel_rfl)
theorem fl29_1 : Fld Try.prog 29 1 1 := Fld.of (by kernel_rfl)
theorem un30 : Try.prog.underlying 30 = some (.slice 34) := by kernel_rfl
theorem ty30 : Ty Try.prog 30 (.slice 34) 1 24 ([Value.slice none 0 0]) := Ty.of (v := Value.slice none 0 0) un30 (by kernel_rfl) (by kernel_rfl) (by kernel_rfl) (by kernel_rfl)
theorem un33 : Try.prog.underlying 33 = some (.array 68 22) := by kernel_rfl
theorem ty33 : Ty Try.prog 33 (.array 68 22) 1088 1088 ((List.replicate 1088 (0 : UInt8)).map B) := Ty.of (v := .agg ((List.replicate 1088 (0 : UInt8)).map B).toArray) un33 (by kernel_rfl) (by kernel_rfl) (by kernel_rfl) (by kernel_rfl)
theorem eg33 : Try.prog.eqGuardType Try.prog.depth 33 = false := by kernel_rfl
theorem un34 : Try.prog.underlying 34 = some (.slice 5) := by kernel_rfl
theorem ty34 : Ty Try.prog 34 (.slice 5) 1 24 ([Value.slice none 0 0]) := Ty.of (v := Value.slice none 0 0) un34 (by kernel_rfl) (by kernel_rfl) (by kernel_rfl) (by kernel_rfl)
theorem un40 : Try.prog.underlying 40 = some (.array 32 5) := by kernel_rfl
theorem ty40 : Ty Try.prog 40 (.array 32 5) 32 32 ((List.replicate 32 (0 : UInt8)).map B) := Ty.of (v := .agg ((List.replicate 32 (0 : UInt8)).map B).toArray) un40 (by kernel_rfl) (by kernel_rfl) (by kernel_rfl) (by kernel_rfl)
theorem eg40 : Try.prog.eqGuardType Try.prog.depth 40 = false := by kernel_rfl
theorem un41 : Try.prog.underlying 41 = some (.array 32 5) := by kernel_rfl
theorem ty41 : Ty Try.prog 41 (.array 32 5) 32 32 ((List.replicate 32 (0 : UInt8)).map B) := Ty.of (v := .agg ((List.replicate 32 (0 : UInt8)).map B).toArray) un41 (by kernel_rfl) (by kernel_rfl) (by kernel_rfl) (by kernel_rfl)
theorem eg41 : Try.prog.eqGuardType Try.prog.depth 41 = false := by kernel_rfl
theorem un48 : Try.prog.underlying 48 = some (.pointer 213) := by kernel_rfl
theorem ty48 : Ty Try.prog 48 (.pointer 213) 1 8 ([Value.pointer none]) := Ty.of (v := Value.pointer none) un48 (by kernel_rfl) (by kernel_rfl) (by kernel_rfl) (by kernel_rfl)
theorem un54 : Try.prog.underlying 54 = some (.array 16 5) := by kernel_rfl
theorem ty54 : Ty Try.prog 54 (.array 16 5) 16 16 ((List.replicate 16 (0 : UInt8)).map B) := Ty.of (v := .agg ((List.replicate 16 (0 : UInt8)).map B).toArray) un54 (by kernel_rfl) (by kernel_rfl) (by kernel_rfl) (by kernel_rfl)
theorem eg54 : Try.prog.eqGuardType Try.prog.depth 54 = false := by kernel_rfl
theorem un56 : Try.prog.underlying 56 = some (dOf Try.prog 56) := und_of (by kernel_rfl)
theorem ty56 : Ty Try.prog 56 (dOf Try.prog 56) 2 16 ([I 0] ++ [U 0]) := Ty.of (v := .agg ([I 0] ++ [U 0]).toArray) un56 (by kernel_rfl) (by kernel_rfl) (by kernel_rfl) (by kernel_rfl)
theorem eg56 : Try.prog.eqGuardType Try.prog.depth 56 = false := by kernel_rfl
theorem ag56 : aggD (dOf Try.prog 56) = true := by kernel_rfl
theorem fl56_0 : Fld Try.prog 56 0 0 := Fld.of (by kernel_rfl)
theorem fl56_1 : Fld Try.prog 56 1 1 := Fld.of (by kernel_rfl)
theorem un61 : Try.prog.underlying 61 = some (.int .i64) := by kernel_rfl
theorem ty61 : Ty Try.prog 61 (.int .i64) 1 8 ([I 0]) := Ty.of (v := I 0) un61 (by kernel_rfl) (by kernel_rfl) (by kernel_rfl) (by kernel_rfl)
theorem un69 : Try.prog.underlying 69 = some (.array 68 54) := by kernel_rfl
theorem ty69 : Ty Try.prog 69 (.array 68 54) 1088 1088 ((List.replicate 1088 (0 : UInt8)).map B) := Ty.of (v := .agg ((List.replicate 1088 (0 : UInt8)).map B).toArray) un69 (by kernel_rfl) (by kernel_rfl) (by kernel_rfl) (by kernel_rfl)
theorem eg69 : Try.prog.eqGuardType Try.prog.depth 69 = false := by kernel_rfl
theorem un70 : Try.prog.underlying 70 = some (.array 68 54) := by kernel_rfl
theorem ty70 : Ty Try.prog 70 (.array 68 54) 1088 1088 ((List.replicate 1088 (0 : UInt8)).map B) := Ty.of (v := .agg ((List.replicate 1088 (0 : UInt8)).map B).toArray) un70 (by kernel_rfl) (by kernel_rfl) (by kernel_rfl) (by kernel_rfl)
theorem eg70 : Try.prog.eqGuardType Try.prog.depth 70 = false := by kernel_rfl
theorem un75 : Try.prog.underlying 75 = some (.int .u64) := by kernel_rfl
theorem ty75 : Ty Try.prog 75 (.int .u64) 1 8 ([V 0]) := Ty.of (v := V 0) un75 (by kernel_rfl) (by kernel_rfl) (by kernel_rfl) (by kernel_rfl)
theorem un80 : Try.prog.underlying 80 = some (dOf Try.prog 80) := und_of (by kernel_rfl)
theorem ty80 : Ty Try.prog 80 (dOf Try.prog 80) 3 16 ([I 0] ++ (List.replicate 2 (0 : UInt32)).map U) := Ty.of (v := .agg ([I 0] ++ (List.replicate 2 (0 : UInt32)).map U).toArray) un80 (by kernel_rfl) (by kernel_rfl) (by kernel_rfl) (by kernel_rfl)
theorem eg80 : Try.prog.eqGuardType Try.prog.depth 80 = false := by kernel_rfl
theorem ag80 : aggD (dOf Try.prog 80) = true := by kernel_rfl
theorem fl80_0 : Fld Try.prog 80 0 0 := Fld.of (by kernel_rfl)
theorem fl80_1 : Fld Try.prog 80 1 1 := Fld.of (by kernel_rfl)
theorem fl80_2 : Fld Try.prog 80 2 2 := Fld.of (by kernel_rfl)
theorem un81 : Try.prog.underlying 81 = some (dOf Try.prog 81) := und_of (by kernel_rfl)
theorem ty81 : Ty Try.prog 81 (dOf Try.prog 81) 3 16 ([I 0] ++ (List.replicate 2 (0 : UInt32)).map U) := Ty.of (v := .agg ([I 0] ++ (List.replicate 2 (0 : UInt32)).map U).toArray) un81 (by kernel_rfl) (by kernel_rfl) (by kernel_rfl) (by kernel_rfl)
theorem eg81 : Try.prog.eqGuardType Try.prog.depth 81 = false := by kernel_rfl
theorem ag81 : aggD (dOf Try.prog 81) = true := by kernel_rfl
theorem fl81_0 : Fld Try.prog 81 0 0 := Fld.of (by kernel_rfl)
theorem fl81_1 : Fld Try.prog 81 1 1 := Fld.of (by kernel_rfl)
theorem fl81_2 : Fld Try.prog 81 2 2 := Fld.of (by kernel_rfl)
theorem un84 : Try.prog.underlying 84 = some (dOf Try.prog 84) := und_of (by kernel_rfl)
theorem ty84 : Ty Try.prog 84 (dOf Try.prog 84) 3 16 ([I 0] ++ (List.replicate 2 (0 : UInt32)).map U) := Ty.of (v := .agg ([I 0] ++ (List.replicate 2 (0 : UInt32)).map U).toArray) un84 (by kernel_rfl) (by kernel_rfl) (by kernel_rfl) (by kernel_rfl)
theorem eg84 : Try.prog.eqGuardType Try.prog.depth 84 = false := by kernel_rfl
theorem ag84 : aggD (dOf Try.prog 84) = true := by kernel_rfl
theorem fl84_0 : Fld Try.prog 84 0 0 := Fld.of (by kernel_rfl)
theorem fl84_1 : Fld Try.prog 84 1 1 := Fld.of (by kernel_rfl)
theorem fl84_2 : Fld Try.prog 84 2 2 := Fld.of (by kernel_rfl)
theorem un98 : Try.prog.underlying 98 = some (.int .u16) := by kernel_rfl
theorem ty98 : Ty Try.prog 98 (.int .u16) 1 2 ([Value.int .u16 0]) := Ty.of (v := Value.int .u16 0) un98 (by kernel_rfl) (by kernel_rfl) (by kernel_rfl) (by kernel_rfl)
theorem un109 : Try.prog.underlying 109 = some (.slice 22) := by kernel_rfl
theorem ty109 : Ty Try.prog 109 (.slice 22) 1 24 ([Value.slice none 0 0]) := Ty.of (v := Value.slice none 0 0) un109 (by kernel_rfl) (by kernel_rfl) (by kernel_rfl) (by kernel_rfl)
theorem un110 : Try.prog.underlying 110 = some (.slice 54) := by kernel_rfl
theorem ty110 : Ty Try.prog 110 (.slice 54) 1 24 ([Value.slice none 0 0]) := Ty.of (v := Value.slice none 0 0) un110 (by kernel_rfl) (by kernel_rfl) (by kernel_rfl) (by kernel_rfl)
theorem un112 : Try.prog.underlying 112 = some (.pointer 231) := by kernel_rfl
theorem ty112 : Ty Try.prog 112 (.pointer 231) 1 8 ([Value.pointer none]) := Ty.of (v := Value.pointer none) un112 (by kernel_rfl) (by kernel_rfl) (by kernel_rfl) (by kernel_rfl)
theorem un124 : Try.prog.underlying 124 = some (.slice 210) := by kernel_rfl
theorem ty124 : Ty Try.prog 124 (.slice 210) 1 24 ([Value.slice none 0 0]) := Ty.of (v := Value.slice none 0 0) un124 (by kernel_rfl) (by kernel_rfl) (by kernel_rfl) (by kernel_rfl)
theorem un157 : Try.prog.underlying 157 = some (dOf Try.prog 157) := und_of (by kernel_rfl)
theorem ty157 : Ty Try.prog 157 (dOf Try.prog 157) 3 24 (List.replicate 3 (I 0)) := Ty.of (v := .agg (List.replicate 3 (I 0)).toArray) un157 (by kernel_rfl) (by kernel_rfl) (by kernel_rfl) (by kernel_rfl)
theorem eg157 : Try.prog.eqGuardType Try.prog.depth 157 = false := by kernel_rfl
theorem ag157 : aggD (dOf Try.prog 157) = true := by kernel_rfl
theorem fl157_0 : Fld Try.prog 157 0 0 := Fld.of (by kernel_rfl)
theorem fl157_1 : Fld Try.prog 157 1 1 := Fld.of (by kernel_rfl)
theorem fl157_2 : Fld Try.prog 157 2 2 := Fld.of (by kernel_rfl)
theorem un158 : Try.prog.underlying 158 = some (dOf Try.prog 158) := und_of (by kernel_rfl)
theorem ty158 : Ty Try.prog 158 (dOf Try.prog 158) 3 24 (List.replicate 3 (I 0)) := Ty.of (v := .agg (List.replicate 3 (I 0)).toArray) un158 (by kernel_rfl) (by kernel_rfl) (by kernel_rfl) (by kernel_rfl)
theorem eg158 : Try.prog.eqGuardType Try.prog.depth 158 = false := by kernel_rfl
theorem ag158 : aggD (dOf Try.prog 158) = true := by kernel_rfl
theorem fl158_0 : Fld Try.prog 158 0 0 := Fld.of (by kernel_rfl)
theorem fl158_1 : Fld Try.prog 158 1 1 := Fld.of (by kernel_rfl)
theorem fl158_2 : Fld Try.prog 158 2 2 := Fld.of (by kernel_rfl)
theorem un159 : Try.prog.underlying 159 = some (.pointer 251) := by kernel_rfl
theorem ty159 : Ty Try.prog 159 (.pointer 251) 1 8 ([Value.pointer none]) := Ty.of (v := Value.pointer none) un159 (by kernel_rfl) (by kernel_rfl) (by kernel_rfl) (by kernel_rfl)
theorem un162 : Try.prog.underlying 162 = some (dOf Try.prog 162) := und_of (by kernel_rfl)
theorem ty162 : Ty Try.prog 162 (dOf Try.prog 162) 3 24 (List.replicate 3 (I 0)) := Ty.of (v := .agg (List.replicate 3 (I 0)).toArray) un162 (by kernel_rfl) (by kernel_rfl) (by kernel_rfl) (by kernel_rfl)
theorem eg162 : Try.prog.eqGuardType Try.prog.depth 162 = false := by kernel_rfl
theorem ag162 : aggD (dOf Try.prog 162) = true := by kernel_rfl
theorem fl162_0 : Fld Try.prog 162 0 0 := Fld.of (by kernel_rfl)
theorem fl162_1 : Fld Try.prog 162 1 1 := Fld.of (by kernel_rfl)
theorem fl162_2 : Fld Try.prog 162 2 2 := Fld.of (by kernel_rfl)
theorem un169 : Try.prog.underlying 169 = some (.slice 3) := by kernel_rfl
theorem ty169 : Ty Try.prog 169 (.slice 3) 1 24 ([Value.slice none 0 0]) := Ty.of (v := Value.slice none 0 0) un169 (by kernel_rfl) (by kernel_rfl) (by kernel_rfl) (by kernel_rfl)
theorem un171 : Try.prog.underlying 171 = some (.map 3 54) := by kernel_rfl
theorem ty171 : Ty Try.prog 171 (.map 3 54) 1 8 ([Value.map none]) := Ty.of (v := Value.map none) un171 (by kernel_rfl) (by kernel_rfl) (by kernel_rfl) (by kernel_rfl)
theorem un175 : Try.prog.underlying 175 = some (dOf Try.prog 175) := und_of (by kernel_rfl)
theorem ty175 : Ty Try.prog 175 (dOf Try.prog 175) 3 16 ((List.replicate 2 (0 : UInt32)).map U ++ [I 0]) := Ty.of (v := .agg ((List.replicate 2 (0 : UInt32)).map U ++ [I 0]).toArray) un175 (by kernel_rfl) (by kernel_rfl) (by kernel_rfl) (by kernel_rfl)
theorem eg175 : Try.prog.eqGuardType Try.prog.depth 175 = false := by kernel_rfl
theorem ag175 : aggD (dOf Try.prog 175) = true := by kernel_rfl
theorem fl175_0 : Fld Try.prog 175 0 0 := Fld.of (by kernel_rfl)
theorem fl175_1 : Fld Try.prog 175 1 1 := Fld.of (by kernel_rfl)
theorem fl175_2 : Fld Try.prog 175 2 2 := Fld.of (by kernel_rfl)
theorem un176 : Try.prog.underlying 176 = some (dOf Try.prog 176) := und_of (by kernel_rfl)
theorem ty176 : Ty Try.prog 176 (dOf Try.prog 176) 3 16 ((List.replicate 2 (0 : UInt32)).map U ++ [I 0]) := Ty.of (v := .agg ((List.replicate 2 (0 : UInt32)).map U ++ [I 0]).toArray) un176 (by kernel_rfl) (by kernel_rfl) (by kernel_rfl) (by kernel_rfl)
theorem eg176 : Try.prog.eqGuardType Try.prog.depth 176 = false := by kernel_rfl
theorem ag176 : aggD (dOf Try.prog 176) = true := by kernel_rfl
theorem fl176_0 : Fld Try.prog 176 0 0 := Fld.of (by kernel_rfl)
theorem fl176_1 : Fld Try.prog 176 1 1 := Fld.of (by kernel_rfl)
theorem fl176_2 : Fld Try.prog 176 2 2 := Fld.of (by kernel_rfl)
theorem un177 : Try.prog.underlying 177 = some (dOf Try.prog 177) := und_of (by kernel_rfl)
theorem ty177 : Ty Try.prog 177 (dOf Try.prog 177) 5 32 ([I 0] ++ (List.replicate 2 (0 : UInt32)).map U ++ List.replicate 2 (I 0)) := Ty.of (v := .agg ([I 0] ++ (List.replicate 2 (0 : UInt32)).map U ++ List.replicate 2 (I 0)).toArray) un177 (by kernel_rfl) (by kernel_rfl) (by kernel_rfl) (by kernel_rfl)
theorem eg177 : Try.prog.eqGuardType Try.prog.depth 177 = false := by kernel_rfl
theorem ag177 : aggD (dOf Try.prog 177) = true := by kernel_rfl
theorem fl177_0 : Fld Try.prog 177 0 0 := Fld.of (by kernel_rfl)
theorem fl177_1 : Fld Try.prog 177 1 1 := Fld.of (by kernel_rfl)
theorem fl177_2 : Fld Try.prog 177 2 4 := Fld.of (by kernel_rfl)
theorem un178 : Try.prog.underlying 178 = some (dOf Try.prog 178) := und_of (by kernel_rfl)
theorem ty178 : Ty Try.prog 178 (dOf Try.prog 178) 5 32 ([I 0] ++ (List.replicate 2 (0 : UInt32)).map U ++ List.replicate 2 (I 0)) := Ty.of (v := .agg ([I 0] ++ (List.replicate 2 (0 : UInt32)).map U ++ List.replicate 2 (I 0)).toArray) un178 (by kernel_rfl) (by kernel_rfl) (by kernel_rfl) (by kernel_rfl)
theorem eg178 : Try.prog.eqGuardType Try.prog.depth 178 = false := by kernel_rfl
theorem ag178 : aggD (dOf Try.prog 178) = true := by kernel_rfl
theorem fl178_0 : Fld Try.prog 178 0 0 := Fld.of (by kernel_rfl)
theorem fl178_1 : Fld Try.prog 178 1 1 := Fld.of (by kernel_rfl)
theorem fl178_2 : Fld Try.prog 178 2 4 := Fld.of (by kernel_rfl)
theorem un180 : Try.prog.underlying 180 = some (dOf Try.prog 180) := und_of (by kernel_rfl)
theorem ty180 : Ty Try.prog 180 (dOf Try.prog 180) 3 16 ((List.replicate 2 (0 : UInt32)).map U ++ [I 0]) := Ty.of (v := .agg ((List.replicate 2 (0 : UInt32)).map U ++ [I 0]).toArray) un180 (by kernel_rfl) (by kernel_rfl) (by kernel_rfl) (by kernel_rfl)
theorem eg180 : Try.prog.eqGuardType Try.prog.depth 180 = false := by kernel_rfl
theorem ag180 : aggD (dOf Try.prog 180) = true := by kernel_rfl
theorem fl180_0 : Fld Try.prog 180 0 0 := Fld.of (by kernel_rfl)
theorem fl180_1 : Fld Try.prog 180 1 1 := Fld.of (by kernel_rfl)
theorem fl180_2 : Fld Try.prog 180 2 2 := Fld.of (by kernel_rfl)
theorem un181 : Try.prog.underlying 181 = some (dOf Try.prog 181) := und_of (by kernel_rfl)
theorem ty181 : Ty Try.prog 181 (dOf Try.prog 181) 5 32 ([I 0] ++ (List.replicate 2 (0 : UInt32)).map U ++ List.replicate 2 (I 0)) := Ty.of (v := .agg ([I 0] ++ (List.replicate 2 (0 : UInt32)).map U ++ List.replicate 2 (I 0)).toArray) un181 (by kernel_rfl) (by kernel_rfl) (by kernel_rfl) (by kernel_rfl)
theorem eg181 : Try.prog.eqGuardType Try.prog.depth 181 = false := by kernel_rfl
theorem ag181 : aggD (dOf Try.prog 181) = true := by kernel_rfl
theorem fl181_0 : Fld Try.prog 181 0 0 := Fld.of (by kernel_rfl)
theorem fl181_1 : Fld Try.prog 181 1 1 := Fld.of (by kernel_rfl)
theorem fl181_2 : Fld Try.prog 181 2 4 := Fld.of (by kernel_rfl)
theorem un182 : Try.prog.underlying 182 = some (dOf Try.prog 182) := und_of (by kernel_rfl)
theorem ty182 : Ty Try.prog 182 (dOf Try.prog 182) 5 32 ([I 0] ++ (List.replicate 2 (0 : UInt32)).map U ++ List.replicate 2 (I 0)) := Ty.of (v := .agg ([I 0] ++ (List.replicate 2 (0 : UInt32)).map U ++ List.replicate 2 (I 0)).toArray) un182 (by kernel_rfl) (by kernel_rfl) (by kernel_rfl) (by kernel_rfl)
theorem eg182 : Try.prog.eqGuardType Try.prog.depth 182 = false := by kernel_rfl
theorem ag182 : aggD (dOf Try.prog 182) = true := by kernel_rfl
theorem fl182_0 : Fld Try.prog 182 0 0 := Fld.of (by kernel_rfl)
theorem fl182_1 : Fld Try.prog 182 1 1 := Fld.of (by kernel_rfl)
theorem fl182_2 : Fld Try.prog 182 2 4 := Fld.of (by kernel_rfl)
theorem un191 : Try.prog.underlying 191 = some (dOf Try.prog 191) := und_of (by kernel_rfl)
theorem ty191 : Ty Try.prog 191 (dOf Try.prog 191) 18 64 ((List.replicate 16 (0 : UInt8)).map B ++ List.replicate 2 (Value.slice none 0 0)) := Ty.of (v := .agg ((List.replicate 16 (0 : UInt8)).map B ++ List.replicate 2 (Value.slice none 0 0)).toArray) un191 (by kernel_rfl) (by kernel_rfl) (by kernel_rfl) (by kernel_rfl)
theorem ag191 : aggD (dOf Try.prog 191) = true := by kernel_rfl
theorem fl191_0 : Fld Try.prog 191 0 0 := Fld.of (by kernel_rfl)
theorem fl191_1 : Fld Try.prog 191 1 16 := Fld.of (by kernel_rfl)
theorem fl191_2 : Fld Try.prog 191 2 17 := Fld.of (by kernel_rfl)
theorem un192 : Try.prog.underlying 192 = some (dOf Try.prog 192) := und_of (by kernel_rfl)
theorem ty192 : Ty Try.prog 192 (dOf Try.prog 192) 18 64 ((List.replicate 16 (0 : UInt8)).map B ++ List.replicate 2 (Value.slice none 0 0)) := Ty.of (v := .agg ((List.replicate 16 (0 : UInt8)).map B ++ List.replicate 2 (Value.slice none 0 0)).toArray) un192 (by kernel_rfl) (by kernel_rfl) (by kernel_rfl) (by kernel_rfl)
theorem ag192 : aggD (dOf Try.prog 192) = true := by kernel_rfl
theorem fl192_0 : Fld Try.prog 192 0 0 := Fld.of (by kernel_rfl)
theorem fl192_1 : Fld Try.prog 192 1 16 := Fld.of (by kernel_rfl)
theorem fl192_2 : Fld Try.prog 192 2 17 := Fld.of (by kernel_rfl)
theorem un196 : Try.prog.underlying 196 = some (dOf Try.prog 196) := und_of (by kernel_rfl)
theorem ty196 : Ty Try.prog 196 (dOf Try.prog 196) 21 64 ([I 0] ++ (List.replicate 2 (0 : UInt32)).map U ++ [I 0] ++ (List.replicate 16 (0 : UInt8)).map B ++ [Value.slice none 0 0]) := Ty.of (v := .agg ([I 0] ++ (List.replicate 2 (0 : UInt32)).map U ++ [I 0] ++ (List.replicate 16 (0 : UInt8)).map B ++ [Value.slice none 0 0]).toArray) un196 (by kernel_rfl) (by kernel_rfl) (by kernel_rfl) (by kernel_rfl)
theorem ag196 : aggD (dOf Try.prog 196) = true := by kernel_rfl
theorem fl196_0 : Fld Try.prog 196 0 0 := Fld.of (by kernel_rfl)
theorem fl196_1 : Fld Try.prog 196 1 1 := Fld.of (by kernel_rfl)
theorem fl196_2 : Fld Try.prog 196 2 4 := Fld.of (by kernel_rfl)
theorem fl196_3 : Fld Try.prog 196 3 20 := Fld.of (by kernel_rfl)
theorem un197 : Try.prog.underlying 197 = some (dOf Try.prog 197) := und_of (by kernel_rfl)
theorem ty197 : Ty Try.prog 197 (dOf Try.prog 197) 21 64 ([I 0] ++ (List.replicate 2 (0 : UInt32)).map U ++ [I 0] ++ (List.replicate 16 (0 : UInt8)).map B ++ [Value.slice none 0 0]) := Ty.of (v := .agg ([I 0] ++ (List.replicate 2 (0 : UInt32)).map U ++ [I 0] ++ (List.replicate 16 (0 : UInt8)).map B ++ [Value.slice none 0 0]).toArray) un197 (by kernel_rfl) (by kernel_rfl) (by kernel_rfl) (by kernel_rfl)
theorem ag197 : aggD (dOf Try.prog 197) = true := by kernel_rfl
theorem fl197_0 : Fld Try.prog 197 0 0 := Fld.of (by kernel_rfl)
theorem fl197_1 : Fld Try.prog 197 1 1 := Fld.of (by kernel_rfl)
theorem fl197_2 : Fld Try.prog 197 2 4 := Fld.of (by kernel_rfl)
theorem fl197_3 : Fld Try.prog 197 3 20 := Fld.of (by kernel_rfl)
theorem un205 : Try.prog.underlying 205 = some (.array 8 27) := by kernel_rfl
theorem ty205 : Ty Try.prog 205 (.array 8 27) 8 32 ((List.replicate 8 (0 : UInt32)).map U) := Ty.of (v := .agg ((List.replicate 8 (0 : UInt32)).map U).toArray) un205 (by kernel_rfl) (by kernel_rfl) (by kernel_rfl) (by kernel_rfl)
theorem eg205 : Try.prog.eqGuardType Try.prog.depth 205 = false := by kernel_rfl
theorem un207 : Try.prog.underlying 207 = some (.array 64 27) := by kernel_rfl
theorem ty207 : Ty Try.prog 207 (.array 64 27) 64 256 ((List.replicate 64 (0 : UInt32)).map U) := Ty.of (v := .agg ((List.replicate 64 (0 : UInt32)).map U).toArray) un207 (by kernel_rfl) (by kernel_rfl) (by kernel_rfl) (by kernel_rfl)
theorem eg207 : Try.prog.eqGuardType Try.prog.depth 207 = false := by kernel_rfl
theorem un210 : Try.prog.underlying 210 = some (.int .u64) := by kernel_rfl
theorem ty210 : Ty Try.prog 210 (.int .u64) 1 8 ([V 0]) := Ty.of (v := V 0) un210 (by kernel_rfl) (by kernel_rfl) (by kernel_rfl) (by kernel_rfl)
theorem un211 : Try.prog.underlying 211 = some (.array 8 5) := by kernel_rfl
theorem ty211 : Ty Try.prog 211 (.array 8 5) 8 8 ((List.replicate 8 (0 : UInt8)).map B) := Ty.of (v := .agg ((List.replicate 8 (0 : UInt8)).map B).toArray) un211 (by kernel_rfl) (by kernel_rfl) (by kernel_rfl) (by kernel_rfl)
theorem eg211 : Try.prog.eqGuardType Try.prog.depth 211 = false := by kernel_rfl
theorem un212 : Try.prog.underlying 212 = some (dOf Try.prog 212) := und_of (by kernel_rfl)
theorem ty212 : Ty Try.prog 212 (dOf Try.prog 212) 11 72 ((List.replicate 8 (0 : UInt32)).map U ++ [Value.slice none 0 0] ++ [V 0] ++ [I 0]) := Ty.of (v := .agg ((List.replicate 8 (0 : UInt32)).map U ++ [Value.slice none 0 0] ++ [V 0] ++ [I 0]).toArray) un212 (by kernel_rfl) (by kernel_rfl) (by kernel_rfl) (by kernel_rfl)
theorem ag212 : aggD (dOf Try.prog 212) = true := by kernel_rfl
theorem fl212_0 : Fld Try.prog 212 0 0 := Fld.of (by kernel_rfl)
theorem fl212_1 : Fld Try.prog 212 1 8 := Fld.of (by kernel_rfl)
theorem fl212_2 : Fld Try.prog 212 2 9 := Fld.of (by kernel_rfl)
theorem fl212_3 : Fld Try.prog 212 3 10 := Fld.of (by kernel_rfl)
theorem un213 : Try.prog.underlying 213 = some (dOf Try.prog 213) := und_of (by kernel_rfl)
theorem ty213 : Ty Try.prog 213 (dOf Try.prog 213) 11 72 ((List.replicate 8 (0 : UInt32)).map U ++ [Value.slice none 0 0] ++ [V 0] ++ [I 0]) := Ty.of (v := .agg ((List.replicate 8 (0 : UInt32)).map U ++ [Value.slice none 0 0] ++ [V 0] ++ [I 0]).toArray) un213 (by kernel_rfl) (by kernel_rfl) (by kernel_rfl) (by kernel_rfl)
theorem ag213 : aggD (dOf Try.prog 213) = true := by kernel_rfl
theorem fl213_0 : Fld Try.prog 213 0 0 := Fld.of (by kernel_rfl)
theorem fl213_1 : Fld Try.prog 213 1 8 := Fld.of (by kernel_rfl)
theorem fl213_2 : Fld Try.prog 213 2 9 := Fld.of (by kernel_rfl)
theorem fl213_3 : Fld Try.prog 213 3 10 := Fld.of (by kernel_rfl)
theorem un222 : Try.prog.underlying 222 = some (.slice 110) := by kernel_rfl
theorem ty222 : Ty Try.prog 222 (.slice 110) 1 24 ([Value.slice none 0 0]) := Ty.of (v := Value.slice none 0 0) un222 (by kernel_rfl) (by kernel_rfl) (by kernel_rfl) (by kernel_rfl)
theorem un226 : Try.prog.underlying 226 = some (.array 64 5) := by kernel_rfl
theorem ty226 : Ty Try.prog 226 (.array 64 5) 64 64 ((List.replicate 64 (0 : UInt8)).map B) := Ty.of (v := .agg ((List.replicate 64 (0 : UInt8)).map B).toArray) un226 (by kernel_rfl) (by kernel_rfl) (by kernel_rfl) (by kernel_rfl)
theorem eg226 : Try.prog.eqGuardType Try.prog.depth 226 = false := by kernel_rfl
theorem un230 : Try.prog.underlying 230 = some (dOf Try.prog 230) := und_of (by kernel_rfl)
theorem ty230 : Ty Try.prog 230 (dOf Try.prog 230) 3 40 ([I 0] ++ [U 0] ++ [Value.slice none 0 0]) := Ty.of (v := .agg ([I 0] ++ [U 0] ++ [Value.slice none 0 0]).toArray) un230 (by kernel_rfl) (by kernel_rfl) (by kernel_rfl) (by kernel_rfl)
theorem ag230 : aggD (dOf Try.prog 230) = true := by kernel_rfl
theorem fl230_0 : Fld Try.prog 230 0 0 := Fld.of (by kernel_rfl)
theorem fl230_1 : Fld Try.prog 230 1 1 := Fld.of (by kernel_rfl)
theorem fl230_2 : Fld Try.prog 230 2 2 := Fld.of (by kernel_rfl)
theorem un231 : Try.prog.underlying 231 = some (dOf Try.prog 231) := und_of (by kernel_rfl)
theorem ty231 : Ty Try.prog 231 (dOf Try.prog 231) 3 40 ([I 0] ++ [U 0] ++ [Value.slice none 0 0]) := Ty.of (v := .agg ([I 0] ++ [U 0] ++ [Value.slice none 0 0]).toArray) un231 (by kernel_rfl) (by kernel_rfl) (by kernel_rfl) (by kernel_rfl)
theorem ag231 : aggD (dOf Try.prog 231) = true := by kernel_rfl
theorem fl231_0 : Fld Try.prog 231 0 0 := Fld.of (by kernel_rfl)
theorem fl231_1 : Fld Try.prog 231 1 1 := Fld.of (by kernel_rfl)
theorem fl231_2 : Fld Try.prog 231 2 2 := Fld.of (by kernel_rfl)
theorem un235 : Try.prog.underlying 235 = some (.slice 266) := by kernel_rfl
theorem ty235 : Ty Try.prog 235 (.slice 266) 1 24 ([Value.slice none 0 0]) := Ty.of (v := Value.slice none 0 0) un235 (by kernel_rfl) (by kernel_rfl) (by kernel_rfl) (by kernel_rfl)
theorem un239 : Try.prog.underlying 239 = some (dOf Try.prog 239) := und_of (by kernel_rfl)
theorem ty239 : Ty Try.prog 239 (dOf Try.prog 239) 1 4 ([U 0]) := Ty.of (v := .agg ([U 0]).toArray) un239 (by kernel_rfl) (by kernel_rfl) (by kernel_rfl) (by kernel_rfl)
theorem eg239 : Try.prog.eqGuardType Try.prog.depth 239 = false := by kernel_rfl
theorem ag239 : aggD (dOf Try.prog 239) = true := by kernel_rfl
theorem fl239_1 : Fld Try.prog 239 1 0 := Fld.of (by kernel_rfl)
theorem un240 : Try.prog.underlying 240 = some (dOf Try.prog 240) := und_of (by kernel_rfl)
theorem ty240 : Ty Try.prog 240 (dOf Try.prog 240) 1 4 ([U 0]) := Ty.of (v := .agg ([U 0]).toArray) un240 (by kernel_rfl) (by kernel_rfl) (by kernel_rfl) (by kernel_rfl)
theorem eg240 : Try.prog.eqGuardType Try.prog.depth 240 = false := by kernel_rfl
theorem ag240 : aggD (dOf Try.prog 240) = true := by kernel_rfl
theorem fl240_1 : Fld Try.prog 240 1 0 := Fld.of (by kernel_rfl)
theorem un241 : Try.prog.underlying 241 = some (dOf Try.prog 241) := und_of (by kernel_rfl)
theorem ty241 : Ty Try.prog 241 (dOf Try.prog 241) 2 8 ([Value.int .i32 0] ++ [U 0]) := Ty.of (v := .agg ([Value.int .i32 0] ++ [U 0]).toArray) un241 (by kernel_rfl) (by kernel_rfl) (by kernel_rfl) (by kernel_rfl)
theorem eg241 : Try.prog.eqGuardType Try.prog.depth 241 = false := by kernel_rfl
theorem ag241 : aggD (dOf Try.prog 241) = true := by kernel_rfl
theorem fl241_0 : Fld Try.prog 241 0 0 := Fld.of (by kernel_rfl)
theorem fl241_1 : Fld Try.prog 241 1 1 := Fld.of (by kernel_rfl)
theorem un242 : Try.prog.underlying 242 = some (dOf Try.prog 242) := und_of (by kernel_rfl)
theorem ty242 : Ty Try.prog 242 (dOf Try.prog 242) 2 8 ([Value.int .i32 0] ++ [U 0]) := Ty.of (v := .agg ([Value.int .i32 0] ++ [U 0]).toArray) un242 (by kernel_rfl) (by kernel_rfl) (by kernel_rfl) (by kernel_rfl)
theorem eg242 : Try.prog.eqGuardType Try.prog.depth 242 = false := by kernel_rfl
theorem ag242 : aggD (dOf Try.prog 242) = true := by kernel_rfl
theorem fl242_0 : Fld Try.prog 242 0 0 := Fld.of (by kernel_rfl)
theorem fl242_1 : Fld Try.prog 242 1 1 := Fld.of (by kernel_rfl)
theorem un243 : Try.prog.underlying 243 = some (dOf Try.prog 243) := und_of (by kernel_rfl)
theorem ty243 : Ty Try.prog 243 (dOf Try.prog 243) 2 8 ([Value.int .i32 0] ++ [U 0]) := Ty.of (v := .agg ([Value.int .i32 0] ++ [U 0]).toArray) un243 (by kernel_rfl) (by kernel_rfl) (by kernel_rfl) (by kernel_rfl)
theorem eg243 : Try.prog.eqGuardType Try.prog.depth 243 = false := by kernel_rfl
theorem ag243 : aggD (dOf Try.prog 243) = true := by kernel_rfl
theorem fl243_1 : Fld Try.prog 243 1 0 := Fld.of (by kernel_rfl)
theorem un244 : Try.prog.underlying 244 = some (dOf Try.prog 244) := und_of (by kernel_rfl)
theorem ty244 : Ty Try.prog 244 (dOf Try.prog 244) 2 8 ([Value.int .i32 0] ++ [U 0]) := Ty.of (v := .agg ([Value.int .i32 0] ++ [U 0]).toArray) un244 (by kernel_rfl) (by kernel_rfl) (by kernel_rfl) (by kernel_rfl)
theorem eg244 : Try.prog.eqGuardType Try.prog.depth 244 = false := by kernel_rfl
theorem ag244 : aggD (dOf Try.prog 244) = true := by kernel_rfl
theorem fl244_1 : Fld Try.prog 244 1 0 := Fld.of (by kernel_rfl)
theorem un245 : Try.prog.underlying 245 = some (dOf Try.prog 245) := und_of (by kernel_rfl)
theorem ty245 : Ty Try.prog 245 (dOf Try.prog 245) 3 12 ([U 0] ++ [Value.int .i32 0] ++ [U 0]) := Ty.of (v := .agg ([U 0] ++ [Value.int .i32 0] ++ [U 0]).toArray) un245 (by kernel_rfl) (by kernel_rfl) (by kernel_rfl) (by kernel_rfl)
theorem eg245 : Try.prog.eqGuardType Try.prog.depth 245 = false := by kernel_rfl
theorem ag245 : aggD (dOf Try.prog 245) = true := by kernel_rfl
theorem fl245_1 : Fld Try.prog 245 1 0 := Fld.of (by kernel_rfl)
theorem fl245_2 : Fld Try.prog 245 2 1 := Fld.of (by kernel_rfl)
theorem un246 : Try.prog.underlying 246 = some (dOf Try.prog 246) := und_of (by kernel_rfl)
theorem ty246 : Ty Try.prog 246 (dOf Try.prog 246) 3 12 ([U 0] ++ [Value.int .i32 0] ++ [U 0]) := Ty.of (v := .agg ([U 0] ++ [Value.int .i32 0] ++ [U 0]).toArray) un246 (by kernel_rfl) (by kernel_rfl) (by kernel_rfl) (by kernel_rfl)
theorem eg246 : Try.prog.eqGuardType Try.prog.depth 246 = false := by kernel_rfl
theorem ag246 : aggD (dOf Try.prog 246) = true := by kernel_rfl
theorem fl246_1 : Fld Try.prog 246 1 0 := Fld.of (by kernel_rfl)
theorem fl246_2 : Fld Try.prog 246 2 1 := Fld.of (by kernel_rfl)
theorem un248 : Try.prog.underlying 248 = some (dOf Try.prog 248) := und_of (by kernel_rfl)
theorem ty248 : Ty Try.prog 248 (dOf Try.prog 248) 1 8 ([I 0]) := Ty.of (v := .agg ([I 0]).toArray) un248 (by kernel_rfl) (by kernel_rfl) (by kernel_rfl) (by kernel_rfl)
theorem eg248 : Try.prog.eqGuardType Try.prog.depth 248 = false := by kernel_rfl
theorem ag248 : aggD (dOf Try.prog 248) = true := by kernel_rfl
theorem fl248_2 : Fld Try.prog 248 2 0 := Fld.of (by kernel_rfl)
theorem un249 : Try.prog.underlying 249 = some (dOf Try.prog 249) := und_of (by kernel_rfl)
theorem ty249 : Ty Try.prog 249 (dOf Try.prog 249) 1 8 ([I 0]) := Ty.of (v := .agg ([I 0]).toArray) un249 (by kernel_rfl) (by kernel_rfl) (by kernel_rfl) (by kernel_rfl)
theorem eg249 : Try.prog.eqGuardType Try.prog.depth 249 = false := by kernel_rfl
theorem ag249 : aggD (dOf Try.prog 249) = true := by kernel_rfl
theorem fl249_2 : Fld Try.prog 249 2 0 := Fld.of (by kernel_rfl)
theorem un250 : Try.prog.underlying 250 = some (dOf Try.prog 250) := und_of (by kernel_rfl)
theorem ty250 : Ty Try.prog 250 (dOf Try.prog 250) 43 128 (List.replicate 3 (I 0) ++ (List.replicate 32 (0 : UInt8)).map B ++ [I 0] ++ [U 0] ++ [Value.slice none 0 0] ++ [U 0] ++ [Value.int .i32 0] ++ [U 0] ++ [Value.pointer none] ++ [I 0]) := Ty.of (v := .agg (List.replicate 3 (I 0) ++ (List.replicate 32 (0 : UInt8)).map B ++ [I 0] ++ [U 0] ++ [Value.slice none 0 0] ++ [U 0] ++ [Value.int .i32 0] ++ [U 0] ++ [Value.pointer none] ++ [I 0]).toArray) un250 (by kernel_rfl) (by kernel_rfl) (by kernel_rfl) (by kernel_rfl)
theorem ag250 : aggD (dOf Try.prog 250) = true := by kernel_rfl
theorem fl250_0 : Fld Try.prog 250 0 0 := Fld.of (by kernel_rfl)
theorem fl250_1 : Fld Try.prog 250 1 3 := Fld.of (by kernel_rfl)
theorem fl250_2 : Fld Try.prog 250 2 35 := Fld.of (by kernel_rfl)
theorem fl250_3 : Fld Try.prog 250 3 36 := Fld.of (by kernel_rfl)
theorem fl250_4 : Fld Try.prog 250 4 37 := Fld.of (by kernel_rfl)
theorem fl250_5 : Fld Try.prog 250 5 38 := Fld.of (by kernel_rfl)
theorem fl250_6 : Fld Try.prog 250 6 41 := Fld.of (by kernel_rfl)
theorem fl250_7 : Fld Try.prog 250 7 42 := Fld.of (by kernel_rfl)
theorem un251 : Try.prog.underlying 251 = some (dOf Try.prog 251) := und_of (by kernel_rfl)
theorem ty251 : Ty Try.prog 251 (dOf Try.prog 251) 43 128 (List.replicate 3 (I 0) ++ (List.replicate 32 (0 : UInt8)).map B ++ [I 0] ++ [U 0] ++ [Value.slice none 0 0] ++ [U 0] ++ [Value.int .i32 0] ++ [U 0] ++ [Value.pointer none] ++ [I 0]) := Ty.of (v := .agg (List.replicate 3 (I 0) ++ (List.replicate 32 (0 : UInt8)).map B ++ [I 0] ++ [U 0] ++ [Value.slice none 0 0] ++ [U 0] ++ [Value.int .i32 0] ++ [U 0] ++ [Value.pointer none] ++ [I 0]).toArray) un251 (by kernel_rfl) (by kernel_rfl) (by kernel_rfl) (by kernel_rfl)
theorem ag251 : aggD (dOf Try.prog 251) = true := by kernel_rfl
theorem fl251_0 : Fld Try.prog 251 0 0 := Fld.of (by kernel_rfl)
theorem fl251_1 : Fld Try.prog 251 1 3 := Fld.of (by kernel_rfl)
theorem fl251_2 : Fld Try.prog 251 2 35 := Fld.of (by kernel_rfl)
theorem fl251_3 : Fld Try.prog 251 3 36 := Fld.of (by kernel_rfl)
theorem fl251_4 : Fld Try.prog 251 4 37 := Fld.of (by kernel_rfl)
theorem fl251_5 : Fld Try.prog 251 5 38 := Fld.of (by kernel_rfl)
theorem fl251_6 : Fld Try.prog 251 6 41 := Fld.of (by kernel_rfl)
theorem fl251_7 : Fld Try.prog 251 7 42 := Fld.of (by kernel_rfl)
theorem un260 : Try.prog.underlying 260 = some (.pointer 249) := by kernel_rfl
theorem ty260 : Ty Try.prog 260 (.pointer 249) 1 8 ([Value.pointer none]) := Ty.of (v := Value.pointer none) un260 (by kernel_rfl) (by kernel_rfl) (by kernel_rfl) (by kernel_rfl)
theorem un262 : Try.prog.underlying 262 = some (.pointer 2) := by kernel_rfl
theorem ty262 : Ty Try.prog 262 (.pointer 2) 1 8 ([Value.pointer none]) := Ty.of (v := Value.pointer none) un262 (by kernel_rfl) (by kernel_rfl) (by kernel_rfl) (by kernel_rfl)
theorem un264 : Try.prog.underlying 264 = some (.pointer 266) := by kernel_rfl
theorem ty264 : Ty Try.prog 264 (.pointer 266) 1 8 ([Value.pointer none]) := Ty.of (v := Value.pointer none) un264 (by kernel_rfl) (by kernel_rfl) (by kernel_rfl) (by kernel_rfl)
theorem un265 : Try.prog.underlying 265 = some (dOf Try.prog 265) := und_of (by kernel_rfl)
theorem ty265 : Ty Try.prog 265 (dOf Try.prog 265) 4 40 ([U 0] ++ [Value.int .i32 0] ++ [U 0] ++ [Value.slice none 0 0]) := Ty.of (v := .agg ([U 0] ++ [Value.int .i32 0] ++ [U 0] ++ [Value.slice none 0 0]).toArray) un265 (by kernel_rfl) (by kernel_rfl) (by kernel_rfl) (by kernel_rfl)
theorem ag265 : aggD (dOf Try.prog 265) = true := by kernel_rfl
theorem fl265_0 : Fld Try.prog 265 0 0 := Fld.of (by kernel_rfl)
theorem fl265_1 : Fld Try.prog 265 1 3 := Fld.of (by kernel_rfl)
theorem un266 : Try.prog.underlying 266 = some (dOf Try.prog 266) := und_of (by kernel_rfl)
theorem ty266 : Ty Try.prog 266 (dOf Try.prog 266) 4 40 ([U 0] ++ [Value.int .i32 0] ++ [U 0] ++ [Value.slice none 0 0]) := Ty.of (v := .agg ([U 0] ++ [Value.int .i32 0] ++ [U 0] ++ [Value.slice none 0 0]).toArray) un266 (by kernel_rfl) (by kernel_rfl) (by kernel_rfl) (by kernel_rfl)
theorem ag266 : aggD (dOf Try.prog 266) = true := by kernel_rfl
theorem fl266_0 : Fld Try.prog 266 0 0 := Fld.of (by kernel_rfl)
theorem fl266_1 : Fld Try.prog 266 1 3 := Fld.of (by kernel_rfl)
theorem un268 : Try.prog.underlying 268 = some (.pointer 246) := by kernel_rfl
theorem ty268 : Ty Try.prog 268 (.pointer 246) 1 8 ([Value.pointer none]) := Ty.of (v := Value.pointer none) un268 (by kernel_rfl) (by kernel_rfl) (by kernel_rfl) (by kernel_rfl)
theorem un271 : Try.prog.underlying 271 = some (.pointer 240) := by kernel_rfl
theorem ty271 : Ty Try.prog 271 (.pointer 240) 1 8 ([Value.pointer none]) := Ty.of (v := Value.pointer none) un271 (by kernel_rfl) (by kernel_rfl) (by kernel_rfl) (by kernel_rfl)
theorem un273 : Try.prog.underlying 273 = some (.pointer 27) := by kernel_rfl
theorem ty273 : Ty Try.prog 273 (.pointer 27) 1 8 ([Value.pointer none]) := Ty.of (v := Value.pointer none) un273 (by kernel_rfl) (by kernel_rfl) (by kernel_rfl) (by kernel_rfl)
theorem un276 : Try.prog.underlying 276 = some (.pointer 244) := by kernel_rfl
theorem ty276 : Ty Try.prog 276 (.pointer 244) 1 8 ([Value.pointer none]) := Ty.of (v := Value.pointer none) un276 (by kernel_rfl) (by kernel_rfl) (by kernel_rfl) (by kernel_rfl)
theorem un279 : Try.prog.underlying 279 = some (.pointer 242) := by kernel_rfl
theorem ty279 : Ty Try.prog 279 (.pointer 242) 1 8 ([Value.pointer none]) := Ty.of (v := Value.pointer none) un279 (by kernel_rfl) (by kernel_rfl) (by kernel_rfl) (by kernel_rfl)
theorem un281 : Try.prog.underlying 281 = some (.pointer 21) := by kernel_rfl
theorem ty281 : Ty Try.prog 281 (.pointer 21) 1 8 ([Value.pointer none]) := Ty.of (v := Value.pointer none) un281 (by kernel_rfl) (by kernel_rfl) (by kernel_rfl) (by kernel_rfl)
theorem un294 : Try.prog.underlying 294 = some (.int .u8) := by kernel_rfl
theorem ty294 : Ty Try.prog 294 (.int .u8) 1 1 ([B 0]) := Ty.of (v := B 0) un294 (by kernel_rfl) (by kernel_rfl) (by kernel_rfl) (by kernel_rfl)
theorem un295 : Try.prog.underlying 295 = some (.int .u8) := by kernel_rfl
theorem ty295 : Ty Try.prog 295 (.int .u8) 1 1 ([B 0]) := Ty.of (v := B 0) un295 (by kernel_rfl) (by kernel_rfl) (by kernel_rfl) (by kernel_rfl)
theorem un297 : Try.prog.underlying 297 = some (.pointer 5) := by kernel_rfl
theorem ty297 : Ty Try.prog 297 (.pointer 5) 1 8 ([Value.pointer none]) := Ty.of (v := Value.pointer none) un297 (by kernel_rfl) (by kernel_rfl) (by kernel_rfl) (by kernel_rfl)
theorem un298 : Try.prog.underlying 298 = some (.int .i32) := by kernel_rfl
theorem ty298 : Ty Try.prog 298 (.int .i32) 1 4 ([Value.int .i32 0]) := Ty.of (v := Value.int .i32 0) un298 (by kernel_rfl) (by kernel_rfl) (by kernel_rfl) (by kernel_rfl)
theorem un299 : Try.prog.underlying 299 = some (.int .i32) := by kernel_rfl
theorem ty299 : Ty Try.prog 299 (.int .i32) 1 4 ([Value.int .i32 0]) := Ty.of (v := Value.int .i32 0) un299 (by kernel_rfl) (by kernel_rfl) (by kernel_rfl) (by kernel_rfl)
theorem fu2 : Fun Try.prog 2 := ⟨_, Try.func2, by kernel_rfl, rfl⟩
theorem fu3 : Fun Try.prog 3 := ⟨_, Try.func3, by kernel_rfl, rfl⟩
theorem fu4 : Fun Try.prog 4 := ⟨_, Try.func4, by kernel_rfl, rfl⟩
theorem fu5 : Fun Try.prog 5 := ⟨_, Try.func5, by kernel_rfl, rfl⟩
theorem fu6 : Fun Try.prog 6 := ⟨_, Try.func6, by kernel_rfl, rfl⟩
theorem fu7 : Fun Try.prog 7 := ⟨_, Try.func7, by kernel_rfl, rfl⟩
theorem fu8 : Fun Try.prog 8 := ⟨_, Try.func8, by kernel_rfl, rfl⟩
theorem fu9 : Fun Try.prog 9 := ⟨_, Try.func9, by kernel_rfl, rfl⟩
theorem fu10 : Fun Try.prog 10 := ⟨_, Try.func10, by kernel_rfl, rfl⟩
theorem fu11 : Fun Try.prog 11 := ⟨_, Try.func11, by kernel_rfl, rfl⟩
theorem fu12 : Fun Try.prog 12 := ⟨_, Try.func12, by kernel_rfl, rfl⟩
theorem fu13 : Fun Try.prog 13 := ⟨_, Try.func13, by kernel_rfl, rfl⟩
theorem fu14 : Fun Try.prog 14 := ⟨_, Try.func14, by kernel_rfl, rfl⟩
theorem fu15 : Fun Try.prog 15 := ⟨_, Try.func15, by kernel_rfl, rfl⟩
theorem fu16 : Fun Try.prog 16 := ⟨_, Try.func16, by kernel_rfl, rfl⟩
theorem fu17 : Fun Try.prog 17 := ⟨_, Try.func17, by kernel_rfl, rfl⟩
theorem fu18 : Fun Try.prog 18 := ⟨_, Try.func18, by kernel_rfl, rfl⟩
theorem fu19 : Fun Try.prog 19 := ⟨_, Try.func19, by kernel_rfl, rfl⟩
theorem fu20 : Fun Try.prog 20 := ⟨_, Try.func20, by kernel_rfl, rfl⟩
theorem fu21 : Fun Try.prog 21 := ⟨_, Try.func21, by kernel_rfl, rfl⟩
theorem fu22 : Fun Try.prog 22 := ⟨_, Try.func22, by kernel_rfl, rfl⟩
theorem fu23 : Fun Try.prog 23 := ⟨_, Try.func23, by kernel_rfl, rfl⟩
theorem fu24 : Fun Try.prog 24 := ⟨_, Try.func24, by kernel_rfl, rfl⟩
theorem fu25 : Fun Try.prog 25 := ⟨_, Try.func25, by kernel_rfl, rfl⟩
theorem fu26 : Fun Try.prog 26 := ⟨_, Try.func26, by kernel_rfl, rfl⟩
theorem fu27 : Fun Try.prog 27 := ⟨_, Try.func27, by kernel_rfl, rfl⟩
theorem fu28 : Fun Try.prog 28 := ⟨_, Try.func28, by kernel_rfl, rfl⟩
theorem fu29 : Fun Try.prog 29 := ⟨_, Try.func29, by kernel_rfl, rfl⟩
theorem fu30 : Fun Try.prog 30 := ⟨_, Try.func30, by kernel_rfl, rfl⟩
theorem fu31 : Fun Try.prog 31 := ⟨_, Try.func31, by kernel_rfl, rfl⟩
theorem fu32 : Fun Try.prog 32 := ⟨_, Try.func32, by kernel_rfl, rfl⟩
theorem fu33 : Fun Try.prog 33 := ⟨_, Try.func33, by kernel_rfl, rfl⟩
theorem fu34 : Fun Try.prog 34 := ⟨_, Try.func34, by kernel_rfl, rfl⟩
theorem fu35 : Fun Try.prog 35 := ⟨_, Try.func35, by kernel_rfl, rfl⟩
theorem fu36 : Fun Try.prog 36 := ⟨_, Try.func36, by kernel_rfl, rfl⟩
theorem fu37 : Fun Try.prog 37 := ⟨_, Try.func37, by kernel_rfl, rfl⟩
theorem fu38 : Fun Try.prog 38 := ⟨_, Try.func38, by kernel_rfl, rfl⟩
theorem fu39 : Fun Try.prog 39 := ⟨_, Try.func39, by kernel_rfl, rfl⟩
theorem fu40 : Fun Try.prog 40 := ⟨_, Try.func40, by kernel_rfl, rfl⟩
theorem fu41 : Fun Try.prog 41 := ⟨_, Try.func41, by kernel_rfl, rfl⟩
theorem fu42 : Fun Try.prog 42 := ⟨_, Try.func42, by kernel_rfl, rfl⟩
theorem fu43 : Fun Try.prog 43 := ⟨_, Try.func43, by kernel_rfl, rfl⟩
theorem fu44 : Fun Try.prog 44 := ⟨_, Try.func44, by kernel_rfl, rfl⟩
theorem fu45 : Fun Try.prog 45 := ⟨_, Try.func45, by kernel_rfl, rfl⟩
theorem fu46 : Fun Try.prog 46 := ⟨_, Try.func46, by kernel_rfl, rfl⟩
theorem fu47 : Fun Try.prog 47 := ⟨_, Try.func47, by kernel_rfl, rfl⟩
theorem fu48 : Fun Try.prog 48 := ⟨_, Try.func48, by kernel_rfl, rfl⟩
theorem fu49 : Fun Try.prog 49 := ⟨_, Try.func49, by kernel_rfl, rfl⟩
theorem fu50 : Fun Try.prog 50 := ⟨_, Try.func50, by kernel_rfl, rfl⟩
theorem fu51 : Fun Try.prog 51 := ⟨_, Try.func51, by kernel_rfl, rfl⟩
theorem fu52 : Fun Try.prog 52 := ⟨_, Try.func52, by kernel_rfl, rfl⟩
theorem fu53 : Fun Try.prog 53 := ⟨_, Try.func53, by kernel_rfl, rfl⟩
theorem fu54 : Fun Try.prog 54 := ⟨_, Try.func54, by kernel_rfl, rfl⟩
theorem fu55 : Fun Try.prog 55 := ⟨_, Try.func55, by kernel_rfl, rfl⟩
theorem fu56 : Fun Try.prog 56 := ⟨_, Try.func56, by kernel_rfl, rfl⟩
theorem fu57 : Fun Try.prog 57 := ⟨_, Try.func57, by kernel_rfl, rfl⟩
theorem fu58 : Fun Try.prog 58 := ⟨_, Try.func58, by kernel_rfl, rfl⟩
theorem fu59 : Fun Try.prog 59 := ⟨_, Try.func59, by kernel_rfl, rfl⟩
theorem fu60 : Fun Try.prog 60 := ⟨_, Try.func60, by kernel_rfl, rfl⟩
theorem fu61 : Fun Try.prog 61 := ⟨_, Try.func61, by kernel_rfl, rfl⟩
theorem fu62 : Fun Try.prog 62 := ⟨_, Try.func62, by kernel_rfl, rfl⟩
theorem fu63 : Fun Try.prog 63 := ⟨_, Try.func63, by kernel_rfl, rfl⟩
theorem fu64 : Fun Try.prog 64 := ⟨_, Try.func64, by kernel_rfl, rfl⟩
theorem fu65 : Fun Try.prog 65 := ⟨_, Try.func65, by kernel_rfl, rfl⟩
theorem fu66 : Fun Try.prog 66 := ⟨_, Try.func66, by kernel_rfl, rfl⟩
theorem fu67 : Fun Try.prog 67 := ⟨_, Try.func67, by kernel_rfl, rfl⟩
theorem fu68 : Fun Try.prog 68 := ⟨_, Try.func68, by kernel_rfl, rfl⟩
theorem fu69 : Fun Try.prog 69 := ⟨_, Try.func69, by kernel_rfl, rfl⟩
theorem fu70 : Fun Try.prog 70 := ⟨_, Try.func70, by kernel_rfl, rfl⟩
theorem fu71 : Fun Try.prog 71 := ⟨_, Try.func71, by kernel_rfl, rfl⟩
theorem fu72 : Fun Try.prog 72 := ⟨_, Try.func72, by kernel_rfl, rfl⟩
theorem fu73 : Fun Try.prog 73 := ⟨_, Try.func73, by kernel_rfl, rfl⟩
theorem fu74 : Fun Try.prog 74 := ⟨_, Try.func74, by kernel_rfl, rfl⟩
theorem fu75 : Fun Try.prog 75 := ⟨_, Try.func75, by kernel_rfl, rfl⟩
theorem fu76 : Fun Try.prog 76 := ⟨_, Try.func76, by kernel_rfl, rfl⟩
theorem fu77 : Fun Try.prog 77 := ⟨_, Try.func77, by kernel_rfl, rfl⟩
theorem fu78 : Fun Try.prog 78 := ⟨_, Try.func78, by kernel_rfl, rfl⟩
theorem fu79 : Fun Try.prog 79 := ⟨_, Try.func79, by kernel_rfl, rfl⟩
theorem fu80 : Fun Try.prog 80 := ⟨_, Try.func80, by kernel_rfl, rfl⟩
theorem fu81 : Fun Try.prog 81 := ⟨_, Try.func81, by kernel_rfl, rfl⟩
theorem fu82 : Fun Try.prog 82 := ⟨_, Try.func82, by kernel_rfl, rfl⟩
theorem fu83 : Fun Try.prog 83 := ⟨_, Try.func83, by kernel_rfl, rfl⟩
theorem fu84 : Fun Try.prog 84 := ⟨_, Try.func84, by kernel_rfl, rfl⟩
theorem fu85 : Fun Try.prog 85 := ⟨_, Try.func85, by kernel_rfl, rfl⟩
theorem fu86 : Fun Try.prog 86 := ⟨_, Try.func86, by kernel_rfl, rfl⟩
theorem fu87 : Fun Try.prog 87 := ⟨_, Try.func87, by kernel_rfl, rfl⟩
theorem fu88 : Fun Try.prog 88 := ⟨_, Try.func88, by kernel_rfl, rfl⟩
theorem fu89 : Fun Try.prog 89 := ⟨_, Try.func89, by kernel_rfl, rfl⟩
theorem fu90 : Fun Try.prog 90 := ⟨_, Try.func90, by kernel_rfl, rfl⟩
theorem fu91 : Fun Try.prog 91 := ⟨_, Try.func91, by kernel_rfl, rfl⟩
theorem fu92 : Fun Try.prog 92 := ⟨_, Try.func92, by kernel_rfl, rfl⟩
theorem fu93 : Fun Try.prog 93 := ⟨_, Try.func93, by kernel_rfl, rfl⟩
theorem fu94 : Fun Try.prog 94 := ⟨_, Try.func94, by kernel_rfl, rfl⟩
theorem fu95 : Fun Try.prog 95 := ⟨_, Try.func95, by kernel_rfl, rfl⟩
theorem fu96 : Fun Try.prog 96 := ⟨_, Try.func96, by kernel_rfl, rfl⟩
theorem fu97 : Fun Try.prog 97 := ⟨_, Try.func97, by kernel_rfl, rfl⟩
theorem fu98 : Fun Try.prog 98 := ⟨_, Try.func98, by kernel_rfl, rfl⟩
theorem fu99 : Fun Try.prog 99 := ⟨_, Try.func99, by kernel_rfl, rfl⟩
theorem fu100 : Fun Try.prog 100 := ⟨_, Try.func100, by kernel_rfl, rfl⟩
theorem fu101 : Fun Try.prog 101 := ⟨_, Try.func101, by kernel_rfl, rfl⟩
theorem fu102 : Fun Try.prog 102 := ⟨_, Try.func102, by kernel_rfl, rfl⟩
theorem fu103 : Fun Try.prog 103 := ⟨_, Try.func103, by kernel_rfl, rfl⟩
theorem fu104 : Fun Try.prog 104 := ⟨_, Try.func104, by kernel_rfl, rfl⟩
theorem fu105 : Fun Try.prog 105 := ⟨_, Try.func105, by kernel_rfl, rfl⟩
theorem fu106 : Fun Try.prog 106 := ⟨_, Try.func106, by kernel_rfl, rfl⟩
theorem fu107 : Fun Try.prog 107 := ⟨_, Try.func107, by kernel_rfl, rfl⟩
theorem fu108 : Fun Try.prog 108 := ⟨_, Try.func108, by kernel_rfl, rfl⟩
theorem fu109 : Fun Try.prog 109 := ⟨_, Try.func109, by kernel_rfl, rfl⟩
theorem fu110 : Fun Try.prog 110 := ⟨_, Try.func110, by kernel_rfl, rfl⟩
theorem fu111 : Fun Try.prog 111 := ⟨_, Try.func111, by kernel_rfl, rfl⟩
theorem fu112 : Fun Try.prog 112 := ⟨_, Try.func112, by kernel_rfl, rfl⟩
theorem fu113 : Fun Try.prog 113 := ⟨_, Try.func113, by kernel_rfl, rfl⟩
theorem fu114 : Fun Try.prog 114 := ⟨_, Try.func114, by kernel_rfl, rfl⟩
theorem fu115 : Fun Try.prog 115 := ⟨_, Try.func115, by kernel_rfl, rfl⟩
theorem fu116 : Fun Try.prog 116 := ⟨_, Try.func116, by kernel_rfl, rfl⟩
theorem fu117 : Fun Try.prog 117 := ⟨_, Try.func117, by kernel_rfl, rfl⟩
theorem fu118 : Fun Try.prog 118 := ⟨_, Try.func118, by kernel_rfl, rfl⟩
theorem fu119 : Fun Try.prog 119 := ⟨_, Try.func119, by kernel_rfl, rfl⟩
theorem fu120 : Fun Try.prog 120 := ⟨_, Try.func120, by kernel_rfl, rfl⟩
theorem fu121 : Fun Try.prog 121 := ⟨_, Try.func121, by kernel_rfl, rfl⟩
theorem fu122 : Fun Try.prog 122 := ⟨_, Try.func122, by kernel_rfl, rfl⟩
theorem fu123 : Fun Try.prog 123 := ⟨_, Try.func123, by kernel_rfl, rfl⟩
theorem fu124 : Fun Try.prog 124 := ⟨_, Try.func124, by kernel_rfl, rfl⟩
theorem fu125 : Fun Try.prog 125 := ⟨_, Try.func125, by kernel_rfl, rfl⟩
theorem fu126 : Fun Try.prog 126 := ⟨_, Try.func126, by kernel_rfl, rfl⟩
theorem fu127 : Fun Try.prog 127 := ⟨_, Try.func127, by kernel_rfl, rfl⟩
theorem fu128 : Fun Try.prog 128 := ⟨_, Try.func128, by kernel_rfl, rfl⟩
theorem fu129 : Fun Try.prog 129 := ⟨_, Try.func129, by kernel_rfl, rfl⟩
theorem fu130 : Fun Try.prog 130 := ⟨_, Try.func130, by kernel_rfl, rfl⟩
theorem fu131 : Fun Try.prog 131 := ⟨_, Try.func131, by kernel_rfl, rfl⟩
theorem fu132 : Fun Try.prog 132 := ⟨_, Try.func132, by kernel_rfl, rfl⟩
theorem fu133 : Fun Try.prog 133 := ⟨_, Try.func133, by kernel_rfl, rfl⟩
theorem fu134 : Fun Try.prog 134 := ⟨_, Try.func134, by kernel_rfl, rfl⟩
theorem fu135 : Fun Try.prog 135 := ⟨_, Try.func135, by kernel_rfl, rfl⟩
theorem fu136 : Fun Try.prog 136 := ⟨_, Try.func136, by kernel_rfl, rfl⟩
theorem fu137 : Fun Try.prog 137 := ⟨_, Try.func137, by kernel_rfl, rfl⟩
theorem fu138 : Fun Try.prog 138 := ⟨_, Try.func138, by kernel_rfl, rfl⟩
theorem fu139 : Fun Try.prog 139 := ⟨_, Try.func139, by kernel_rfl, rfl⟩
theorem fu140 : Fun Try.prog 140 := ⟨_, Try.func140, by kernel_rfl, rfl⟩
theorem fu141 : Fun Try.prog 141 := ⟨_, Try.func141, by kernel_rfl, rfl⟩
theorem fu142 : Fun Try.prog 142 := ⟨_, Try.func142, by kernel_rfl, rfl⟩
theorem fu143 : Fun Try.prog 143 := ⟨_, Try.func143, by kernel_rfl, rfl⟩
theorem fu144 : Fun Try.prog 144 := ⟨_, Try.func144, by kernel_rfl, rfl⟩
theorem fu145 : Fun Try.prog 145 := ⟨_, Try.func145, by kernel_rfl, rfl⟩
theorem fu146 : Fun Try.prog 146 := ⟨_, Try.func146, by kernel_rfl, rfl⟩
theorem fu147 : Fun Try.prog 147 := ⟨_, Try.func147, by kernel_rfl, rfl⟩
theorem fu148 : Fun Try.prog 148 := ⟨_, Try.func148, by kernel_rfl, rfl⟩
theorem fu149 : Fun Try.prog 149 := ⟨_, Try.func149, by kernel_rfl, rfl⟩
theorem fu150 : Fun Try.prog 150 := ⟨_, Try.func150, by kernel_rfl, rfl⟩
theorem fu151 : Fun Try.prog 151 := ⟨_, Try.func151, by kernel_rfl, rfl⟩
theorem fu152 : Fun Try.prog 152 := ⟨_, Try.func152, by kernel_rfl, rfl⟩
theorem fu153 : Fun Try.prog 153 := ⟨_, Try.func153, by kernel_rfl, rfl⟩
theorem fu154 : Fun Try.prog 154 := ⟨_, Try.func154, by kernel_rfl, rfl⟩
theorem fu155 : Fun Try.prog 155 := ⟨_, Try.func155, by kernel_rfl, rfl⟩
theorem fu156 : Fun Try.prog 156 := ⟨_, Try.func156, by kernel_rfl, rfl⟩
theorem fu157 : Fun Try.prog 157 := ⟨_, Try.func157, by kernel_rfl, rfl⟩
theorem fu158 : Fun Try.prog 158 := ⟨_, Try.func158, by kernel_rfl, rfl⟩
theorem fu159 : Fun Try.prog 159 := ⟨_, Try.func159, by kernel_rfl, rfl⟩
theorem fu160 : Fun Try.prog 160 := ⟨_, Try.func160, by kernel_rfl, rfl⟩
theorem fu161 : Fun Try.prog 161 := ⟨_, Try.func161, by kernel_rfl, rfl⟩
theorem fu162 : Fun Try.prog 162 := ⟨_, Try.func162, by kernel_rfl, rfl⟩
theorem fu163 : Fun Try.prog 163 := ⟨_, Try.func163, by kernel_rfl, rfl⟩
theorem fu164 : Fun Try.prog 164 := ⟨_, Try.func164, by kernel_rfl, rfl⟩
theorem fu165 : Fun Try.prog 165 := ⟨_, Try.func165, by kernel_rfl, rfl⟩
theorem fu166 : Fun Try.prog 166 := ⟨_, Try.func166, by kernel_rfl, rfl⟩
theorem fu167 : Fun Try.prog 167 := ⟨_, Try.func167, by kernel_rfl, rfl⟩
theorem fu168 : Fun Try.prog 168 := ⟨_, Try.func168, by kernel_rfl, rfl⟩
theorem fu169 : Fun Try.prog 169 := ⟨_, Try.func169, by kernel_rfl, rfl⟩
theorem fu170 : Fun Try.prog 170 := ⟨_, Try.func170, by kernel_rfl, rfl⟩
theorem fu171 : Fun Try.prog 171 := ⟨_, Try.func171, by kernel_rfl, rfl⟩
theorem fu172 : Fun Try.prog 172 := ⟨_, Try.func172, by kernel_rfl, rfl⟩
theorem fu173 : Fun Try.prog 173 := ⟨_, Try.func173, by kernel_rfl, rfl⟩
theorem fu174 : Fun Try.prog 174 := ⟨_, Try.func174, by kernel_rfl, rfl⟩
theorem fu175 : Fun Try.prog 175 := ⟨_, Try.func175, by kernel_rfl, rfl⟩
theorem fu176 : Fun Try.prog 176 := ⟨_, Try.func176, by kernel_rfl, rfl⟩
theorem fu177 : Fun Try.prog 177 := ⟨_, Try.func177, by kernel_rfl, rfl⟩
theorem fu178 : Fun Try.prog 178 := ⟨_, Try.func178, by kernel_rfl, rfl⟩
theorem fu179 : Fun Try.prog 179 := ⟨_, Try.func179, by kernel_rfl, rfl⟩
theorem fu180 : Fun Try.prog 180 := ⟨_, Try.func180, by kernel_rfl, rfl⟩
theorem fu181 : Fun Try.prog 181 := ⟨_, Try.func181, by kernel_rfl, rfl⟩
theorem fu182 : Fun Try.prog 182 := ⟨_, Try.func182, by kernel_rfl, rfl⟩
theorem fu183 : Fun Try.prog 183 := ⟨_, Try.func183, by kernel_rfl, rfl⟩
theorem fu185 : Fun Try.prog 185 := ⟨_, Try.func185, by kernel_rfl, rfl⟩
theorem fu186 : Fun Try.prog 186 := ⟨_, Try.func186, by kernel_rfl, rfl⟩
theorem fu187 : Fun Try.prog 187 := ⟨_, Try.func187, by kernel_rfl, rfl⟩
theorem fu188 : Fun Try.prog 188 := ⟨_, Try.func188, by kernel_rfl, rfl⟩
theorem fu189 : Fun Try.prog 189 := ⟨_, Try.func189, by kernel_rfl, rfl⟩
theorem fu190 : Fun Try.prog 190 := ⟨_, Try.func190, by kernel_rfl, rfl⟩
theorem fu191 : Fun Try.prog 191 := ⟨_, Try.func191, by kernel_rfl, rfl⟩
theorem fu192 : Fun Try.prog 192 := ⟨_, Try.func192, by kernel_rfl, rfl⟩
theorem fu194 : Fun Try.prog 194 := ⟨_, Try.func194, by kernel_rfl, rfl⟩
theorem fu195 : Fun Try.prog 195 := ⟨_, Try.func195, by kernel_rfl, rfl⟩
theorem fu196 : Fun Try.prog 196 := ⟨_, Try.func196, by kernel_rfl, rfl⟩
theorem fu198 : Fun Try.prog 198 := ⟨_, Try.func198, by kernel_rfl, rfl⟩
theorem fu199 : Fun Try.prog 199 := ⟨_, Try.func199, by kernel_rfl, rfl⟩
theorem fu201 : Fun Try.prog 201 := ⟨_, Try.func201, by kernel_rfl, rfl⟩
theorem fu206 : Fun Try.prog 206 := ⟨_, Try.func206, by kernel_rfl, rfl⟩
theorem fu209 : Fun Try.prog 209 := ⟨_, Try.func209, by kernel_rfl, rfl⟩
end Go.Proofs.Ytmgnnclkjkbmdaa
end

/- Stores of whole variables; more on blocks. -/
section
set_option linter.unusedSimpArgs false
set_option linter.unusedVariables false
namespace Go.Fw
open Go
section
variable {P : Program} {ops : Array Oper} {Q : Exit → Act → World → Prop} {rest : List Oper} {N : Nat} {F F' : List (Nat × Value)} {L L' : List Ent} {M : Nat → Prop} {w0 w : World} {a : Act}
variable {d : Tmp} {op : Op} {ty : TypeId} {pos : String} {aft : Array Edge} {x y z : Operand} {t u : TypeId}
theorem St.next (hs : St N F L M w0 a w) (hF : Sub F F') (hL : L = L') : St N F' L' M w0 a w := (hs.sub hF).toL hL
/-- A whole struct or array is stored. -/
theorem s_storeW {i : Nat} {T' : TypeId} {td : TypeDesc} {sz bytes : Nat} {zz : List Value} {gb : Nat} {cs c : List Value} (hs : St N F L M w0 a w) (hT : Ty P t td sz bytes zz)
    (hx : ev F x = some (.pointer (some ⟨gb, 0, none⟩))) (hy : ev F y = some (.agg c.toArray)) (hi : L[i]? = some (.seg gb cs T')) (hl : c.length = sz) (h1 : c.all (·.oneCell') = true) (hcs : cs.length = sz)
    (k : ∀ w, St N F (L.set i (.seg gb c T')) M w0 a w → wpList P ops Q rest a w) :
    wpList P ops Q (⟨none, .store t x y, ty, pos, aft, none⟩ :: rest) a w :=
  s_store hs hT hx hy hi (by simp [Value.cells]) hl h1 (by omega) (by simp [hcs]) k
/-- A whole variable of one cell is stored. -/
theorem s_storeS {i : Nat} {T' : TypeId} {td : TypeDesc} {bytes : Nat} {zz : List Value} {gb : Nat} {v u : Value} (hs : St N F L M w0 a w) (hT : Ty P t td 1 bytes zz)
    (hx : ev F x = some (.pointer (some ⟨gb, 0, none⟩))) (hy : ev F y = some v) (hi : L[i]? = some (.seg gb [u] T')) (hv : v.cells = #[v]) (h1 : v.oneCell' = true)
    (k : ∀ w, St N F (L.set i (.seg gb [v] T')) M w0 a w → wpList P ops Q rest a w) :
    wpList P ops Q (⟨none, .store t x y, ty, pos, aft, none⟩ :: rest) a w :=
  s_store hs hT hx hy hi (c := [v]) (by rw [hv]) rfl (by simp [h1]) (by simp) (by simp) k
end
end Go.Fw
end

/- Comparisons of arrays and of bools; guarded steps of a region. -/
section
set_option linter.unusedSimpArgs false
set_option linter.unusedVariables false
namespace Go.Fw
open Go
section
variable {P : Program} {a : Act} {w : World} {d : Option Tmp} {ty : TypeId} {pos : String} {aft : Array Edge} {g : Option (Nat × Bool)} {x y z : Operand} {t u : TypeId}

theorem run_part {E : TypeId} {ed : TypeDesc} {bytes : Nat} {ze : List Value} {cs : List Value} {o : Nat} {v : Value} (hE : Ty P E ed 1 bytes ze) (hd : aggD ed = false) (hv : cs[o]? = some v) : (part E cs.toArray o).run P w = .ok v w := by
  have hagg : (isAgg E).run P w = .ok false w := by
    unfold isAgg
    rw [Sem.run_bind, run_underlying hE.und w]
    cases ed <;> simp_all [aggD]
  simp [part, hagg, hv]

/-- The loop over an array's elements. -/
theorem run_eq_loop (G : Nat → Option Bool × PUnit → Sem (ForInStep (Option Bool × PUnit))) (b : Nat → Bool) : ∀ (l : List Nat), (∀ i, i ∈ l → (G i (none, ())).run P w = .ok (if b i then ForInStep.yield (none, ()) else ForInStep.done (some false, ())) w) →
    (forIn (m := Sem) l (none, ()) G).run P w = .ok (if l.all b then (none, ()) else (some false, ())) w
  | [], _ => by simp
  | i :: t, hf => by
    rw [List.forIn_cons]
    simp only [Sem.run_bind, hf i (by simp), Result.andThen_ok]
    cases h : b i with
    | true =>
      have ih := run_eq_loop G b t fun j hj => hf j (by simp [hj])
      simpa [h] using ih
    | false => simp [h]

theorem eq_int {k : IntKind} {E : TypeId} {m n : Int} (hu : P.underlying E = some (.int k)) (dp : Nat) : (Op.equalIn (dp + 1) E (.int k m) (.int k n)).run P w = .ok (m == n) w := by
  simp [Op.equalIn, run_underlying hu]

theorem eq_arr {n bytes : Nat} {E T : TypeId} {ze : List Value} {k : IntKind} (hu : P.underlying T = some (.array n E)) (hE : Ty P E (.int k) 1 bytes ze) (xs ys : List Int) (hx : xs.length = n) (hy : ys.length = n) (dp : Nat) :
    (Op.equalIn (dp + 2) T (.agg (xs.map (Value.int k)).toArray) (.agg (ys.map (Value.int k)).toArray)).run P w = .ok (decide (xs = ys)) w := by
  have hb : ∀ i, i < n → (do Op.equalIn (dp + 1) E (← part E (xs.map (Value.int k)).toArray (i * 1)) (← part E (ys.map (Value.int k)).toArray (i * 1)) : Sem Bool).run P w = .ok (xs.getD i 0 == ys.getD i 0) w := by
    intro i hi
    have h1 : (xs.map (Value.int k))[i * 1]? = some (.int k (xs.getD i 0)) := by simp [hx, hi]
    have h2 : (ys.map (Value.int k))[i * 1]? = some (.int k (ys.getD i 0)) := by simp [hy, hi]
    rw [Sem.run_bind, run_part hE rfl h1, Result.andThen_ok, Sem.run_bind, run_part hE rfl h2, Result.andThen_ok, eq_int hE.und dp]
  unfold Op.equalIn
  simp only [Sem.run_bind, run_underlying hu, Result.andThen_ok, hE.size, Std.Legacy.Range.forIn_eq_forIn_range', Std.Legacy.Range.size, Nat.sub_zero, Nat.add_one_sub_one, Nat.div_one]
  have hl := run_eq_loop (P := P) (w := w) (fun i s => do
            let a ← part E (List.map (Value.int k) xs).toArray (i * 1)
            let b ← part E (List.map (Value.int k) ys).toArray (i * 1)
            let c ← Op.equalIn (dp + 1) E a b
            if (!c) = true then pure (ForInStep.done (some false, ())) else pure (ForInStep.yield (none, ()))) (fun i => xs.getD i 0 == ys.getD i 0) (List.range' 0 n) (fun i hi => by
    have hi' : i < n := by simpa using hi
    have h1 : (xs.map (Value.int k))[i * 1]? = some (.int k (xs.getD i 0)) := by simp [hx, hi']
    have h2 : (ys.map (Value.int k))[i * 1]? = some (.int k (ys.getD i 0)) := by simp [hy, hi']
    simp only [Sem.run_bind, run_part hE rfl h1, run_part hE rfl h2, Result.andThen_ok, eq_int hE.und dp]
    cases xs.getD i 0 == ys.getD i 0 <;> simp)
  rw [hl]
  have hall : (List.range' 0 n).all (fun i => xs.getD i 0 == ys.getD i 0) = decide (xs = ys) := by
    rw [Bool.eq_iff_iff, List.all_eq_true, decide_eq_true_iff]
    constructor
    · intro h
      apply List.ext_getElem (by omega)
      intro i h1 h2
      have := h i (by simp; omega)
      simpa [h1, h2] using this
    · rintro rfl i _
      simp
  rw [hall]
  by_cases e : xs = ys <;> simp [e]

theorem map_B (l : List UInt8) : l.map B = (l.map fun b => (b.toNat : Int)).map (Value.int .u8) := by simp [Function.comp_def]
theorem map_B_inj (xs ys : List UInt8) : (xs.map fun b => (b.toNat : Int)) = (ys.map fun b => (b.toNat : Int)) ↔ xs = ys := by
  constructor
  · intro h
    exact List.map_inj_right (f := fun b : UInt8 => (b.toNat : Int)) (fun a b hab => UInt8.toNat_inj.1 (Int.ofNat_inj.1 hab)) |>.1 h
  · rintro rfl; rfl

theorem eqlB {n bytes : Nat} {E T : TypeId} {ze : List Value} (hu : P.underlying T = some (.array n E)) (hE : Ty P E (.int .u8) 1 bytes ze) (xs ys : List UInt8) (hx : xs.length = n) (hy : ys.length = n) :
    (Op.equal T (.agg (xs.map B).toArray) (.agg (ys.map B).toArray)).run P w = .ok (decide (xs = ys)) w := by
  have := eq_arr (P := P) (w := w) hu hE (xs.map fun b => (b.toNat : Int)) (ys.map fun b => (b.toNat : Int)) (by simpa using hx) (by simpa using hy) 9998
  rw [← map_B, ← map_B] at this
  have e : decide ((xs.map fun b => (b.toNat : Int)) = (ys.map fun b => (b.toNat : Int))) = decide (xs = ys) := by
    rw [Bool.eq_iff_iff, decide_eq_true_iff, decide_eq_true_iff]
    exact map_B_inj xs ys
  rw [e] at this
  exact this

theorem c_eqlAB {n bytes : Nat} {E : TypeId} {ze : List Value} {xs ys : List UInt8} (hu : P.underlying t = some (.array n E)) (hE : Ty P E (.int .u8) 1 bytes ze) (hg : P.eqGuardType P.depth t = false)
    (hx : a.eval x = .agg (xs.map B).toArray) (hy : a.eval y = .agg (ys.map B).toArray) (lx : xs.length = n) (ly : ys.length = n) :
    (execOp a.eval ⟨d, .binOp .eql t x y u, ty, pos, aft, g⟩).run P w = .ok (.value (.bool (decide (xs = ys)))) w := by
  simp [execOp, hx, hy, eqGuard, binOp, hg, eqlB hu hE xs ys lx ly]
theorem c_neqAB {n bytes : Nat} {E : TypeId} {ze : List Value} {xs ys : List UInt8} (hu : P.underlying t = some (.array n E)) (hE : Ty P E (.int .u8) 1 bytes ze) (hg : P.eqGuardType P.depth t = false)
    (hx : a.eval x = .agg (xs.map B).toArray) (hy : a.eval y = .agg (ys.map B).toArray) (lx : xs.length = n) (ly : ys.length = n) :
    (execOp a.eval ⟨d, .binOp .neq t x y u, ty, pos, aft, g⟩).run P w = .ok (.value (.bool (!decide (xs = ys)))) w := by
  simp [execOp, hx, hy, eqGuard, binOp, hg, eqlB hu hE xs ys lx ly]

theorem eq_bool (hu : P.underlying t = some .bool) (b c : Bool) (n : Nat) : (Op.equalIn (n + 1) t (.bool b) (.bool c)).run P w = .ok (b == c) w := by simp [Op.equalIn, run_underlying hu]
theorem c_eqlbool {b c : Bool} (hu : P.underlying t = some .bool) (hx : a.eval x = .bool b) (hy : a.eval y = .bool c) :
    (execOp a.eval ⟨d, .binOp .eql t x y u, ty, pos, aft, g⟩).run P w = .ok (.value (.bool (b == c))) w := by
  have e : (Op.equal t (.bool b) (.bool c)).run P w = .ok (b == c) w := eq_bool hu b c 9999
  simp [execOp, hx, hy, eqGuard, binOp, e]
theorem c_neqbool {b c : Bool} (hu : P.underlying t = some .bool) (hx : a.eval x = .bool b) (hy : a.eval y = .bool c) :
    (execOp a.eval ⟨d, .binOp .neq t x y u, ty, pos, aft, g⟩).run P w = .ok (.value (.bool (!(b == c)))) w := by
  have e : (Op.equal t (.bool b) (.bool c)).run P w = .ok (b == c) w := eq_bool hu b c 9999
  simp [execOp, hx, hy, eqGuard, binOp, e]
end

section
variable {P : Program} {ops : Array Oper} {N B1 : Nat} {w1 : World} {K : List (Nat × Value) → Fes → Prop} {Fc : List (Nat × Value)} {Fe : Fes} {rest : List Oper}
variable {d : Tmp} {op : Op} {ty : TypeId} {pos : String} {aft : Array Edge}
/-- A guarded operation in a region that draws, whatever its guard. -/
theorem rg_g {v : Value} {j s : Nat} {b c : Bool} (hj : (ops[j]?).bind (·.dst) = some s) (hb : look Fc s = some (.bool c))
    (h : c = b → ∀ a w, RC N Fc Fe ⟨some d, op, ty, pos, aft, some (j, b)⟩ B1 w1 a w → (execOp a.eval ⟨some d, op, ty, pos, aft, some (j, b)⟩).run P w = .ok (.value v) w) (hE : lookE Fe d = none)
    (k : RG P ops N B1 w1 K ((d, if c = b then v else undef) :: Fc) Fe rest) : RG P ops N B1 w1 K Fc Fe (⟨some d, op, ty, pos, aft, some (j, b)⟩ :: rest) := by
  by_cases e : c = b
  · subst e
    exact rg_yes hj hb (h rfl) hE (by simpa using k)
  · exact rg_no hj hb (by cases c <;> cases b <;> simp_all) hE (by simpa [e] using k)
end
end Go.Fw
end

/- Small laws for walks: masks, arrays that are filled. -/
section
set_option linter.unusedSimpArgs false
set_option linter.unusedVariables false
namespace Go.Fw
open Go
section
variable {P : Program} {a : Act} {w : World} {d : Option Tmp} {ty : TypeId} {pos : String} {aft : Array Edge} {g : Option (Nat × Bool)} {x y z : Operand} {t u : TypeId}
theorem ofInt64I {i : Int} (h0 : 0 ≤ i) (h1 : i < 18446744073709551616) : BitVec.ofInt 64 i = BitVec.ofNat 64 i.toNat := by
  apply BitVec.eq_of_toNat_eq
  simp [BitVec.toNat_ofInt]
  omega
theorem ib_andI {i j : Int} (h0 : 0 ≤ i) (h1 : i < 9223372036854775808) (g0 : 0 ≤ j) (g1 : j < 9223372036854775808) : Op.intBits .and .i64 i j = pure (I (i.toNat &&& j.toNat : Nat)) := by
  show (pure (.int .i64 (IntKind.i64.wrap ((BitVec.ofInt 64 i &&& BitVec.ofInt 64 j).toNat : Nat))) : Sem Value) = _
  rw [ofInt64I h0 (by omega), ofInt64I g0 (by omega)]
  have e : (BitVec.ofNat 64 i.toNat &&& BitVec.ofNat 64 j.toNat).toNat = i.toNat &&& j.toNat := by
    rw [BitVec.toNat_and, BitVec.toNat_ofNat, BitVec.toNat_ofNat, Nat.mod_eq_of_lt (by omega), Nat.mod_eq_of_lt (by omega)]
  have h2 : i.toNat &&& j.toNat ≤ i.toNat := Nat.and_le_left
  rw [e, wrap64_in (by omega) (by omega)]
theorem ib_xorI {i j : Int} (h0 : 0 ≤ i) (h1 : i < 9223372036854775808) (g0 : 0 ≤ j) (g1 : j < 9223372036854775808) : Op.intBits .xor .i64 i j = pure (I (i.toNat ^^^ j.toNat : Nat)) := by
  show (pure (.int .i64 (IntKind.i64.wrap ((BitVec.ofInt 64 i ^^^ BitVec.ofInt 64 j).toNat : Nat))) : Sem Value) = _
  rw [ofInt64I h0 (by omega), ofInt64I g0 (by omega)]
  have e : (BitVec.ofNat 64 i.toNat ^^^ BitVec.ofNat 64 j.toNat).toNat = i.toNat ^^^ j.toNat := by
    rw [BitVec.toNat_xor, BitVec.toNat_ofNat, BitVec.toNat_ofNat, Nat.mod_eq_of_lt (by omega), Nat.mod_eq_of_lt (by omega)]
  have h2 : i.toNat ^^^ j.toNat < 2 ^ 63 := Nat.xor_lt_two_pow (by omega) (by omega)
  rw [e, wrap64_in (by omega) (by omega)]
/-- 'x & 3' of what isn't negative. -/
theorem c_and3I {i : Int} (hx : a.eval x = I i) (hy : a.eval y = I 3) (h0 : 0 ≤ i) (h1 : i < 9223372036854775808) :
    (execOp a.eval ⟨d, .binOp .and t x y u, ty, pos, aft, g⟩).run P w = .ok (.value (I (i % 4))) w := by
  have e : ((i.toNat &&& (3 : Int).toNat : Nat) : Int) = i % 4 := by
    rw [show (3 : Int).toNat = 2 ^ 2 - 1 from rfl, Nat.and_two_pow_sub_one_eq_mod]
    omega
  simp [execOp, hx, hy, eqGuard, binOp, ib_andI h0 h1 (j := 3) (by omega) (by omega), e]
  exact e
theorem c_xor1I {i : Nat} (hx : a.eval x = I i) (hy : a.eval y = I 1) (h1 : (i : Int) < 9223372036854775808) :
    (execOp a.eval ⟨d, .binOp .xor t x y u, ty, pos, aft, g⟩).run P w = .ok (.value (I ((i ^^^ 1 : Nat) : Int))) w := by
  simp [execOp, hx, hy, eqGuard, binOp, ib_xorI (i := (i : Int)) (j := 1) (by omega) h1 (by omega) (by omega)]
end

theorem set_rep {α : Type} (l : List α) (m : Nat) (z x : α) : (l ++ List.replicate (m + 1) z).set l.length x = (l ++ [x]) ++ List.replicate m z := by
  rw [List.set_append_right _ _ (Nat.le_refl _), Nat.sub_self, List.replicate_succ, List.set_cons_zero]
  simp
/-- An array that is filled by a function. -/
def filled {α : Type} (f : Nat → α) (z : α) (n k : Nat) : List α := (List.range k).map f ++ List.replicate (n - k) z
theorem filled_len {α : Type} (f : Nat → α) (z : α) {n k : Nat} (h : k ≤ n) : (filled f z n k).length = n := by simp [filled]; omega
theorem filled_set {α : Type} (f : Nat → α) (z : α) {n k : Nat} (h : k < n) {x : α} (hx : x = f k) : (filled f z n k).set k x = filled f z n (k + 1) := by
  have h2 := set_rep ((List.range k).map f) (n - (k + 1)) z x
  simp only [List.length_map, List.length_range] at h2
  rw [show n - (k + 1) + 1 = n - k from by omega] at h2
  rw [filled, h2, filled, hx, List.range_succ]
  simp
theorem filled_zero {α : Type} (f : Nat → α) (z : α) (n : Nat) : filled f z n 0 = List.replicate n z := by simp [filled]
theorem filled_full {α : Type} (f : Nat → α) (z : α) (n : Nat) : filled f z n n = (List.range n).map f := by simp [filled]
theorem filled_get {α : Type} (f : Nat → α) (z : α) {n k j : Nat} (h : j < k) (hk : k ≤ n) (d : α) : (filled f z n k).getD j d = f j := by
  simp [filled, List.getElem?_append_left, h]
theorem getD_len {α : Type} (l : List α) (i : Nat) (d : α) (h : i < l.length) : l[i]? = some (l.getD i d) := by simp [h]
end Go.Fw
namespace Go.Fw
open Go
theorem c_tt {r : Result Next} {b : Bool} {w : World} (h : r = .ok (.value (.bool b)) w) (hb : b = true) : r = .ok (.value (.bool true)) w := by rw [h, hb]
theorem c_ff {r : Result Next} {b : Bool} {w : World} (h : r = .ok (.value (.bool b)) w) (hb : b = false) : r = .ok (.value (.bool false)) w := by rw [h, hb]
theorem c_to {r : Result Next} {u v : Value} {w : World} (h : r = .ok (.value u) w) (hb : u = v) : r = .ok (.value v) w := by rw [h, hb]
end Go.Fw
end

/- What an argument is, read off the statement's own reading of it. -/
section
set_option linter.unusedSimpArgs false
set_option linter.unusedVariables false
namespace Go.Fw
open Go Go.ChangeShapes Go.WideShapes Go.ChangeAt Go.RowKit

theorem ofB {n : Int} (h : (Lit.int .u8 n).wf = true) : ∃ b : UInt8, Value.int .u8 n = B b := by
  obtain ⟨h0, h1⟩ := bounds_u8 h
  exact ⟨i8 n, by unfold B; rw [i8_toNat]; congr 1; omega⟩
theorem ofU {n : Int} (h : (Lit.int .u32 n).wf = true) : ∃ b : UInt32, Value.int .u32 n = U b := by
  obtain ⟨h0, h1⟩ := bounds_u32 h
  exact ⟨i32 n, by unfold U; rw [i32_toNat]; congr 1; omega⟩
theorem ofV {n : Int} (h : (Lit.int .u64 n).wf = true) : ∃ b : UInt64, Value.int .u64 n = V b := by
  obtain ⟨h0, h1⟩ := bounds_u64 h
  exact ⟨i64 n, by unfold V; rw [i64_toNat]; congr 1; omega⟩

theorem ofBs : ∀ {cs : List Value}, (∀ v ∈ cs, ∃ b : UInt8, v = B b) → ∃ l : List UInt8, cs = l.map B
  | [], _ => ⟨[], rfl⟩
  | v :: t, h => by
    obtain ⟨b, rfl⟩ := h v (by simp)
    obtain ⟨l, rfl⟩ := ofBs (cs := t) fun v hv => h v (by simp [hv])
    exact ⟨b :: l, rfl⟩

section
variable {H : Type} {enc : TypeId × Value → H} {P : Program} {w : World} {base : Nat} {spare : Nat → Bool} {held : Bool} {fuel : Nat} {t e : TypeId} {cs : List Value} {x : DataW H × List MemPlace} {v : Value} {d : DataW H} {ps : List MemPlace} {r : Reach} {b0 : Nat}

theorem opB (ht : P.underlying t = some (.int .u8)) (hval : Value.okWide P w r b0 t v) (hd : DataW.Trod enc P w base spare held t v d ps) : ∃ b : UInt8, v = B b := by
  obtain ⟨n, rfl, _, _, hw⟩ := open_int ht hval hd
  exact ofB hw
theorem opU (ht : P.underlying t = some (.int .u32)) (hval : Value.okWide P w r b0 t v) (hd : DataW.Trod enc P w base spare held t v d ps) : ∃ b : UInt32, v = U b := by
  obtain ⟨n, rfl, _, _, hw⟩ := open_int ht hval hd
  exact ofU hw
theorem opV (ht : P.underlying t = some (.int .u64)) (hval : Value.okWide P w r b0 t v) (hd : DataW.Trod enc P w base spare held t v d ps) : ∃ b : UInt64, v = V b := by
  obtain ⟨n, rfl, _, _, hw⟩ := open_int ht hval hd
  exact ofV hw
theorem opI (ht : P.underlying t = some (.int .i64)) (hval : Value.okWide P w r b0 t v) (hd : DataW.Trod enc P w base spare held t v d ps) : ∃ n : Int, v = I n ∧ -9223372036854775808 ≤ n ∧ n ≤ 9223372036854775807 := by
  obtain ⟨n, rfl, _, _, hw⟩ := open_int ht hval hd
  exact ⟨n, rfl, bounds_i64 hw⟩
theorem opBool (ht : P.underlying t = some .bool) (hval : Value.okWide P w r b0 t v) : ∃ b : Bool, v = .bool b := okWide_bool ht hval

/-- The cells of an array of bytes. -/
theorem trodBs {n : Nat} (ht : P.underlying t = some (.array n e)) (he : P.underlying e = some (.int .u8)) (hc : P.cellsOf e = 1) (hn : P.cellsOf t = n)
    (h : DataW.trod enc P w base spare held fuel t cs = some x) : ∃ l : List UInt8, l.length = n ∧ cs = l.map B := by
  obtain ⟨xs, m, _, _, hl, hxl, hx⟩ := DataW.trod_array ht h
  obtain ⟨l, rfl⟩ := ofBs (cs := cs) fun u hu => by
    obtain ⟨i, hi, rfl⟩ := List.getElem_of_mem hu
    have h1 := hx i (by omega)
    rw [hc, Nat.mul_one] at h1
    rw [List.getElem?_eq_getElem (by omega)] at h1
    obtain ⟨z, hz, _, hw⟩ := DataW.trod_int he h1
    have h2 : (cs.drop i).take 1 = [cs[i]] := by rw [List.drop_eq_getElem_cons hi]; rfl
    rw [h2] at hz
    simp only [List.cons.injEq, and_true] at hz
    rw [hz]
    exact ofB hw
  exact ⟨l, by simpa [hn] using hl, rfl⟩

theorem okWide_array {n : Nat} (ht : P.underlying t = some (.array n e)) (h : Value.okWide P w r b0 t v) : ∃ cs, v = .agg cs ∧ cs.size = P.cellsOf t := by
  simp only [Value.okWide, ht] at h
  obtain ⟨cs, h1, h2, _⟩ := h
  exact ⟨cs, h1, h2⟩

theorem opA {n : Nat} (ht : P.underlying t = some (.array n e)) (he : P.underlying e = some (.int .u8)) (hc : P.cellsOf e = 1) (hn : P.cellsOf t = n)
    (hval : Value.okWide P w r b0 t v) (hd : DataW.Trod enc P w base spare held t v d ps) : ∃ l : List UInt8, l.length = n ∧ v = .agg (l.map B).toArray := by
  obtain ⟨cs, rfl, _⟩ := okWide_array ht hval
  obtain ⟨f, hf⟩ := hd
  obtain ⟨l, hl, hcs⟩ := trodBs ht he hc hn hf
  refine ⟨l, hl, ?_⟩
  simp only [Value.cells] at hcs
  rw [← hcs]

theorem row_of {a : Addr} {n : Nat} (hp : 0 < n) (hcs : cs.length = n) (h : ∀ i, i < n → w.cell? (a.add i) = cs[i]?) :
    ∃ b o T fr all, a = ⟨b, o, none⟩ ∧ w.heap[b]? = some (.cells all T fr) ∧ (all.toList.drop o).take cs.length = cs := by
  have h0 := h 0 hp
  rw [List.getElem?_eq_getElem (by omega)] at h0
  have hs := World.cell?_spot h0
  obtain ⟨b, o, s⟩ := a
  have hs' : s = none := by simpa [Addr.add] using hs
  subst hs'
  have hcell : ∀ i, i < n → w.cell? ⟨b, o + i, none⟩ = cs[i]? := fun i hi => by
    have := h i hi
    simp only [Addr.add] at this
    by_cases e : i = 0
    · subst e; simpa using this
    · simpa [e] using this
  have h1 := hcell 0 hp
  rw [List.getElem?_eq_getElem (by omega)] at h1
  unfold World.cell? at h1 hcell
  simp only at h1 hcell
  cases hb : w.heap[b]? with
  | none => rw [hb] at h1; simp at h1
  | some ob =>
    cases ob with
    | cells all T fr =>
      refine ⟨b, o, T, fr, all, rfl, by rw [hb], ?_⟩
      have hh : ∀ i, i < n → all[o + i]? = cs[i]? := fun i hi => by have := hcell i hi; rw [hb] at this; simpa using this
      refine List.ext_getElem? fun i => ?_
      by_cases hi : i < n
      · rw [List.getElem?_take_of_lt (by omega), List.getElem?_drop]
        simpa using hh i hi
      · rw [List.getElem?_eq_none (by simp; omega), List.getElem?_eq_none (by omega)]
    | _ => rw [hb] at h1; simp at h1

/-- A slice of bytes. -/
theorem trodSl (ht : P.underlying t = some (.slice e)) (he : P.underlying e = some (.int .u8)) (hc : P.cellsOf e = 1) 
    (h : DataW.trod enc P w base spare held fuel t [v] = some x) : ∃ l : List UInt8, RdB w v l ∧ (l = [] ∨ ∃ es sp, x.1 = .slice es sp ∧ es.length = l.length) := by
  rcases Deep.open_slice ht h with ⟨h1, rfl⟩ | ⟨a, len, cap, m, n, D, Pl, h1, hb, hl, hm, hmm, rfl, hx⟩
  · simp only [List.cons.injEq, and_true] at h1
    exact ⟨[], ⟨none, 0, h1, Nat.le_refl _, Nat.zero_le _, fun _ => rfl, .inl rfl⟩, .inl rfl⟩
  · simp only [List.cons.injEq, and_true] at h1
    have hlm : len ≤ m := by rw [hmm]; split <;> omega
    have each : ∀ i, i < len → ∃ b : UInt8, w.cell? (a.add i) = some (B b) := fun i hi => by
      obtain ⟨cs', h2, h3⟩ := hx i (by omega)
      rw [hc, Nat.mul_one] at h2
      obtain ⟨z, rfl, _, hw⟩ := DataW.trod_int he h3
      obtain ⟨b, hb'⟩ := ofB hw
      exact ⟨b, by rw [cell_of_cells?_one h2, hb']⟩
    obtain ⟨f, hf⟩ := Deep.choose_lt (α := UInt8) (p := fun i b => w.cell? (a.add i) = some (B b)) each
    have hll : ((List.range len).map f).length = len := by simp
    refine ⟨(List.range len).map f, ?_, .inr ⟨_, _, rfl, by simp⟩⟩
    unfold RdB
    rw [hll]
    refine ⟨some a, cap, h1, hl, hm, (fun h => by cases h), ?_⟩
    by_cases hp : len = 0
    · left; subst hp; rfl
    · right
      obtain ⟨b, o, T, fr, all, rfl, h5, h6⟩ := row_of (w := w) (a := a) (cs := ((List.range len).map f).map B) (n := len) (by omega) (by simp) (fun i hi => by
        rw [hf i hi]; simp [hi])
      exact ⟨b, o, T, fr, all, rfl, h5, h6⟩

theorem opSl (ht : P.underlying t = some (.slice e)) (he : P.underlying e = some (.int .u8)) (hc : P.cellsOf e = 1) 
    (hval : Value.okWide P w r b0 t v) (hd : DataW.Trod enc P w base spare held t v d ps) : ∃ l : List UInt8, RdB w v l ∧ (l = [] ∨ ∃ es sp, d = .slice es sp ∧ es.length = l.length) := by
  obtain ⟨a, len, cap, rfl⟩ := okWide_slice ht hval
  obtain ⟨f, hf⟩ := hd
  exact trodSl ht he hc (by simpa [Value.cells] using hf)

/-- .. as long as the reach lets it be. -/
theorem opSl_le {ts : List TypeId} {ds : List (DataW H)} {j : Nat} {l : List UInt8} (h : (DataW.weightsEach P ts ds).all (· ≤ reachBytes) = true) (ht : ts[j]? = some t) (hd : ds[j]? = some d)
    (hu : P.underlying t = some (.slice e)) (hb : P.bytesOf e = 1) (hl : l = [] ∨ ∃ es sp, d = .slice es sp ∧ es.length = l.length) : l.length ≤ 140737488351232 := by
  rcases hl with rfl | ⟨es, sp, rfl, hl⟩
  · simp
  · have := sized_slice h ht hd hu
    rw [hb] at this
    have h2 : reachBytes = 140737488351232 := by decide
    omega

end
end Go.Fw
end

/- The closed facts of a row, in parts: a long list of roots in a program's first words is more than the kernel holds at one stroke. -/
section
set_option linter.unusedSimpArgs false
set_option linter.unusedVariables false
namespace Go.Fw
open Go

theorem wordsSigns_ne (l : List Char) : wordsSigns l ≠ [] := by
  unfold wordsSigns
  split
  · simp
  · simp
  · split <;> simp

theorem wordsSigns_app : ∀ (l r : List Char), wordsSigns (l ++ Char.ofNat 32 :: r) = wordsSigns l ++ wordsSigns r
  | [], r => rfl
  | c :: l, r => by
    have ih := wordsSigns_app l r
    by_cases e : c = Char.ofNat 32
    · subst e
      show [] :: wordsSigns (l ++ Char.ofNat 32 :: r) = ([] :: wordsSigns l) ++ wordsSigns r
      rw [ih]; rfl
    · have h1 : ∀ t : List Char, wordsSigns (c :: t) = match wordsSigns t with
          | w :: ws => (c :: w) :: ws
          | [] => [[c]] := fun t => by
        rw [wordsSigns.eq_3]
        · rfl
        · exact fun h => e h
      rw [List.cons_append, h1, h1, ih]
      cases h2 : wordsSigns l with
      | nil => exact absurd h2 (wordsSigns_ne l)
      | cons w ws => rfl

/-- The program's first words, where a list of roots follows. -/
theorem words_cut {P : Program} {X Y : List Nat} {a b : List Char} (hio : P.initOrder = String.ofList (X.map Char.ofNat ++ Char.ofNat 32 :: Y.map Char.ofNat))
    (hx : wordsSigns (X.map Char.ofNat) = [a, b, "cut".toList, "at".toList]) (hm : ((a == "harness".toList || a == "ownmain".toList) && isSumSigns b) = true) :
    behindMainWord (wordsSigns P.initOrder.toList) = "cut".toList :: ("at".toList :: wordsSigns (Y.map Char.ofNat)) := by
  rw [hio, String.toList_ofList, wordsSigns_app, hx]
  show behindMainWord (a :: b :: ("cut".toList :: ("at".toList :: wordsSigns (Y.map Char.ofNat)))) = _
  rw [behindMainWord, if_pos hm]

theorem strip_cut (W : List (List Char)) : stripLifts liftWords ("cut".toList :: W) = ([], "cut".toList :: W) := rfl

theorem headLifts_cut {P : Program} {W : List (List Char)} (h : behindMainWord (wordsSigns P.initOrder.toList) = "cut".toList :: W) : P.headLifts = [] := by
  unfold Program.headLifts
  rw [h, strip_cut]
  rfl
theorem mayEnter_cut {P : Program} {W : List (List Char)} (h : behindMainWord (wordsSigns P.initOrder.toList) = "cut".toList :: W) (hl : P.laysLater = false) (hr : P.bearsReflect = false) (hd : P.doorFits [] = true) : P.mayEnter = true := by
  unfold Program.mayEnter
  rw [h]
  simp only [strip_cut, hl, hr, hd]
  rfl
theorem liftsFinal_cut {P : Program} {W : List (List Char)} (h : behindMainWord (wordsSigns P.initOrder.toList) = "cut".toList :: W) : P.liftsFinal = false := by
  unfold Program.liftsFinal
  rw [h, headLifts_cut h]
  rfl
theorem make_cut {P : Program} {W : List (List Char)} (h : behindMainWord (wordsSigns P.initOrder.toList) = "cut".toList :: W) : P.make = some .cut := by
  unfold Program.make
  rw [h]
  rfl

/-- What hangs on the program alone. -/
structure Whole (P : Program) : Prop where
  laid : laidOutB P = true
  maps : mapsRowed P = true
  stops : (P.stops == []) = true
  knobs : (P.stopKnobs == []) = true
  keys : P.plainKeys = true
  heard : P.stopsHeard = true
  enter : P.mayEnter = true
  final : P.liftsFinal = false
  make : P.make = some .cut

/-- What hangs on the row. -/
def rowB (P : Program) (f : FuncId) (fn : Func) (s : ChangeSpec) (c : OpenClaim) : Bool :=
  c.wf (OpenSpec.ofChange s) && fn.params.all (P.readableRec ·) && namedTie P c.named s.vars &&
  (c.stops == []) && (c.knobs == []) && (c.named == P.varsNamed f) &&
  (c.maps == (fn.params.toList ++ s.plain.varTypes P).any (P.mapsRec ·)) && (c.ifaces == (fn.params.toList ++ s.plain.varTypes P).any (P.ifacesRec ·)) && (c.mapsOut == P.mapsAmong fn.resultTypes.toList) &&
  (c.loops == (fn.params.toList ++ s.plain.varTypes P).any (P.loopsFrom ·)) && (c.wideKeys == (fn.params.toList ++ s.plain.varTypes P ++ fn.resultTypes.toList).any (P.wideKeysFrom ·)) &&
  s.vars.all (P.varReadable ·) && fn.resultTypes.all (fun t => P.readableRec t && decide (t < P.types.size)) && (c.ifacesOut == fn.resultTypes.toList.any (P.ifacesRec ·)) && (c.loopsOut == fn.resultTypes.toList.any (P.loopsFrom ·)) && (c.plainKeys == true) && c.shortTexts.isNone && (c.lifted == false) && (some Make.cut == some c.make) &&
  (c.kinds == (if c.domain.isEmpty then [] else fn.params.toList.map fun t => match P.underlying t with | some (.int k) => some k | _ => none)) && (c.pinned == c.pinnedBy) &&
  (c.veiled == (fn.params.toList ++ s.plain.varTypes P ++ fn.resultTypes.toList).any (P.veiledRec ·)) && c.veiledFits P fn.params.toList (fn.params.toList ++ s.plain.varTypes P ++ fn.resultTypes.toList)

theorem joined_of {P : Program} {f : FuncId} {fn : Func} {s : ChangeSpec} {c : OpenClaim} (w : Whole P) (h1 : (c.inPlace == P.inPlace f) = true) (h2 : (c.unfollowed == P.unfollowed f) = true) (h3 : (c.recurses == P.recurses f) = true) (h : rowB P f fn s c = true) :
    joinedFacts P f fn s c = true := by
  unfold rowB at h
  unfold joinedFacts
  simp only [w.laid, w.maps, w.stops, w.knobs, w.keys, w.heard, w.enter, w.final, w.make, h1, h2, h3, Bool.and_true, Bool.true_and, Bool.and_assoc] at h ⊢
  exact h
end Go.Fw
end

/- Several things as one; what a call turns. -/
section
set_option linter.unusedSimpArgs false
set_option linter.unusedVariables false
namespace Go.Fw
open Go

theorem heap_lt {w : World} {k : Nat} {o : Obj} (h : w.heap[k]? = some o) : k < w.heap.size := (Array.getElem?_eq_some_iff.1 h).1

theorem Has.loc {w w' : World} {L : List Ent} (h : Has 0 w L) (hb : ∀ e ∈ L, ∀ k, e.keys k → w'.heap[k]? = w.heap[k]?) : Has 0 w' L :=
  ⟨fun e he => e.loc (hb e he) (h.holds e he), h.apart, fun e he k hk => by
    have h1 := h.lt e he k hk
    have h2 := hb e he k hk
    rw [Array.getElem?_eq_getElem h1] at h2
    exact heap_lt h2, fun _ _ _ _ => Nat.zero_le _⟩

/-- Some things as one. -/
def Ent.grp (L : List Ent) : Ent := .pr (fun k => ∃ e ∈ L, e.keys k) (fun w => Has 0 w L) fun w w' hb h => h.loc fun e he k hk => hb k ⟨e, he, hk⟩

section
variable {N : Nat} {F F' : List (Nat × Value)} {L L' : List Ent} {M : Nat → Prop} {w0 w w' : World} {a : Act}

/-- The start of a function that may turn the things L. -/
theorem St.startG (hk : Know N F a) (h : Has 0 w L) : St N F L (Ent.grp L).keys w a w :=
  ⟨hk, h, fun e he k hke => .inr ⟨e, he, hke⟩, .refl _ _⟩

/-- What a caller is told of the things. -/
theorem St.grp (h : St N F L M w0 a w) : Has 0 w L ∧ ∀ k, (Ent.grp L).keys k → M k ∨ w0.heap.size ≤ k :=
  ⟨h.has, fun k ⟨e, he, hk⟩ => (h.own e he k hk).symm⟩

theorem grp_lt (h : Has 0 w L) : ∀ k, (Ent.grp L).keys k → k < w.heap.size := fun k ⟨e, he, hk⟩ => h.lt e he k hk

/-- Things as one, put among the others. -/
theorem Has.grp (h : Has 0 w L) {B : Nat} (hB : ∀ e ∈ L, ∀ k, e.keys k → B ≤ k) : Has B w [Ent.grp L] :=
  ⟨by intro e he; simp only [List.mem_singleton] at he; subst he; exact h, List.pairwise_singleton _ _,
   by intro e he k hk; simp only [List.mem_singleton] at he; subst he; exact grp_lt h k hk,
   by intro e he k hk; simp only [List.mem_singleton] at he; subst he; obtain ⟨e, he, hk⟩ := hk; exact hB e he k hk⟩
theorem Has.grp' {B : Nat} (h : Has B w L) : Has B w [Ent.grp L] := (h.mono (Nat.zero_le _)).grp h.ge
end

section
variable {P : Program} {ops : Array Oper} {Q : Exit → Act → World → Prop} {rest : List Oper} {N : Nat} {F F' : List (Nat × Value)} {L L' : List Ent} {M : Nat → Prop} {w0 w : World} {a : Act}
variable {d : Tmp} {op : Op} {ty : TypeId} {pos : String} {aft : Array Edge} {x y z : Operand} {t u : TypeId}

/-- Bytes, put behind bytes. -/
theorem s_appB {i : Nat} {s0 x0 : Operand} {E : TypeId} {ed : TypeDesc} {zs : List Value} {l p : List UInt8} {v u : Value} (hs : St N F L M w0 a w) (hu : P.underlying t = some (.slice E)) (hE : Ty P E ed 1 1 zs)
    (hv : ev F s0 = some v) (hx : ev F x0 = some u) (hi : L[i]? = some (.row v l.length (l.map B) E 1)) (hr : RdB w u p) (hle : l.length + p.length ≤ 140737488355328) (hd : Nat.blt d N = true)
    (k : ∀ a w' v', Fr (Ent.keys (.row v l.length (l.map B) E 1)) w w' → (v' = .slice none 0 0 ↔ v = .slice none 0 0 ∧ p.length = 0) → St N ((d, v') :: F) (L.set i (.row v' (l ++ p).length ((l ++ p).map B) E 1)) M w0 a w' → wpList P ops Q rest a w') :
    wpList P ops Q (⟨some d, .call { callee := .builtin .append, args := #[s0, x0], argTypes := #[t, t] }, ty, pos, aft, none⟩ :: rest) a w := by
  refine s_append hs hu hE (by decide) hv hx hi hr (by simp) (all_map_B p) (by unfold maxLen; omega) (by omega) hd fun a w' v' hf hn hs => ?_
  refine k a w' v' hf hn (hs.toL ?_)
  rw [List.length_append, List.map_append]
end
theorem RdB.seg {w : World} {g : Nat} {T : TypeId} {l : List UInt8} (h : w.heap[g]? = some (.cells (l.map B).toArray T (0, 0))) (hn : l.length ≤ maxLen) : RdB w (.slice (some ⟨g, 0, none⟩) l.length l.length) l :=
  Rd.of_seg h (Nat.le_refl _) hn (List.take_of_length_le (by simp))
theorem RdB.row {w : World} {v : Value} {T : TypeId} {l : List UInt8} (h : w.ownsRow 0 T 1 v l.length (l.map B)) : RdB w v l := Rd.of_row h
theorem RdB.cut {w : World} {ad : Option Addr} {cap i : Nat} {l : List UInt8} (h : RdB w (.slice ad l.length cap) l) (hi : i ≤ l.length) :
    RdB w (.slice (if cap = i then ad else ad.map (·.add (i * 1))) (l.length - i) (cap - i)) (l.drop i) := by
  have := Rd.cut (i := i) (sz := 1) h hi (by simp) (by simpa using hi)
  unfold RdB
  rw [List.length_drop, List.map_drop]
  simpa using this
theorem Rd.sl {w : World} {v : Value} {n : Nat} {cs : List Value} (h : Rd w v n cs) : ∃ ad cap, v = .slice ad n cap ∧ n ≤ cap ∧ cap ≤ maxLen := by
  obtain ⟨ad, cap, hv, h1, h2, _⟩ := h
  exact ⟨ad, cap, hv, h1, h2⟩
theorem u64_app (a p : List UInt8) (h : a.length + p.length < 18446744073709551616) : UInt64.ofNat a.length + i64 (p.length : Int) = UInt64.ofNat (a ++ p).length := by
  apply UInt64.toNat_inj.1
  have h1 := i64_toNat (p.length : Int)
  rw [UInt64.toNat_add, UInt64.toNat_ofNat', UInt64.toNat_ofNat', List.length_append]
  omega
end Go.Fw
namespace Go.Fw
open Go
/-- Bytes that can be read, as a thing. -/
def Ent.rd (v : Value) (l : List UInt8) : Ent := .pr (fun k => v.ownBlock = some k ∧ l ≠ []) (fun w => RdB w v l) fun w w' hb h => by
  obtain ⟨ad, cap, hv, h1, h2, h0, h3⟩ := h
  refine ⟨ad, cap, hv, h1, h2, h0, ?_⟩
  by_cases hl : l = []
  · left; rw [hl]; rfl
  · rcases h3 with h3 | ⟨b, o, T, fr, all, rfl, hb', hc⟩
    · exact .inl h3
    · exact .inr ⟨b, o, T, fr, all, rfl, (hb b ⟨by simp [hv, Value.ownBlock], hl⟩).trans hb', hc⟩
theorem RdB.key {w : World} {v : Value} {l : List UInt8} (h : RdB w v l) {k : Nat} (hk : v.ownBlock = some k) (hl : l ≠ []) : k < w.heap.size := by
  obtain ⟨b, o, cap, T, fr, all, hv, _, _, hb, _⟩ := RdB.at_ h (List.length_pos_iff.2 hl)
  simp [hv, Value.ownBlock] at hk
  subst hk
  exact heap_lt hb
section
variable {N : Nat} {F F' : List (Nat × Value)} {L L' : List Ent} {M : Nat → Prop} {w0 w w' : World} {a : Act}
theorem St.rowrd {i : Nat} {v : Value} {l : List UInt8} {T : TypeId} (hs : St N F L M w0 a w) (hi : L[i]? = some (.row v l.length (l.map B) T 1)) : St N F (L.set i (.rd v l)) M w0 a w :=
  hs.mod hi (.refl _ _) (RdB.row (hs.get hi)) fun k hk => ⟨.inl hk.1, RdB.key (RdB.row (hs.get hi)) hk.1 hk.2⟩
theorem St.rdcut {i j : Nat} {ad : Option Addr} {cap : Nat} {l : List UInt8} (hs : St N F L M w0 a w) (hi : L[i]? = some (.rd (.slice ad l.length cap) l)) (hj : j ≤ l.length) :
    St N F (L.set i (.rd (.slice (if cap = j then ad else ad.map (·.add (j * 1))) (l.length - j) (cap - j)) (l.drop j))) M w0 a w := by
  have h : RdB w (.slice ad l.length cap) l := hs.get hi
  have h2 := RdB.cut h hj
  refine hs.mod hi (.refl _ _) h2 fun k hk => ⟨.inl ⟨?_, fun e => hk.2 (by rw [e]; simp)⟩, RdB.key h2 hk.1 hk.2⟩
  have h3 := hk.1
  cases ad with
  | none => by_cases e : cap = j <;> simp [e, Value.ownBlock] at h3
  | some q =>
    show some q.block = some k
    by_cases e : cap = j
    · rw [if_pos e] at h3; exact h3
    · rw [if_neg e] at h3
      have h4 : some (q.add (j * 1)).block = some k := h3
      rw [← h4]
      unfold Addr.add
      split <;> rfl
end
end Go.Fw
end

/- Strings. -/
section
set_option linter.unusedSimpArgs false
set_option linter.unusedVariables false
namespace Go.Fw
open Go

/-- A string of bytes. -/
abbrev T (l : List UInt8) : Value := .string ⟨l.toArray⟩

theorem push_all : ∀ (l : List UInt8) (s : ByteArray), (l.map fun b => (b.toNat : Int)).foldl (fun r n => r.push (UInt8.ofNat n.toNat)) s = ⟨(s.data.toList ++ l).toArray⟩
  | [], s => by simp
  | b :: l, s => by
    simp only [List.map_cons, List.foldl_cons]
    rw [push_all l]
    simp [ByteArray.push]

theorem Rd.cells {w : World} {u : Value} {m : Nat} {news : List Value} (hr : Rd w u m news) : (∃ cap, u = .slice none m cap ∧ m = 0 ∧ news = []) ∨ ∃ ad cap, u = .slice (some ad) m cap ∧ ∀ j v, news[j]? = some v → w.cell? (ad.add j) = some v := by
  rcases hr.src with ⟨h1, h2, h3⟩ | ⟨ad, cap, h1, h2⟩
  · exact .inl ⟨0, by rw [h1, h2], h2, h3⟩
  · exact .inr ⟨ad, cap, h1, h2⟩

section
variable {P : Program} {a : Act} {w : World} {d : Option Tmp} {ty : TypeId} {pos : String} {aft : Array Edge} {g : Option (Nat × Bool)} {x y z : Operand} {t u : TypeId}

/-- Bytes as a string. -/
theorem c_cvST {E : TypeId} {v : Value} {l : List UInt8} (hu : P.underlying t = some (.slice E)) (hE : P.underlying E = some (.int .u8)) (hd : P.underlying u = some .string) (hx : a.eval x = v) (hr : RdB w v l) :
    (execOp a.eval ⟨d, .convert t u x, ty, pos, aft, g⟩).run P w = .ok (.value (T l)) w := by
  rcases Rd.cells hr with ⟨cap, rfl, _, h0⟩ | ⟨ad, cap, rfl, hc⟩
  · have hl : l = [] := by simpa using h0
    subst hl
    simp [execOp, hx, run_convert_bytes_string w t u E none _ cap hu hE hd, Conv.bytesToString]
    rfl
  · have hm : l.map B = (l.map fun b => (b.toNat : Int)).map (Value.int .u8) := by simp [B]
    have h1 : (loadCells ad l.length).run P w = .ok ((l.map fun b => (b.toNat : Int)).map (Value.int .u8)).toArray w := by
      have := run_loadCells_list (P := P) (w := w) ad (l.map B) hc
      rw [List.length_map, hm] at this
      exact this
    have h2 := run_bytesToString w ad l.length cap _ h1
    rw [push_all] at h2
    simp [execOp, hx, run_convert_bytes_string w t u E (some ad) l.length cap hu hE hd, h2]
theorem c_eqlTT {l m : List UInt8} (hx : a.eval x = T l) (hy : a.eval y = T m) : (execOp a.eval ⟨d, .binOp .eql t x y u, ty, pos, aft, g⟩).run P w = .ok (.value (.bool (l == m))) w := by
  rw [c_eqlT hx hy]; simp
theorem c_neqTT {l m : List UInt8} (hx : a.eval x = T l) (hy : a.eval y = T m) : (execOp a.eval ⟨d, .binOp .neq t x y u, ty, pos, aft, g⟩).run P w = .ok (.value (.bool (l != m))) w := by
  rw [c_neqT hx hy]; simp [bne]
theorem c_lenTT {U' : TypeId} {l : List UInt8} (hu : P.underlying U' = some .string) (hx : a.eval x = T l) :
    (execOp a.eval ⟨d, .call { callee := .builtin .len, args := #[x], argTypes := #[U'] }, ty, pos, aft, g⟩).run P w = .ok (.value (I l.length)) w := by
  rw [c_lenT hu hx]; rfl
theorem c_idxTT {l : List UInt8} {j : Nat} {k : IntKind} {i : Int} (hu : P.underlying t = some .string) (hx : a.eval x = T l) (hy : a.eval y = .int k i) (hj : i = (j : Int)) (hlt : j < l.length) :
    (execOp a.eval ⟨d, .index t x y, ty, pos, aft, g⟩).run P w = .ok (.value (B (l.getD j 0))) w := by
  rw [c_idxT hu hx hy hj hlt]
end
theorem freeze_heap {w : World} {gb n : Nat} {cs : Array Value} {T : TypeId} {fr : Nat × Nat} (h : w.heap[gb]? = some (.cells cs T fr)) : ∃ fr', (w.freeze ⟨gb, n, none⟩ 1).heap[gb]? = some (.cells cs T fr') := by
  obtain ⟨lo, hi⟩ := fr
  simp only [World.freeze, if_neg (show ¬ (1 = 0) by decide), Array.getElem?_modify, if_pos trivial, h, Option.map_some]
  exact ⟨_, rfl⟩
theorem freeze_fr (w : World) (gb n : Nat) : Fr (· = gb) w (w.freeze ⟨gb, n, none⟩ 1) :=
  ⟨rfl, rfl, rfl, by simp [World.freeze], fun k _ hk => by simp [World.freeze, Array.getElem?_modify, Ne.symm hk]⟩
section
variable {P : Program} {ops : Array Oper} {Q : Exit → Act → World → Prop} {rest : List Oper} {N : Nat} {F F' : List (Nat × Value)} {L L' : List Ent} {M : Nat → Prop} {w0 w : World} {a : Act}
variable {d : Tmp} {op : Op} {ty : TypeId} {pos : String} {aft : Array Edge} {x y z : Operand} {t u : TypeId}
/-- Constant bytes, made from a string: a mark is set; they can be read. -/
theorem s_mark {i gb : Nat} {l : List UInt8} {E E' T : TypeId} (hs : St N F L M w0 a w) (hu : P.underlying t = some (.slice E)) (hd : P.underlying u = some (.slice E')) (hE : P.underlying E' = some (.int .u8)) (htu : (t == u) = true)
    (hx : ev F x = some (.slice (some ⟨gb, 0, none⟩) l.length l.length)) (hi : L[i]? = some (.seg gb (l.map B) T)) (hle : l.length ≤ maxLen) (hd' : Nat.blt d N = true)
    (k : ∀ a w, St N ((d, .slice (some ⟨gb, 0, none⟩) l.length l.length) :: F) (L.set i (.rd (.slice (some ⟨gb, 0, none⟩) l.length l.length) l)) M w0 a w → wpList P ops Q rest a w) :
    wpList P ops Q (⟨some d, .convert t u x, ty, pos, aft, none⟩ :: rest) a w := by
  have hb := hs.seg hi
  have hrun : (execOp a.eval ⟨some d, .convert t u x, ty, pos, aft, none⟩).run P w = .ok (.value (.slice (some ⟨gb, 0, none⟩) l.length l.length)) (w.freeze ⟨gb, (l.map B).toArray.size, none⟩ 1) := by
    have hsh : w.shape? gb = some (T, (l.map B).toArray.size) := by simp [World.shape?, hb]
    simp [execOp, hs.ev hx, convert, run_underlying hu, run_underlying hd, run_underlying hE, htu, markStringish, hsh, Result.andThen]
  refine wpList_plain rfl fun K hK => upon_value hrun (hK _ _ (k _ _ ?_))
  obtain ⟨fr', hfz⟩ := freeze_heap (n := (l.map B).toArray.size) hb
  have h3 : RdB (w.freeze ⟨gb, (l.map B).toArray.size, none⟩ 1) (.slice (some ⟨gb, 0, none⟩) l.length l.length) l := Rd.of_seg hfz (Nat.le_refl _) hle (List.take_of_length_le (by simp))
  refine (hs.mod (e' := .rd (.slice (some ⟨gb, 0, none⟩) l.length l.length) l) hi (freeze_fr w gb _) h3 fun k hk => ⟨.inl ?_, h3.key hk.1 hk.2⟩).put (lt_of_blt hd') _
  have := hk.1
  simp [Value.ownBlock] at this
  exact this.symm
end
theorem RdB.at' {w : World} {ad : Option Addr} {cap : Nat} {l : List UInt8} (h : RdB w (.slice ad l.length cap) l) (hne : 0 < l.length) :
    ∃ b o T fr all, ad = some ⟨b, o, none⟩ ∧ w.heap[b]? = some (.cells all T fr) ∧ (all.toList.drop o).take (l.map B).length = l.map B := by
  obtain ⟨b, o, cap', T, fr, all, e, _, _, hb, hc⟩ := RdB.at_ h hne
  cases e
  exact ⟨b, o, T, fr, all, rfl, hb, hc⟩
theorem RdB.take {w : World} {ad : Option Addr} {cap m : Nat} {l : List UInt8} (h : RdB w (.slice ad l.length cap) l) (hm : m ≤ l.length) : RdB w (.slice ad m cap) (l.take m) := by
  obtain ⟨ad', cap', hv, h1, h2, h0, h3⟩ := h
  cases hv
  have hl : (l.take m).length = m := by simp; omega
  unfold RdB
  rw [hl]
  refine ⟨ad, cap, rfl, by omega, h2, h0, ?_⟩
  rcases h3 with h3 | ⟨b, o, T, fr, all, rfl, hb, hc⟩
  · left; simp at h3; subst h3; simp
  · right
    refine ⟨b, o, T, fr, all, rfl, hb, ?_⟩
    rw [List.map_take, ← hc]
    simp only [List.length_take, List.length_map, List.take_take]
    have h5 : l.length ≤ all.toList.length - o := by
      have := congrArg List.length hc
      simp only [List.length_take, List.length_map, List.length_drop] at this
      omega
    congr 1
    simp only [List.length_drop]
    omega
theorem RdB.mid {w : World} {ad : Option Addr} {cap i j : Nat} {l : List UInt8} (h : RdB w (.slice ad l.length cap) l) (hij : i ≤ j) (hj : j ≤ l.length) :
    RdB w (.slice (if cap = i then ad else ad.map (·.add (i * 1))) (j - i) (cap - i)) ((l.drop i).take (j - i)) := by
  have h1 := RdB.cut (i := i) h (by omega)
  have h2 : (l.drop i).length = l.length - i := List.length_drop
  rw [← h2] at h1
  exact RdB.take h1 (by omega)
theorem RdB.fr' {M : Nat → Prop} {w w' : World} {v : Value} {l : List UInt8} (h : RdB w v l) (hf : Fr M w w') (hm : l ≠ [] → ∀ k, v.ownBlock = some k → ¬ M k) : RdB w' v l := by
  by_cases e : l = []
  · subst e
    obtain ⟨ad, cap, h1, h2, h3, h4, _⟩ := h
    exact ⟨ad, cap, h1, h2, h3, h4, .inl rfl⟩
  · exact h.fr hf (hm e)
theorem St.far {N : Nat} {F : List (Nat × Value)} {L : List Ent} {w0 w : World} {a : Act} {i : Nat} {e : Ent} {v : Value} {l : List UInt8} (hs : St N F L (fun _ => False) w0 a w) (hi : L[i]? = some e) (h : RdB w0 v l) :
    l ≠ [] → ∀ k, v.ownBlock = some k → ¬ e.keys k := fun hl k hk he => by
  have h1 := h.key hk hl
  rcases hs.own e (List.mem_of_getElem? hi) k he with h2 | h2
  · omega
  · exact h2
end Go.Fw
end

/- Copying; rows of rows of bytes. -/
section
set_option linter.unusedSimpArgs false
set_option linter.unusedVariables false
namespace Go.Fw
open Go

section
variable {P : Program} {ops : Array Oper} {Q : Exit → Act → World → Prop} {rest : List Oper} {N : Nat} {F F' : List (Nat × Value)} {L L' : List Ent} {M : Nat → Prop} {w0 w : World} {a : Act}
variable {d : Tmp} {op : Op} {ty : TypeId} {pos : String} {aft : Array Edge} {x y z : Operand} {t u : TypeId}

/-- Bytes are copied into a literal's or a variable's place. -/
theorem s_copy {i g n : Nat} {l p : List UInt8} {T dT sT E : TypeId} {ed : TypeDesc} {zs : List Value} {v : Value} (hs : St N F L M w0 a w) (hu : P.underlying dT = some (.slice E)) (hE : Ty P E ed 1 1 zs)
    (hx : ev F x = some (.slice (some ⟨g, 0, none⟩) n n)) (hl : l.length = n) (hy : ev F y = some v) (hi : L[i]? = some (.seg g (l.map B) T)) (hr : RdB w v p) (hd : Nat.blt d N = true)
    (k : ∀ a w, St N ((d, I (min p.length n : Nat)) :: F) (L.set i (.seg g ((p.take n ++ l.drop p.length).map B) T)) M w0 a w → wpList P ops Q rest a w) :
    wpList P ops Q (⟨some d, .call { callee := .builtin .copy, args := #[x, y], argTypes := #[dT, sT] }, ty, pos, aft, none⟩ :: rest) a w := by
  subst hl
  have hg := hs.seg hi
  obtain ⟨inf, hi1, hi2, _⟩ := hE.info
  have hsz : (P.info? E).map (·.size) = some 1 := by rw [hi1]; simp [hi2]
  have key : ∃ w', (Builtin.copy_ #[dT, sT] ty #[.slice (some ⟨g, 0, none⟩) l.length l.length, v]).run P w = .ok (I (min p.length l.length : Nat)) w' ∧ Fr (· = g) w w' ∧
      w'.heap[g]? = some (.cells ((p.take l.length ++ l.drop p.length).map B).toArray T (0, 0)) := by
    rcases hr.src with ⟨rfl, h2, _⟩ | ⟨ad, cap, rfl, hc⟩
    · refine ⟨w, ?_, .refl _ _, ?_⟩
      · rw [run_copy_nil P w dT sT ty E _ _ _ hu (by rw [hsz]; rfl)]
        simp [h2, goInt]
      · have hp : p = [] := List.eq_nil_of_length_eq_zero h2
        subst hp
        simpa using hg
    · have hlen : ((p.take l.length).map B).length = Nat.min p.length l.length := by simp [Nat.min_comm]
      have hrun := run_copy_row (P := P) w dT sT ty E g 0 l.length l.length ad p.length cap (l.map B).toArray T ((p.take l.length).map B) hu hsz hg hlen (fun j v hj => hc j v (by
        rw [List.map_take, List.getElem?_take] at hj
        split at hj
        · exact hj
        · cases hj)) (by simp; omega) (by intro v hv; obtain ⟨b, _, rfl⟩ := List.mem_map.1 hv; rfl)
      have hres : ((l.map B).toArray.toList.take 0 ++ (p.take l.length).map B ++ (l.map B).toArray.toList.drop (0 + ((p.take l.length).map B).length)) = (p.take l.length ++ l.drop p.length).map B := by
        rw [hlen]
        simp only [List.take_zero, List.nil_append, Nat.zero_add, List.map_append, ← List.map_drop]
        congr 2
        rcases Nat.le_total p.length l.length with h | h
        · rw [show Nat.min p.length l.length = p.length from Nat.min_eq_left h]
        · rw [show Nat.min p.length l.length = l.length from Nat.min_eq_right h, List.drop_of_length_le (Nat.le_refl _), List.drop_of_length_le h]
      rw [hres, hlen] at hrun
      exact ⟨_, hrun, .setRow _ _ _, setRow_heap w g _ _ T (0, 0) hg⟩
  obtain ⟨w', hrun, hf, hg'⟩ := key
  have hrun' : (execOp a.eval ⟨some d, .call { callee := .builtin .copy, args := #[x, y], argTypes := #[dT, sT] }, ty, pos, aft, none⟩).run P w = .ok (.value (I (min p.length l.length : Nat))) w' := by
    simp [execOp, resolve, invoke, builtin, hs.ev hx, hs.ev hy, hrun]
  refine wpList_plain rfl fun K hK => upon_value hrun' (hK _ _ (k _ _ ?_))
  refine (hs.mod (e' := .seg g ((p.take l.length ++ l.drop p.length).map B) T) hi hf hg' fun k hk => ⟨.inl hk, ?_⟩).put (lt_of_blt hd) _
  simp only [Ent.keys] at hk
  subst hk
  exact heap_lt hg'
end

/-! ### Rows of rows -/

/-- A slice of slices of bytes. -/
def RdP (w : World) (v : Value) (ps : List (Value × List UInt8)) : Prop := Rd w v ps.length (ps.map (·.1)) ∧ ∀ q ∈ ps, RdB w q.1 q.2
theorem RdP.fr0 {w w' : World} {v : Value} {ps : List (Value × List UInt8)} (h : RdP w v ps) (hf : Fr0 w w') : RdP w' v ps := ⟨h.1.fr0 hf, fun q hq => (h.2 q hq).fr0 hf⟩
theorem RdP.sl {w : World} {v : Value} {ps : List (Value × List UInt8)} (h : RdP w v ps) : ∃ ad cap, v = .slice ad ps.length cap ∧ ps.length ≤ cap ∧ cap ≤ maxLen := h.1.sl
theorem RdP.at' {w : World} {ad : Option Addr} {cap : Nat} {ps : List (Value × List UInt8)} (h : RdP w (.slice ad ps.length cap) ps) (hne : 0 < ps.length) :
    ∃ b o T fr all, ad = some ⟨b, o, none⟩ ∧ w.heap[b]? = some (.cells all T fr) ∧ (all.toList.drop o).take (ps.map (·.1)).length = ps.map (·.1) := by
  obtain ⟨b, o, cap', T, fr, all, e, _, _, hb, hc⟩ := Rd.at_ h.1 (by intro e; simp at e; subst e; simp at hne)
  cases e
  exact ⟨b, o, T, fr, all, rfl, hb, hc⟩
theorem RdP.get {w : World} {v : Value} {ps : List (Value × List UInt8)} (h : RdP w v ps) {k : Nat} (hk : k < ps.length) : RdB w (ps.getD k (.nilIface, [])).1 (ps.getD k (.nilIface, [])).2 := by
  have : ps.getD k (.nilIface, []) ∈ ps := by simp [List.getD, hk]
  exact h.2 _ this
theorem seg_get1 {α : Type} {f : α → Value} {all : Array Value} {l : List α} {o i : Nat} (d : α) (h : (all.toList.drop o).take (l.map f).length = l.map f) (hi : i < l.length) : all.toList[o + i * 1]? = some (f (l.getD i d)) := seg_get d h hi
/-- The bytes of all parts. -/
def flat (ps : List (Value × List UInt8)) : List UInt8 := ps.flatMap (·.2)
theorem flat_take (ps : List (Value × List UInt8)) (k : Nat) (hk : k < ps.length) : flat (ps.take (k + 1)) = flat (ps.take k) ++ (ps.getD k (.nilIface, [])).2 := by
  have : ps.take (k + 1) = ps.take k ++ [ps.getD k (.nilIface, [])] := by
    rw [List.take_succ_eq_append_getElem hk]
    simp [List.getD, hk]
  rw [this, flat, List.flatMap_append]
  simp [flat]
theorem flat_take_le (ps : List (Value × List UInt8)) (k : Nat) (hk : k < ps.length) : (flat (ps.take k)).length + (ps.getD k (.nilIface, [])).2.length ≤ (flat ps).length := by
  rw [← List.length_append, ← flat_take ps k hk]
  conv => rhs; rw [← List.take_append_drop (k + 1) ps]
  rw [flat, flat, List.flatMap_append, List.length_append]
  omega
theorem flat_full (ps : List (Value × List UInt8)) : flat (ps.take ps.length) = flat ps := by rw [List.take_length]
end Go.Fw
end

/- Things that lie apart. -/
section
set_option linter.unusedSimpArgs false
set_option linter.unusedVariables false
namespace Go.Fw
open Go
section
variable {N : Nat} {F F' : List (Nat × Value)} {L L' : List Ent} {M : Nat → Prop} {w0 w w' : World} {a : Act}
theorem pairwise_at {R : Ent → Ent → Prop} : ∀ {L : List Ent} {i j : Nat} {a b : Ent}, L.Pairwise R → L[i]? = some a → L[j]? = some b → i < j → R a b
  | [], i, j, a, b, _, hi, _, _ => by simp at hi
  | x :: t, 0, j + 1, a, b, h, hi, hj, _ => by
    simp at hi hj
    subst hi
    exact (List.pairwise_cons.1 h).1 b (List.mem_of_getElem? hj)
  | x :: t, i + 1, j + 1, a, b, h, hi, hj, hij => by
    simp at hi hj
    exact pairwise_at (List.pairwise_cons.1 h).2 hi hj (by omega)
  | x :: t, i, 0, _, _, _, _, _, hij => by omega
theorem St.apart_seg {i j g n m : Nat} {e : Ent} {cs : List Value} {T : TypeId} (hs : St N F L M w0 a w) (hi : L[i]? = some e) (hj : L[j]? = some (.seg g cs T)) (hij : i < j) :
    ∀ k, (Value.slice (some ⟨g, 0, none⟩) n m).ownBlock = some k → ¬ e.keys k := fun k hk he => by
  simp [Value.ownBlock] at hk
  subst hk
  exact pairwise_at hs.has.apart hi hj hij _ he rfl
theorem St.seg_apart {i j g n m : Nat} {e : Ent} {cs : List Value} {T : TypeId} (hs : St N F L M w0 a w) (hi : L[i]? = some (.seg g cs T)) (hj : L[j]? = some e) (hij : i < j) :
    ∀ k, (Value.slice (some ⟨g, 0, none⟩) n m).ownBlock = some k → ¬ e.keys k := fun k hk he => by
  simp [Value.ownBlock] at hk
  subst hk
  exact pairwise_at hs.has.apart hi hj hij _ rfl he
end
theorem RdB.segn {w : World} {g n : Nat} {T : TypeId} {l : List UInt8} (h : w.heap[g]? = some (.cells (l.map B).toArray T (0, 0))) (hl : l.length = n) (hn : n ≤ maxLen) : RdB w (.slice (some ⟨g, 0, none⟩) n n) l := by
  subst hl; exact RdB.seg h hn
end Go.Fw
namespace Go.Fw
open Go
/-- Each part reads. -/
inductive Alls (w : World) : List (Value × List UInt8) → Prop
  | nil : Alls w []
  | cons {v : Value} {l : List UInt8} {ps : List (Value × List UInt8)} (h : RdB w v l) (t : Alls w ps) : Alls w ((v, l) :: ps)
theorem Alls.all {w : World} {ps : List (Value × List UInt8)} (h : Alls w ps) : ∀ q ∈ ps, RdB w q.1 q.2 := by
  induction h with
  | nil => simp
  | cons h _ ih =>
    intro q hq
    rcases List.mem_cons.1 hq with rfl | hq
    · exact h
    · exact ih q hq
theorem RdP.seg {w : World} {g : Nat} {T : TypeId} {ps : List (Value × List UInt8)} (h : w.heap[g]? = some (.cells (ps.map (·.1)).toArray T (0, 0))) (hn : ps.length ≤ maxLen) (ha : Alls w ps) : RdP w (.slice (some ⟨g, 0, none⟩) ps.length ps.length) ps :=
  ⟨Rd.of_seg h (Nat.le_refl _) hn (List.take_of_length_le (by simp)), ha.all⟩
/-- Numbers behind a slice. -/
abbrev RdV (w : World) (v : Value) (l : List UInt64) : Prop := Rd w v l.length (l.map V)
theorem RdV.at' {w : World} {ad : Option Addr} {cap : Nat} {l : List UInt64} (h : RdV w (.slice ad l.length cap) l) (hne : 0 < l.length) :
    ∃ b o T fr all, ad = some ⟨b, o, none⟩ ∧ w.heap[b]? = some (.cells all T fr) ∧ (all.toList.drop o).take (l.map V).length = l.map V := by
  obtain ⟨b, o, cap', T, fr, all, e, _, _, hb, hc⟩ := Rd.at_ h (by intro e; simp at e; subst e; simp at hne)
  cases e
  exact ⟨b, o, T, fr, all, rfl, hb, hc⟩
theorem RdV.le {w : World} {v : Value} {l : List UInt64} (h : RdV w v l) : l.length ≤ 9223372036854775807 := Rd.le h
theorem RdV.sl {w : World} {v : Value} {l : List UInt64} (h : RdV w v l) : ∃ ad cap, v = .slice ad l.length cap ∧ l.length ≤ cap ∧ cap ≤ maxLen := Rd.sl h
section
variable {P : Program} {a : Act} {w : World} {d : Option Tmp} {ty : TypeId} {pos : String} {aft : Array Edge} {g : Option (Nat × Bool)} {x y z : Operand} {t u : TypeId}
/-- The first j elements of an array. -/
theorem c_sliceAH {n : Nat} {E : TypeId} {s bytes : Nat} {ed : TypeDesc} {z : List Value} {ad : Addr} {j : Nat} {k : IntKind} {m : Int} (hu : P.underlying t = some (.array n E)) (hE : Ty P E ed s bytes z)
    (hx : a.eval x = .pointer (some ad)) (hy : a.eval y = .int k m) (hm : m = (j : Int)) (hj : j ≤ n) :
    (execOp a.eval ⟨d, .slice t x none (some y) none, ty, pos, aft, g⟩).run P w = .ok (.value (.slice (some ad) j n)) w := by
  subst hm
  simp [execOp, Instr.sliceAt, Instr.slice, Instr.sureAddr, hx, hy, run_underlying hu, Instr.sliceBounds, Instr.sliceBound, asIntOf, hE.size, hj, Addr.add]

end
end Go.Fw
end

/- Guarded operations in regions that draw; numbers of sixteen bits. -/
section
set_option linter.unusedSimpArgs false
set_option linter.unusedVariables false
namespace Go.Fw
open Go
section
variable {P : Program} {ops : Array Oper} {N B1 : Nat} {w1 : World} {K : List (Nat × Value) → Fes → Prop} {Fc : List (Nat × Value)} {Fe : Fes} {rest : List Oper}
variable {d : Tmp} {op : Op} {ty : TypeId} {pos : String} {aft : Array Edge}
/-- A guard that is met is no guard. -/
theorem rg_strip {j s : Nat} {b : Bool} (hj : (ops[j]?).bind (·.dst) = some s) (hb : look Fc s = some (.bool b)) (k : RG P ops N B1 w1 K Fc Fe (⟨some d, op, ty, pos, aft, none⟩ :: rest)) :
    RG P ops N B1 w1 K Fc Fe (⟨some d, op, ty, pos, aft, some (j, b)⟩ :: rest) := by
  obtain ⟨d', D, h1, h2, h3, h4⟩ := k
  refine ⟨d', D, h1, ?_, h3, h4⟩
  rcases h2 with ⟨_, h⟩ | ⟨h, _⟩
  · exact .inl ⟨by simp [wantedAs, hj, hb], fun a w hc => h a w ⟨hc.know, hc.fr, hc.ents⟩⟩
  · simp [wantedAs] at h
end
section
variable {P : Program} {a : Act} {w : World} {d : Option Tmp} {ty : TypeId} {pos : String} {aft : Array Edge} {g : Option (Nat × Bool)} {x y z : Operand} {t u : TypeId}
theorem c_cvWI {ds : TypeDesc} {n : Int} (hs : P.underlying t = some ds) (hd : P.underlying u = some (.int .i64)) (hx : a.eval x = .int .u16 n) (h0 : 0 ≤ n ∧ n < 65536) :
    (execOp a.eval ⟨d, .convert t u x, ty, pos, aft, g⟩).run P w = .ok (.value (I n)) w := by
  rw [c_conv hs hd hx]
  congr 3
  simp [IntKind.wrap, IntKind.min, IntKind.max, IntKind.signed, IntKind.bits]
  omega
end
end Go.Fw
end

/- More openings of arguments. -/
section
set_option linter.unusedSimpArgs false
set_option linter.unusedVariables false
namespace Go.Fw
open Go Go.ChangeShapes Go.WideShapes Go.ChangeAt Go.RowKit
section
variable {H : Type} {enc : TypeId × Value → H} {P : Program} {w : World} {base : Nat} {spare : Nat → Bool} {held : Bool} {fuel : Nat} {t e u : TypeId} {cs : List Value} {x : DataW H × List MemPlace} {v : Value} {d : DataW H} {ps : List MemPlace} {r : Reach} {b0 : Nat}

/-- A slice of numbers of some kind. -/
theorem opSlG {α : Type} [Inhabited α] {k : IntKind} {f : α → Value} (of : ∀ n, (Lit.int k n).wf = true → ∃ b : α, Value.int k n = f b) (ht : P.underlying t = some (.slice e)) (he : P.underlying e = some (.int k)) (hc : P.cellsOf e = 1)
    (hval : Value.okWide P w r b0 t v) (hd : DataW.Trod enc P w base spare held t v d ps) : ∃ l : List α, Rd w v l.length (l.map f) ∧ (l = [] ∨ ∃ es sp, d = .slice es sp ∧ es.length = l.length) := by
  obtain ⟨a, len, cap, rfl⟩ := okWide_slice ht hval
  obtain ⟨fu, hf⟩ := hd
  have h : DataW.trod enc P w base spare held fu t [.slice a len cap] = some (d, ps) := by simpa [Value.cells] using hf
  rcases Deep.open_slice ht h with ⟨h1, h2⟩ | ⟨a, len, cap, m, n, D, Pl, h1, hb, hl, hm, hmm, h2, hx⟩
  · simp only [List.cons.injEq, and_true] at h1
    exact ⟨[], ⟨none, 0, h1, Nat.le_refl _, Nat.zero_le _, fun _ => rfl, .inl rfl⟩, .inl rfl⟩
  · simp only [List.cons.injEq, and_true] at h1
    have hlm : len ≤ m := by rw [hmm]; split <;> omega
    have each : ∀ i, i < len → ∃ b : α, w.cell? (a.add i) = some (f b) := fun i hi => by
      obtain ⟨cs', h2, h3⟩ := hx i (by omega)
      rw [hc, Nat.mul_one] at h2
      obtain ⟨z, rfl, _, hw⟩ := DataW.trod_int he h3
      obtain ⟨b, hb'⟩ := of _ hw
      exact ⟨b, by rw [cell_of_cells?_one h2, hb']⟩
    obtain ⟨F, hF⟩ := Deep.choose_lt (α := α) (p := fun i b => w.cell? (a.add i) = some (f b)) each
    have hll : ((List.range len).map F).length = len := by simp
    simp only [Prod.mk.injEq] at h2
    refine ⟨(List.range len).map F, ?_, .inr ⟨_, _, h2.1, by simp⟩⟩
    rw [hll]
    refine ⟨some a, cap, h1, hl, hm, (fun h => by cases h), ?_⟩
    by_cases hp : len = 0
    · left; subst hp; rfl
    · right
      obtain ⟨b, o, T, fr, all, rfl, h5, h6⟩ := row_of (w := w) (a := a) (cs := ((List.range len).map F).map f) (n := len) (by omega) (by simp) (fun i hi => by
        rw [hF i hi]; simp [hi])
      exact ⟨b, o, T, fr, all, rfl, h5, h6⟩
theorem opSV (ht : P.underlying t = some (.slice e)) (he : P.underlying e = some (.int .u64)) (hc : P.cellsOf e = 1) (hval : Value.okWide P w r b0 t v) (hd : DataW.Trod enc P w base spare held t v d ps) :
    ∃ l : List UInt64, RdV w v l ∧ (l = [] ∨ ∃ es sp, d = .slice es sp ∧ es.length = l.length) := opSlG (fun _ h => ofV h) ht he hc hval hd
theorem opSV_le {ts : List TypeId} {ds : List (DataW H)} {j : Nat} {l : List UInt64} (h : (DataW.weightsEach P ts ds).all (· ≤ reachBytes) = true) (ht : ts[j]? = some t) (hd : ds[j]? = some d)
    (hu : P.underlying t = some (.slice e)) (hb : P.bytesOf e = 8) (hl : l = [] ∨ ∃ es sp, d = .slice es sp ∧ es.length = l.length) : l.length ≤ 17592186043904 := by
  rcases hl with rfl | ⟨es, sp, rfl, hl⟩
  · simp
  · have := sized_slice h ht hd hu
    rw [hb] at this
    have h2 : reachBytes = 140737488351232 := by decide
    omega

/-- A slice of slices of bytes; how long each part is, is told by the reading. -/
theorem opSP (ht : P.underlying t = some (.slice e)) (he : P.underlying e = some (.slice u)) (hu : P.underlying u = some (.int .u8)) (hce : P.cellsOf e = 1) (hcu : P.cellsOf u = 1)
    (hval : Value.okWide P w r b0 t v) (hd : DataW.Trod enc P w base spare held t v d ps) :
    ∃ qs : List (Value × List UInt8), RdP w v qs ∧ (qs = [] ∨ ∃ es sp : List (DataW H), d = .slice es sp ∧ es.length = qs.length ∧ ∀ (i : Nat) (l : List UInt8), (qs.map (·.2))[i]? = some l → l = [] ∨ ∃ es' sp' : List (DataW H), es[i]? = some (DataW.slice es' sp') ∧ es'.length = l.length) := by
  obtain ⟨a, len, cap, rfl⟩ := okWide_slice ht hval
  obtain ⟨fu, hf⟩ := hd
  have h : DataW.trod enc P w base spare held fu t [.slice a len cap] = some (d, ps) := by simpa [Value.cells] using hf
  rcases Deep.open_slice1 ht hce h with ⟨h1, h2⟩ | ⟨a, len, cap, m, n, Vs, D, Pl, h1, hb, hl, hm, hmm, h2, hx⟩
  · simp only [List.cons.injEq, and_true] at h1
    exact ⟨[], ⟨⟨none, 0, h1, Nat.le_refl _, Nat.zero_le _, fun _ => rfl, .inl rfl⟩, by simp⟩, .inl rfl⟩
  · simp only [List.cons.injEq, and_true] at h1
    have hlm : len ≤ m := by rw [hmm]; split <;> omega
    have each : ∀ i, i < len → ∃ l : List UInt8, RdB w (Vs i) l ∧ (l = [] ∨ ∃ es sp, D i = .slice es sp ∧ es.length = l.length) := fun i hi => trodSl he hu hcu (hx i (by omega)).2
    obtain ⟨F, hF⟩ := Deep.choose_lt (α := List UInt8) (p := fun i l => RdB w (Vs i) l ∧ (l = [] ∨ ∃ es sp, D i = .slice es sp ∧ es.length = l.length)) each
    simp only [Prod.mk.injEq] at h2
    have hll : ((List.range len).map fun i => (Vs i, F i)).length = len := by simp
    refine ⟨(List.range len).map fun i => (Vs i, F i), ⟨?_, ?_⟩, .inr ⟨_, _, h2.1, by simp, ?_⟩⟩
    · rw [hll]
      refine ⟨some a, cap, h1, hl, hm, (fun h => by cases h), ?_⟩
      by_cases hp : len = 0
      · left; subst hp; rfl
      · right
        obtain ⟨b, o, T, fr, all, rfl, h5, h6⟩ := row_of (w := w) (a := a) (cs := ((List.range len).map fun i => (Vs i, F i)).map (·.1)) (n := len) (by omega) (by simp) (fun i hi => by
          rw [(hx i (by omega)).1]; simp [hi])
        exact ⟨b, o, T, fr, all, rfl, h5, h6⟩
    · intro q hq
      obtain ⟨i, hi, rfl⟩ := List.mem_map.1 hq
      exact (hF i (List.mem_range.1 hi)).1
    · intro i l hil
      rw [List.map_map, List.getElem?_map] at hil
      obtain ⟨j, hj, rfl⟩ := Option.map_eq_some_iff.1 hil
      have hjl : i < len := by have := (List.getElem?_eq_some_iff.1 hj).1; simpa using this
      have hji : j = i := by rw [List.getElem?_range hjl] at hj; exact (Option.some.inj hj).symm
      subst hji
      rcases (hF j hjl).2 with h7 | ⟨es', sp', h7, h8⟩
      · exact .inl h7
      · exact .inr ⟨es', sp', by rw [List.getElem?_map, List.getElem?_range hjl]; simpa using h7, h8⟩
end
end Go.Fw
end

/- Openings of small structs. -/
section
set_option linter.unusedSimpArgs false
set_option linter.unusedVariables false
namespace Go.Fw
open Go Go.ChangeShapes Go.WideShapes Go.ChangeAt Go.RowKit
section
variable {H : Type} {enc : TypeId × Value → H} {P : Program} {w : World} {base : Nat} {spare : Nat → Bool} {held : Bool} {fuel : Nat} {t e u : TypeId} {cs : List Value} {x : DataW H × List MemPlace} {v : Value} {d : DataW H} {ps : List MemPlace} {r : Reach} {b0 : Nat}
theorem opW (ht : P.underlying t = some (.int .u16)) (hval : Value.okWide P w r b0 t v) (hd : DataW.Trod enc P w base spare held t v d ps) : ∃ n : Nat, v = .int .u16 (n : Int) ∧ n < 65536 := by
  obtain ⟨n, rfl, _, _, hw⟩ := open_int ht hval hd
  obtain ⟨h0, h1⟩ := bounds_u16 hw
  exact ⟨n.toNat, by rw [Int.toNat_of_nonneg h0], by omega⟩
theorem opIU {f0 f1 : Field} (ht : P.underlying t = some (.struct #[f0, f1])) (h0 : P.underlying f0.type = some (.int .i64)) (h1 : P.underlying f1.type = some (.int .u32)) (o0 : f0.offset = 0) (o1 : f1.offset = 1)
    (c0 : P.cellsOf f0.type = 1) (c1 : P.cellsOf f1.type = 1) (ct : P.cellsOf t = 2) (hval : Value.okWide P w r b0 t v) (hd : DataW.Trod enc P w base spare held t v d ps) :
    ∃ (n : Int) (i : UInt32), v = .agg #[I n, U i] ∧ -9223372036854775808 ≤ n ∧ n ≤ 9223372036854775807 := by
  obtain ⟨cs, rfl, _⟩ := okWide_struct ht hval
  obtain ⟨fu, hf⟩ := hd
  obtain ⟨y0, y1, n, _, hl, hy0, hy1⟩ := Go.ChangeShapes.trod_struct2 ht hf
  simp only [Value.cells] at hl hy0 hy1
  rw [ct] at hl
  match hcs : cs.toList, hl with
  | [a, b], _ =>
    rw [hcs, o0, c0] at hy0
    rw [hcs, o1, c1] at hy1
    obtain ⟨z, hz, _, hw⟩ := DataW.trod_int h0 hy0
    obtain ⟨z1, hz1, _, hw1⟩ := DataW.trod_int h1 hy1
    simp at hz hz1
    subst hz hz1
    obtain ⟨i, hi⟩ := ofU hw1
    refine ⟨z, i, ?_, bounds_i64 hw⟩
    rw [← hi]
    congr 1
    apply Array.ext'
    rw [hcs]
theorem opIUU {f0 f1 f2 : Field} (ht : P.underlying t = some (.struct #[f0, f1, f2])) (h0 : P.underlying f0.type = some (.int .i64)) (h1 : P.underlying f1.type = some (.int .u32)) (h2 : P.underlying f2.type = some (.int .u32)) (o0 : f0.offset = 0) (o1 : f1.offset = 1) (o2 : f2.offset = 2)
    (c0 : P.cellsOf f0.type = 1) (c1 : P.cellsOf f1.type = 1) (c2 : P.cellsOf f2.type = 1) (ct : P.cellsOf t = 3) (hval : Value.okWide P w r b0 t v) (hd : DataW.Trod enc P w base spare held t v d ps) :
    ∃ (n : Int) (i j : UInt32), v = .agg #[I n, U i, U j] ∧ -9223372036854775808 ≤ n ∧ n ≤ 9223372036854775807 := by
  obtain ⟨cs, rfl, _⟩ := okWide_struct ht hval
  obtain ⟨fu, hf⟩ := hd
  obtain ⟨y0, y1, y2, n, _, hl, hy0, hy1, hy2⟩ := Go.Deep.trod_struct3 ht hf
  simp only [Value.cells] at hl hy0 hy1 hy2
  rw [ct] at hl
  match hcs : cs.toList, hl with
  | [a, b, c], _ =>
    rw [hcs, o0, c0] at hy0
    rw [hcs, o1, c1] at hy1
    rw [hcs, o2, c2] at hy2
    obtain ⟨z, hz, _, hw⟩ := DataW.trod_int h0 hy0
    obtain ⟨z1, hz1, _, hw1⟩ := DataW.trod_int h1 hy1
    obtain ⟨z2, hz2, _, hw2⟩ := DataW.trod_int h2 hy2
    simp at hz hz1 hz2
    subst hz hz1 hz2
    obtain ⟨i, hi⟩ := ofU hw1
    obtain ⟨j, hj⟩ := ofU hw2
    refine ⟨z, i, j, ?_, bounds_i64 hw⟩
    rw [← hi, ← hj]
    congr 1
    apply Array.ext'
    rw [hcs]
end
end Go.Fw
end

/- Where the fields of each struct lie. Written by a program of ours (facts2.py). -/
section
set_option maxRecDepth 100000
namespace Go.Proofs.Ytmgnnclkjkbmdaa
open Go Go.Fw
theorem bp7 : BP Try.prog 7 #[(0, 1), (1, 1), (2, 1), (3, 1)] := ⟨by kernel_rfl, fun w => by kernel_rfl⟩
theorem bp8 : BP Try.prog 8 #[(0, 1), (1, 1), (2, 1), (3, 1)] := ⟨by kernel_rfl, fun w => by kernel_rfl⟩
theorem bp13 : BP Try.prog 13 #[(0, 1), (1, 1)] := ⟨by kernel_rfl, fun w => by kernel_rfl⟩
theorem bp14 : BP Try.prog 14 #[(0, 1), (1, 1)] := ⟨by kernel_rfl, fun w => by kernel_rfl⟩
theorem bp18 : BP Try.prog 18 #[(0, 1)] := ⟨by kernel_rfl, fun w => by kernel_rfl⟩
theorem bp19 : BP Try.prog 19 #[(0, 1)] := ⟨by kernel_rfl, fun w => by kernel_rfl⟩
theorem bp28 : BP Try.prog 28 #[(0, 1), (1, 1)] := ⟨by kernel_rfl, fun w => by kernel_rfl⟩
theorem bp29 : BP Try.prog 29 #[(0, 1), (1, 1)] := ⟨by kernel_rfl, fun w => by kernel_rfl⟩
theorem bp56 : BP Try.prog 56 #[(0, 1), (1, 1)] := ⟨by kernel_rfl, fun w => by kernel_rfl⟩
theorem bp80 : BP Try.prog 80 #[(0, 1), (1, 1), (2, 1)] := ⟨by kernel_rfl, fun w => by kernel_rfl⟩
theorem bp81 : BP Try.prog 81 #[(0, 1), (1, 1), (2, 1)] := ⟨by kernel_rfl, fun w => by kernel_rfl⟩
theorem bp84 : BP Try.prog 84 #[(0, 1), (1, 1), (2, 1)] := ⟨by kernel_rfl, fun w => by kernel_rfl⟩
theorem bp157 : BP Try.prog 157 #[(0, 1), (1, 1), (2, 1)] := ⟨by kernel_rfl, fun w => by kernel_rfl⟩
theorem bp158 : BP Try.prog 158 #[(0, 1), (1, 1), (2, 1)] := ⟨by kernel_rfl, fun w => by kernel_rfl⟩
theorem bp162 : BP Try.prog 162 #[(0, 1), (1, 1), (2, 1)] := ⟨by kernel_rfl, fun w => by kernel_rfl⟩
theorem bp175 : BP Try.prog 175 #[(0, 1), (1, 1), (2, 1)] := ⟨by kernel_rfl, fun w => by kernel_rfl⟩
theorem bp176 : BP Try.prog 176 #[(0, 1), (1, 1), (2, 1)] := ⟨by kernel_rfl, fun w => by kernel_rfl⟩
theorem bp177 : BP Try.prog 177 #[(0, 1), (1, 3), (4, 1)] := ⟨by kernel_rfl, fun w => by kernel_rfl⟩
theorem bp178 : BP Try.prog 178 #[(0, 1), (1, 3), (4, 1)] := ⟨by kernel_rfl, fun w => by kernel_rfl⟩
theorem bp180 : BP Try.prog 180 #[(0, 1), (1, 1), (2, 1)] := ⟨by kernel_rfl, fun w => by kernel_rfl⟩
theorem bp181 : BP Try.prog 181 #[(0, 1), (1, 3), (4, 1)] := ⟨by kernel_rfl, fun w => by kernel_rfl⟩
theorem bp182 : BP Try.prog 182 #[(0, 1), (1, 3), (4, 1)] := ⟨by kernel_rfl, fun w => by kernel_rfl⟩
theorem bp191 : BP Try.prog 191 #[(0, 16), (16, 1), (17, 1)] := ⟨by kernel_rfl, fun w => by kernel_rfl⟩
theorem bp192 : BP Try.prog 192 #[(0, 16), (16, 1), (17, 1)] := ⟨by kernel_rfl, fun w => by kernel_rfl⟩
theorem bp196 : BP Try.prog 196 #[(0, 1), (1, 3), (4, 16), (20, 1)] := ⟨by kernel_rfl, fun w => by kernel_rfl⟩
theorem bp197 : BP Try.prog 197 #[(0, 1), (1, 3), (4, 16), (20, 1)] := ⟨by kernel_rfl, fun w => by kernel_rfl⟩
theorem bp212 : BP Try.prog 212 #[(0, 8), (8, 1), (9, 1), (10, 1)] := ⟨by kernel_rfl, fun w => by kernel_rfl⟩
theorem bp213 : BP Try.prog 213 #[(0, 8), (8, 1), (9, 1), (10, 1)] := ⟨by kernel_rfl, fun w => by kernel_rfl⟩
theorem bp230 : BP Try.prog 230 #[(0, 1), (1, 1), (2, 1)] := ⟨by kernel_rfl, fun w => by kernel_rfl⟩
theorem bp231 : BP Try.prog 231 #[(0, 1), (1, 1), (2, 1)] := ⟨by kernel_rfl, fun w => by kernel_rfl⟩
theorem bp241 : BP Try.prog 241 #[(0, 1), (1, 1)] := ⟨by kernel_rfl, fun w => by kernel_rfl⟩
theorem bp242 : BP Try.prog 242 #[(0, 1), (1, 1)] := ⟨by kernel_rfl, fun w => by kernel_rfl⟩
theorem bp250 : BP Try.prog 250 #[(0, 3), (3, 32), (35, 1), (36, 1), (37, 1), (38, 3), (41, 1), (42, 1)] := ⟨by kernel_rfl, fun w => by kernel_rfl⟩
theorem bp251 : BP Try.prog 251 #[(0, 3), (3, 32), (35, 1), (36, 1), (37, 1), (38, 3), (41, 1), (42, 1)] := ⟨by kernel_rfl, fun w => by kernel_rfl⟩
theorem bp265 : BP Try.prog 265 #[(0, 3), (3, 1)] := ⟨by kernel_rfl, fun w => by kernel_rfl⟩
theorem bp266 : BP Try.prog 266 #[(0, 3), (3, 1)] := ⟨by kernel_rfl, fun w => by kernel_rfl⟩
theorem bp289 : BP Try.prog 289 #[(0, 1), (1, 1), (2, 1), (3, 1)] := ⟨by kernel_rfl, fun w => by kernel_rfl⟩
theorem bp290 : BP Try.prog 290 #[(0, 1), (1, 1), (2, 1), (3, 1)] := ⟨by kernel_rfl, fun w => by kernel_rfl⟩
end Go.Proofs.Ytmgnnclkjkbmdaa
end
