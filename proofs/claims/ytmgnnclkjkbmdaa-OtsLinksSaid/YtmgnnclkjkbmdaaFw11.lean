/- Literals of structs and arrays; small laws on lists of cells. -/
import Derived.Test.YtmgnnclkjkbmdaaFw10
set_option linter.unusedSimpArgs false
set_option linter.unusedVariables false
namespace Go.Fw
open Go

def Pl (place : Nat → Option (Nat × Nat)) : Nat → Nat → List Value → Prop
  | _, _, [] => True
  | k, off, v :: t => place k = some (off, v.cells.size) ∧ Pl place (k + 1) (off + v.cells.size) t

theorem fill_seq (place : Nat → Option (Nat × Nat)) : ∀ (vs : List Value) (k : Nat) (done zeros : List Value), Pl place k done.length vs → (flatCells vs).length ≤ zeros.length →
    Instr.fill place (done ++ zeros).toArray (pairsFrom k vs) = some (done ++ flatCells vs ++ zeros.drop (flatCells vs).length).toArray
  | [], k, done, zeros, _, _ => by simp [Instr.fill, pairsFrom, flatCells]
  | v :: t, k, done, zeros, ⟨hp, ht⟩, hz => by
    have hfc : flatCells (v :: t) = v.cells.toList ++ flatCells t := by simp [flatCells]
    rw [hfc, List.length_append, Array.length_toList] at hz
    have step := array_foldl_set done.length v.cells (done ++ zeros).toArray (by simp; omega)
    have e1 : ((done ++ zeros).toArray.toList.take done.length ++ v.cells.toList ++ (done ++ zeros).toArray.toList.drop (done.length + v.cells.size)) = (done ++ v.cells.toList) ++ zeros.drop v.cells.size := by
      simp
    have ih := fill_seq place t (k + 1) (done ++ v.cells.toList) (zeros.drop v.cells.size) (by simpa using ht) (by simp; omega)
    have hn : ¬ (v.cells.size ≠ v.cells.size ∨ done.length + v.cells.size > (done ++ zeros).toArray.size) := by
      simp only [List.size_toArray, List.length_append]
      intro h
      rcases h with h | h
      · exact h rfl
      · omega
    simp only [pairsFrom, Instr.fill, hp]
    rw [if_neg (by simpa using hn), step, e1, ih, hfc]
    simp [List.drop_drop]

section
variable {P : Program} {a : Act} {w : World} {d : Option Tmp} {ty : TypeId} {pos : String} {aft : Array Edge} {g : Option (Nat × Bool)} {x y z : Operand} {t u : TypeId}

theorem pl_arr {s : Nat} : ∀ (vs : List Value) (k off : Nat), off = k * s → (∀ v ∈ vs, v.cells.size = s) → Pl (fun i => some (i * s, s)) k off vs
  | [], _, _, _, _ => trivial
  | v :: t, k, off, h, hv => ⟨by rw [hv v (by simp), h], pl_arr t (k + 1) _ (by rw [hv v (by simp), h, Nat.succ_mul]) fun u hu => hv u (by simp [hu])⟩

/-- An array's literal: what isn't written is zero. -/
theorem c_buildA {n s bytes by2 sz : Nat} {E : TypeId} {ed td : TypeDesc} {ze zs zc : List Value} {ps : Array (Nat × Operand)} {vs : List Value} (hT : Ty P t td sz bytes zs) (hu : P.underlying t = some (.array n E)) (hE : Ty P E ed s by2 ze)
    (hps : Evp a 0 ps.toList vs) (hv : ∀ v ∈ vs, v.cells.size = s) (hle : (flatCells vs).length ≤ sz) (hz : flatCells vs ++ zs.drop (flatCells vs).length = zc) :
    (execOp a.eval ⟨d, .build t ps, ty, pos, aft, g⟩).run P w = .ok (.value (.agg zc.toArray)) w := by
  obtain ⟨v, hzv, hzc⟩ := hT.zero (w := w)
  have hf := fill_seq (fun i => some (i * s, s)) vs 0 [] zs (pl_arr vs 0 0 (by simp) hv) (by rw [hT.len]; exact hle)
  simp only [List.nil_append, hz] at hf
  simp [execOp, Instr.build, hzv, hzc, run_underlying hu, hE.size, hps.map, hf]

def fsOf : TypeDesc → Array Field
  | .struct fs => fs
  | _ => #[]
/-- Where a struct's fields lie. -/
def BP (P : Program) (T : TypeId) (places : Array (Nat × Nat)) : Prop := P.underlying T = some (.struct (fsOf (dOf P T))) ∧ ∀ w, ((fsOf (dOf P T)).mapM (m := Sem) fun f => do pure (f.offset, ← sizeOf f.type)).run P w = .ok places w

theorem c_buildS {bytes sz : Nat} {td : TypeDesc} {zs zc : List Value} {pl : Array (Nat × Nat)} {ps : Array (Nat × Operand)} {vs : List Value} (hT : Ty P t td sz bytes zs) (hB : BP P t pl)
    (hps : Evp a 0 ps.toList vs) (hpl : Pl (fun i => pl[i]?) 0 0 vs) (hle : (flatCells vs).length ≤ sz) (hz : flatCells vs ++ zs.drop (flatCells vs).length = zc) :
    (execOp a.eval ⟨d, .build t ps, ty, pos, aft, g⟩).run P w = .ok (.value (.agg zc.toArray)) w := by
  obtain ⟨v, hzv, hzc⟩ := hT.zero (w := w)
  obtain ⟨hb1, hb2⟩ := hB
  have hf := fill_seq (fun i => pl[i]?) vs 0 [] zs hpl (by rw [hT.len]; exact hle)
  simp only [List.nil_append, hz] at hf
  have hb3 := hb2 w
  simp only [bind_pure_comp] at hb3
  simp [execOp, Instr.build, hzv, hzc, run_underlying hb1, hb3, hps.map, hf]
end

/-! lists of cells -/
theorem seg_get {α : Type} {f : α → Value} {all : Array Value} {l : List α} {o i : Nat} (d : α) (h : (all.toList.drop o).take (l.map f).length = l.map f) (hi : i < l.length) : all.toList[o + i * 1]? = some (f (l.getD i d)) := by
  have h2 : (l.map f)[i]? = some (f (l.getD i d)) := by simp [List.getD, hi]
  rw [← h, List.getElem?_take_of_lt (by simpa using hi), List.getElem?_drop] at h2
  simpa using h2
theorem map_get {α : Type} {f : α → Value} {l : List α} {i : Nat} (d : α) (hi : i < l.length) : (l.map f)[0 + i * 1]? = some (f (l.getD i d)) := by simp [List.getD, hi]
theorem map_set {α : Type} {f : α → Value} {l : List α} {i : Nat} (x : α) (hi : i < l.length) : (l.map f).take (0 + i * 1) ++ [f x] ++ (l.map f).drop (0 + i * 1 + 1) = (l.set i x).map f := by
  have : i < (l.map f).length := by simpa using hi
  rw [List.map_set, Nat.mul_one, Nat.zero_add, List.set_eq_take_append_cons_drop, if_pos this]
  simp

theorem all_map_B (l : List UInt8) : (l.map B).all (·.oneCell') = true := by simp [Value.oneCell']
theorem all_map_U (l : List UInt32) : (l.map U).all (·.oneCell') = true := by simp [Value.oneCell']

theorem St.old {N : Nat} {F : List (Nat × Value)} {L : List Ent} {M : Nat → Prop} {w0 w : World} {a : Act} {g : Nat} {o : Obj} (hs : St N F L M w0 a w) (h : w0.heap[g]? = some o) (hm : ¬ M g) : w.heap[g]? = some o := by
  rw [hs.fr.block g (Array.getElem?_eq_some_iff.1 h).1 hm]; exact h

/-- Bytes behind a slice. -/
abbrev RdB (w : World) (v : Value) (l : List UInt8) : Prop := Rd w v l.length (l.map B)
theorem RdB.at_ {w : World} {v : Value} {l : List UInt8} (h : RdB w v l) (hne : 0 < l.length) : ∃ b o cap T fr all, v = .slice (some ⟨b, o, none⟩) l.length cap ∧ l.length ≤ cap ∧ cap ≤ maxLen ∧ w.heap[b]? = some (.cells all T fr) ∧ (all.toList.drop o).take (l.map B).length = l.map B :=
  Rd.at_ h (by intro e; simp at e; subst e; simp at hne)
theorem Rd.le {w : World} {v : Value} {n : Nat} {cs : List Value} (h : Rd w v n cs) : n ≤ 9223372036854775807 := by
  obtain ⟨ad, cap, hv, h1, h2, _⟩ := h
  simp only [maxLen] at h2
  omega
end Go.Fw
