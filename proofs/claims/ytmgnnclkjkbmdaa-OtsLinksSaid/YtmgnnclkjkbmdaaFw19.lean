/- Copying; rows of rows of bytes. -/
import Derived.Test.YtmgnnclkjkbmdaaFw18
import Derived.Laws.CopyRow
set_option linter.unusedSimpArgs false
set_option linter.unusedVariables false
namespace Go.Fw
open Go

section
variable {P : Program} {ops : Array Oper} {Q : Exit → Act → World → Prop} {rest : List Oper} {N : Nat} {F F' : List (Nat × Value)} {L L' : List Ent} {M : Nat → Prop} {w0 w : World} {a : Act}
variable {d : Tmp} {op : Op} {ty : TypeId} {pos : String} {aft : Array Edge} {x y z : Operand} {t u : TypeId}

/-- Bytes are copied into a literal's or a variable's place. -/
theorem s_copy {i g n : Nat} {l p : List UInt8} {T dT sT E : TypeId} {ed : TypeDesc} {zs : List Value} {v : Value} (hs : St N F L M w0 a w) (hu : P.underlying dT = some (.slice E)) (hE : Ty P E ed 1 1 zs)
    (hx : ev F x = some (.slice (some ⟨g, 0, none⟩) n n)) (hl : l.length = n) (hy : ev F y = some v) (hi : L[i]? = some (.seg g (l.map B) T)) (hr : RdB w v p) (hd : Nat.blt d N = true)
    (k : ∀ a w, St N ((d, I (min p.length n : Nat)) :: F) (L.set i (.seg g ((p.take n ++ l.drop p.length).map B) T)) M w0 a w → wpList P ops Q rest a w) :
    wpList P ops Q (⟨some d, .call { callee := .builtin .copy, args := #[x, y], argTypes := #[dT, sT] }, ty, pos, aft, none⟩ :: rest) a w := by
  subst hl
  have hg := hs.seg hi
  obtain ⟨inf, hi1, hi2, _⟩ := hE.info
  have hsz : (P.info? E).map (·.size) = some 1 := by rw [hi1]; simp [hi2]
  have key : ∃ w', (Builtin.copy_ #[dT, sT] ty #[.slice (some ⟨g, 0, none⟩) l.length l.length, v]).run P w = .ok (I (min p.length l.length : Nat)) w' ∧ Fr (· = g) w w' ∧
      w'.heap[g]? = some (.cells ((p.take l.length ++ l.drop p.length).map B).toArray T (0, 0)) := by
    rcases hr.src with ⟨rfl, h2, _⟩ | ⟨ad, cap, rfl, hc⟩
    · refine ⟨w, ?_, .refl _ _, ?_⟩
      · rw [run_copy_nil P w dT sT ty E _ _ _ hu (by rw [hsz]; rfl)]
        simp [h2, goInt]
      · have hp : p = [] := List.eq_nil_of_length_eq_zero h2
        subst hp
        simpa using hg
    · have hlen : ((p.take l.length).map B).length = Nat.min p.length l.length := by simp [Nat.min_comm]
      have hrun := run_copy_row (P := P) w dT sT ty E g 0 l.length l.length ad p.length cap (l.map B).toArray T ((p.take l.length).map B) hu hsz hg hlen (fun j v hj => hc j v (by
        rw [List.map_take, List.getElem?_take] at hj
        split at hj
        · exact hj
        · cases hj)) (by simp; omega) (by intro v hv; obtain ⟨b, _, rfl⟩ := List.mem_map.1 hv; rfl)
      have hres : ((l.map B).toArray.toList.take 0 ++ (p.take l.length).map B ++ (l.map B).toArray.toList.drop (0 + ((p.take l.length).map B).length)) = (p.take l.length ++ l.drop p.length).map B := by
        rw [hlen]
        simp only [List.take_zero, List.nil_append, Nat.zero_add, List.map_append, ← List.map_drop]
        congr 2
        rcases Nat.le_total p.length l.length with h | h
        · rw [show Nat.min p.length l.length = p.length from Nat.min_eq_left h]
        · rw [show Nat.min p.length l.length = l.length from Nat.min_eq_right h, List.drop_of_length_le (Nat.le_refl _), List.drop_of_length_le h]
      rw [hres, hlen] at hrun
      exact ⟨_, hrun, .setRow _ _ _, setRow_heap w g _ _ T (0, 0) hg⟩
  obtain ⟨w', hrun, hf, hg'⟩ := key
  have hrun' : (execOp a.eval ⟨some d, .call { callee := .builtin .copy, args := #[x, y], argTypes := #[dT, sT] }, ty, pos, aft, none⟩).run P w = .ok (.value (I (min p.length l.length : Nat))) w' := by
    simp [execOp, resolve, invoke, builtin, hs.ev hx, hs.ev hy, hrun]
  refine wpList_plain rfl fun K hK => upon_value hrun' (hK _ _ (k _ _ ?_))
  refine (hs.mod (e' := .seg g ((p.take l.length ++ l.drop p.length).map B) T) hi hf hg' fun k hk => ⟨.inl hk, ?_⟩).put (lt_of_blt hd) _
  simp only [Ent.keys] at hk
  subst hk
  exact heap_lt hg'
end

/-! ### Rows of rows -/

/-- A slice of slices of bytes. -/
def RdP (w : World) (v : Value) (ps : List (Value × List UInt8)) : Prop := Rd w v ps.length (ps.map (·.1)) ∧ ∀ q ∈ ps, RdB w q.1 q.2
theorem RdP.fr0 {w w' : World} {v : Value} {ps : List (Value × List UInt8)} (h : RdP w v ps) (hf : Fr0 w w') : RdP w' v ps := ⟨h.1.fr0 hf, fun q hq => (h.2 q hq).fr0 hf⟩
theorem RdP.sl {w : World} {v : Value} {ps : List (Value × List UInt8)} (h : RdP w v ps) : ∃ ad cap, v = .slice ad ps.length cap ∧ ps.length ≤ cap ∧ cap ≤ maxLen := h.1.sl
theorem RdP.at' {w : World} {ad : Option Addr} {cap : Nat} {ps : List (Value × List UInt8)} (h : RdP w (.slice ad ps.length cap) ps) (hne : 0 < ps.length) :
    ∃ b o T fr all, ad = some ⟨b, o, none⟩ ∧ w.heap[b]? = some (.cells all T fr) ∧ (all.toList.drop o).take (ps.map (·.1)).length = ps.map (·.1) := by
  obtain ⟨b, o, cap', T, fr, all, e, _, _, hb, hc⟩ := Rd.at_ h.1 (by intro e; simp at e; subst e; simp at hne)
  cases e
  exact ⟨b, o, T, fr, all, rfl, hb, hc⟩
theorem RdP.get {w : World} {v : Value} {ps : List (Value × List UInt8)} (h : RdP w v ps) {k : Nat} (hk : k < ps.length) : RdB w (ps.getD k (.nilIface, [])).1 (ps.getD k (.nilIface, [])).2 := by
  have : ps.getD k (.nilIface, []) ∈ ps := by simp [List.getD, hk]
  exact h.2 _ this
theorem seg_get1 {α : Type} {f : α → Value} {all : Array Value} {l : List α} {o i : Nat} (d : α) (h : (all.toList.drop o).take (l.map f).length = l.map f) (hi : i < l.length) : all.toList[o + i * 1]? = some (f (l.getD i d)) := seg_get d h hi
/-- The bytes of all parts. -/
def flat (ps : List (Value × List UInt8)) : List UInt8 := ps.flatMap (·.2)
theorem flat_take (ps : List (Value × List UInt8)) (k : Nat) (hk : k < ps.length) : flat (ps.take (k + 1)) = flat (ps.take k) ++ (ps.getD k (.nilIface, [])).2 := by
  have : ps.take (k + 1) = ps.take k ++ [ps.getD k (.nilIface, [])] := by
    rw [List.take_succ_eq_append_getElem hk]
    simp [List.getD, hk]
  rw [this, flat, List.flatMap_append]
  simp [flat]
theorem flat_take_le (ps : List (Value × List UInt8)) (k : Nat) (hk : k < ps.length) : (flat (ps.take k)).length + (ps.getD k (.nilIface, [])).2.length ≤ (flat ps).length := by
  rw [← List.length_append, ← flat_take ps k hk]
  conv => rhs; rw [← List.take_append_drop (k + 1) ps]
  rw [flat, flat, List.flatMap_append, List.length_append]
  omega
theorem flat_full (ps : List (Value × List UInt8)) : flat (ps.take ps.length) = flat ps := by rw [List.take_length]
end Go.Fw
