/- More openings of arguments. -/
import Derived.Test.YtmgnnclkjkbmdaaFw21
set_option linter.unusedSimpArgs false
set_option linter.unusedVariables false
namespace Go.Fw
open Go Go.ChangeShapes Go.WideShapes Go.ChangeAt Go.RowKit
section
variable {H : Type} {enc : TypeId × Value → H} {P : Program} {w : World} {base : Nat} {spare : Nat → Bool} {held : Bool} {fuel : Nat} {t e u : TypeId} {cs : List Value} {x : DataW H × List MemPlace} {v : Value} {d : DataW H} {ps : List MemPlace} {r : Reach} {b0 : Nat}

/-- A slice of numbers of some kind. -/
theorem opSlG {α : Type} [Inhabited α] {k : IntKind} {f : α → Value} (of : ∀ n, (Lit.int k n).wf = true → ∃ b : α, Value.int k n = f b) (ht : P.underlying t = some (.slice e)) (he : P.underlying e = some (.int k)) (hc : P.cellsOf e = 1)
    (hval : Value.okWide P w r b0 t v) (hd : DataW.Trod enc P w base spare held t v d ps) : ∃ l : List α, Rd w v l.length (l.map f) ∧ (l = [] ∨ ∃ es sp, d = .slice es sp ∧ es.length = l.length) := by
  obtain ⟨a, len, cap, rfl⟩ := okWide_slice ht hval
  obtain ⟨fu, hf⟩ := hd
  have h : DataW.trod enc P w base spare held fu t [.slice a len cap] = some (d, ps) := by simpa [Value.cells] using hf
  rcases Deep.open_slice ht h with ⟨h1, h2⟩ | ⟨a, len, cap, m, n, D, Pl, h1, hb, hl, hm, hmm, h2, hx⟩
  · simp only [List.cons.injEq, and_true] at h1
    exact ⟨[], ⟨none, 0, h1, Nat.le_refl _, Nat.zero_le _, fun _ => rfl, .inl rfl⟩, .inl rfl⟩
  · simp only [List.cons.injEq, and_true] at h1
    have hlm : len ≤ m := by rw [hmm]; split <;> omega
    have each : ∀ i, i < len → ∃ b : α, w.cell? (a.add i) = some (f b) := fun i hi => by
      obtain ⟨cs', h2, h3⟩ := hx i (by omega)
      rw [hc, Nat.mul_one] at h2
      obtain ⟨z, rfl, _, hw⟩ := DataW.trod_int he h3
      obtain ⟨b, hb'⟩ := of _ hw
      exact ⟨b, by rw [cell_of_cells?_one h2, hb']⟩
    obtain ⟨F, hF⟩ := Deep.choose_lt (α := α) (p := fun i b => w.cell? (a.add i) = some (f b)) each
    have hll : ((List.range len).map F).length = len := by simp
    simp only [Prod.mk.injEq] at h2
    refine ⟨(List.range len).map F, ?_, .inr ⟨_, _, h2.1, by simp⟩⟩
    rw [hll]
    refine ⟨some a, cap, h1, hl, hm, (fun h => by cases h), ?_⟩
    by_cases hp : len = 0
    · left; subst hp; rfl
    · right
      obtain ⟨b, o, T, fr, all, rfl, h5, h6⟩ := row_of (w := w) (a := a) (cs := ((List.range len).map F).map f) (n := len) (by omega) (by simp) (fun i hi => by
        rw [hF i hi]; simp [hi])
      exact ⟨b, o, T, fr, all, rfl, h5, h6⟩
theorem opSV (ht : P.underlying t = some (.slice e)) (he : P.underlying e = some (.int .u64)) (hc : P.cellsOf e = 1) (hval : Value.okWide P w r b0 t v) (hd : DataW.Trod enc P w base spare held t v d ps) :
    ∃ l : List UInt64, RdV w v l ∧ (l = [] ∨ ∃ es sp, d = .slice es sp ∧ es.length = l.length) := opSlG (fun _ h => ofV h) ht he hc hval hd
theorem opSV_le {ts : List TypeId} {ds : List (DataW H)} {j : Nat} {l : List UInt64} (h : (DataW.weightsEach P ts ds).all (· ≤ reachBytes) = true) (ht : ts[j]? = some t) (hd : ds[j]? = some d)
    (hu : P.underlying t = some (.slice e)) (hb : P.bytesOf e = 8) (hl : l = [] ∨ ∃ es sp, d = .slice es sp ∧ es.length = l.length) : l.length ≤ 17592186043904 := by
  rcases hl with rfl | ⟨es, sp, rfl, hl⟩
  · simp
  · have := sized_slice h ht hd hu
    rw [hb] at this
    have h2 : reachBytes = 140737488351232 := by decide
    omega

/-- A slice of slices of bytes; how long each part is, is told by the reading. -/
theorem opSP (ht : P.underlying t = some (.slice e)) (he : P.underlying e = some (.slice u)) (hu : P.underlying u = some (.int .u8)) (hce : P.cellsOf e = 1) (hcu : P.cellsOf u = 1)
    (hval : Value.okWide P w r b0 t v) (hd : DataW.Trod enc P w base spare held t v d ps) :
    ∃ qs : List (Value × List UInt8), RdP w v qs ∧ (qs = [] ∨ ∃ es sp : List (DataW H), d = .slice es sp ∧ es.length = qs.length ∧ ∀ (i : Nat) (l : List UInt8), (qs.map (·.2))[i]? = some l → l = [] ∨ ∃ es' sp' : List (DataW H), es[i]? = some (DataW.slice es' sp') ∧ es'.length = l.length) := by
  obtain ⟨a, len, cap, rfl⟩ := okWide_slice ht hval
  obtain ⟨fu, hf⟩ := hd
  have h : DataW.trod enc P w base spare held fu t [.slice a len cap] = some (d, ps) := by simpa [Value.cells] using hf
  rcases Deep.open_slice1 ht hce h with ⟨h1, h2⟩ | ⟨a, len, cap, m, n, Vs, D, Pl, h1, hb, hl, hm, hmm, h2, hx⟩
  · simp only [List.cons.injEq, and_true] at h1
    exact ⟨[], ⟨⟨none, 0, h1, Nat.le_refl _, Nat.zero_le _, fun _ => rfl, .inl rfl⟩, by simp⟩, .inl rfl⟩
  · simp only [List.cons.injEq, and_true] at h1
    have hlm : len ≤ m := by rw [hmm]; split <;> omega
    have each : ∀ i, i < len → ∃ l : List UInt8, RdB w (Vs i) l ∧ (l = [] ∨ ∃ es sp, D i = .slice es sp ∧ es.length = l.length) := fun i hi => trodSl he hu hcu (hx i (by omega)).2
    obtain ⟨F, hF⟩ := Deep.choose_lt (α := List UInt8) (p := fun i l => RdB w (Vs i) l ∧ (l = [] ∨ ∃ es sp, D i = .slice es sp ∧ es.length = l.length)) each
    simp only [Prod.mk.injEq] at h2
    have hll : ((List.range len).map fun i => (Vs i, F i)).length = len := by simp
    refine ⟨(List.range len).map fun i => (Vs i, F i), ⟨?_, ?_⟩, .inr ⟨_, _, h2.1, by simp, ?_⟩⟩
    · rw [hll]
      refine ⟨some a, cap, h1, hl, hm, (fun h => by cases h), ?_⟩
      by_cases hp : len = 0
      · left; subst hp; rfl
      · right
        obtain ⟨b, o, T, fr, all, rfl, h5, h6⟩ := row_of (w := w) (a := a) (cs := ((List.range len).map fun i => (Vs i, F i)).map (·.1)) (n := len) (by omega) (by simp) (fun i hi => by
          rw [(hx i (by omega)).1]; simp [hi])
        exact ⟨b, o, T, fr, all, rfl, h5, h6⟩
    · intro q hq
      obtain ⟨i, hi, rfl⟩ := List.mem_map.1 hq
      exact (hF i (List.mem_range.1 hi)).1
    · intro i l hil
      rw [List.map_map, List.getElem?_map] at hil
      obtain ⟨j, hj, rfl⟩ := Option.map_eq_some_iff.1 hil
      have hjl : i < len := by have := (List.getElem?_eq_some_iff.1 hj).1; simpa using this
      have hji : j = i := by rw [List.getElem?_range hjl] at hj; exact (Option.some.inj hj).symm
      subst hji
      rcases (hF j hjl).2 with h7 | ⟨es', sp', h7, h8⟩
      · exact .inl h7
      · exact .inr ⟨es', sp', by rw [List.getElem?_map, List.getElem?_range hjl]; simpa using h7, h8⟩
end
end Go.Fw
