/- What an argument is, read off the statement's own reading of it. -/
import Derived.Test.YtmgnnclkjkbmdaaFw14
import Derived.WalkKit
import Derived.ProofKit
import Derived.OpenShut
import Derived.ShutString
import Derived.ChangeOld
import Derived.SizedLaws
import Derived.Deep.Slices
set_option linter.unusedSimpArgs false
set_option linter.unusedVariables false
namespace Go.Fw
open Go Go.ChangeShapes Go.WideShapes Go.ChangeAt Go.RowKit

theorem ofB {n : Int} (h : (Lit.int .u8 n).wf = true) : ∃ b : UInt8, Value.int .u8 n = B b := by
  obtain ⟨h0, h1⟩ := bounds_u8 h
  exact ⟨i8 n, by unfold B; rw [i8_toNat]; congr 1; omega⟩
theorem ofU {n : Int} (h : (Lit.int .u32 n).wf = true) : ∃ b : UInt32, Value.int .u32 n = U b := by
  obtain ⟨h0, h1⟩ := bounds_u32 h
  exact ⟨i32 n, by unfold U; rw [i32_toNat]; congr 1; omega⟩
theorem ofV {n : Int} (h : (Lit.int .u64 n).wf = true) : ∃ b : UInt64, Value.int .u64 n = V b := by
  obtain ⟨h0, h1⟩ := bounds_u64 h
  exact ⟨i64 n, by unfold V; rw [i64_toNat]; congr 1; omega⟩

theorem ofBs : ∀ {cs : List Value}, (∀ v ∈ cs, ∃ b : UInt8, v = B b) → ∃ l : List UInt8, cs = l.map B
  | [], _ => ⟨[], rfl⟩
  | v :: t, h => by
    obtain ⟨b, rfl⟩ := h v (by simp)
    obtain ⟨l, rfl⟩ := ofBs (cs := t) fun v hv => h v (by simp [hv])
    exact ⟨b :: l, rfl⟩

section
variable {H : Type} {enc : TypeId × Value → H} {P : Program} {w : World} {base : Nat} {spare : Nat → Bool} {held : Bool} {fuel : Nat} {t e : TypeId} {cs : List Value} {x : DataW H × List MemPlace} {v : Value} {d : DataW H} {ps : List MemPlace} {r : Reach} {b0 : Nat}

theorem opB (ht : P.underlying t = some (.int .u8)) (hval : Value.okWide P w r b0 t v) (hd : DataW.Trod enc P w base spare held t v d ps) : ∃ b : UInt8, v = B b := by
  obtain ⟨n, rfl, _, _, hw⟩ := open_int ht hval hd
  exact ofB hw
theorem opU (ht : P.underlying t = some (.int .u32)) (hval : Value.okWide P w r b0 t v) (hd : DataW.Trod enc P w base spare held t v d ps) : ∃ b : UInt32, v = U b := by
  obtain ⟨n, rfl, _, _, hw⟩ := open_int ht hval hd
  exact ofU hw
theorem opV (ht : P.underlying t = some (.int .u64)) (hval : Value.okWide P w r b0 t v) (hd : DataW.Trod enc P w base spare held t v d ps) : ∃ b : UInt64, v = V b := by
  obtain ⟨n, rfl, _, _, hw⟩ := open_int ht hval hd
  exact ofV hw
theorem opI (ht : P.underlying t = some (.int .i64)) (hval : Value.okWide P w r b0 t v) (hd : DataW.Trod enc P w base spare held t v d ps) : ∃ n : Int, v = I n ∧ -9223372036854775808 ≤ n ∧ n ≤ 9223372036854775807 := by
  obtain ⟨n, rfl, _, _, hw⟩ := open_int ht hval hd
  exact ⟨n, rfl, bounds_i64 hw⟩
theorem opBool (ht : P.underlying t = some .bool) (hval : Value.okWide P w r b0 t v) : ∃ b : Bool, v = .bool b := okWide_bool ht hval

/-- The cells of an array of bytes. -/
theorem trodBs {n : Nat} (ht : P.underlying t = some (.array n e)) (he : P.underlying e = some (.int .u8)) (hc : P.cellsOf e = 1) (hn : P.cellsOf t = n)
    (h : DataW.trod enc P w base spare held fuel t cs = some x) : ∃ l : List UInt8, l.length = n ∧ cs = l.map B := by
  obtain ⟨xs, m, _, _, hl, hxl, hx⟩ := DataW.trod_array ht h
  obtain ⟨l, rfl⟩ := ofBs (cs := cs) fun u hu => by
    obtain ⟨i, hi, rfl⟩ := List.getElem_of_mem hu
    have h1 := hx i (by omega)
    rw [hc, Nat.mul_one] at h1
    rw [List.getElem?_eq_getElem (by omega)] at h1
    obtain ⟨z, hz, _, hw⟩ := DataW.trod_int he h1
    have h2 : (cs.drop i).take 1 = [cs[i]] := by rw [List.drop_eq_getElem_cons hi]; rfl
    rw [h2] at hz
    simp only [List.cons.injEq, and_true] at hz
    rw [hz]
    exact ofB hw
  exact ⟨l, by simpa [hn] using hl, rfl⟩

theorem okWide_array {n : Nat} (ht : P.underlying t = some (.array n e)) (h : Value.okWide P w r b0 t v) : ∃ cs, v = .agg cs ∧ cs.size = P.cellsOf t := by
  simp only [Value.okWide, ht] at h
  obtain ⟨cs, h1, h2, _⟩ := h
  exact ⟨cs, h1, h2⟩

theorem opA {n : Nat} (ht : P.underlying t = some (.array n e)) (he : P.underlying e = some (.int .u8)) (hc : P.cellsOf e = 1) (hn : P.cellsOf t = n)
    (hval : Value.okWide P w r b0 t v) (hd : DataW.Trod enc P w base spare held t v d ps) : ∃ l : List UInt8, l.length = n ∧ v = .agg (l.map B).toArray := by
  obtain ⟨cs, rfl, _⟩ := okWide_array ht hval
  obtain ⟨f, hf⟩ := hd
  obtain ⟨l, hl, hcs⟩ := trodBs ht he hc hn hf
  refine ⟨l, hl, ?_⟩
  simp only [Value.cells] at hcs
  rw [← hcs]

theorem row_of {a : Addr} {n : Nat} (hp : 0 < n) (hcs : cs.length = n) (h : ∀ i, i < n → w.cell? (a.add i) = cs[i]?) :
    ∃ b o T fr all, a = ⟨b, o, none⟩ ∧ w.heap[b]? = some (.cells all T fr) ∧ (all.toList.drop o).take cs.length = cs := by
  have h0 := h 0 hp
  rw [List.getElem?_eq_getElem (by omega)] at h0
  have hs := World.cell?_spot h0
  obtain ⟨b, o, s⟩ := a
  have hs' : s = none := by simpa [Addr.add] using hs
  subst hs'
  have hcell : ∀ i, i < n → w.cell? ⟨b, o + i, none⟩ = cs[i]? := fun i hi => by
    have := h i hi
    simp only [Addr.add] at this
    by_cases e : i = 0
    · subst e; simpa using this
    · simpa [e] using this
  have h1 := hcell 0 hp
  rw [List.getElem?_eq_getElem (by omega)] at h1
  unfold World.cell? at h1 hcell
  simp only at h1 hcell
  cases hb : w.heap[b]? with
  | none => rw [hb] at h1; simp at h1
  | some ob =>
    cases ob with
    | cells all T fr =>
      refine ⟨b, o, T, fr, all, rfl, by rw [hb], ?_⟩
      have hh : ∀ i, i < n → all[o + i]? = cs[i]? := fun i hi => by have := hcell i hi; rw [hb] at this; simpa using this
      refine List.ext_getElem? fun i => ?_
      by_cases hi : i < n
      · rw [List.getElem?_take_of_lt (by omega), List.getElem?_drop]
        simpa using hh i hi
      · rw [List.getElem?_eq_none (by simp; omega), List.getElem?_eq_none (by omega)]
    | _ => rw [hb] at h1; simp at h1

/-- A slice of bytes. -/
theorem trodSl (ht : P.underlying t = some (.slice e)) (he : P.underlying e = some (.int .u8)) (hc : P.cellsOf e = 1) 
    (h : DataW.trod enc P w base spare held fuel t [v] = some x) : ∃ l : List UInt8, RdB w v l ∧ (l = [] ∨ ∃ es sp, x.1 = .slice es sp ∧ es.length = l.length) := by
  rcases Deep.open_slice ht h with ⟨h1, rfl⟩ | ⟨a, len, cap, m, n, D, Pl, h1, hb, hl, hm, hmm, rfl, hx⟩
  · simp only [List.cons.injEq, and_true] at h1
    exact ⟨[], ⟨none, 0, h1, Nat.le_refl _, Nat.zero_le _, fun _ => rfl, .inl rfl⟩, .inl rfl⟩
  · simp only [List.cons.injEq, and_true] at h1
    have hlm : len ≤ m := by rw [hmm]; split <;> omega
    have each : ∀ i, i < len → ∃ b : UInt8, w.cell? (a.add i) = some (B b) := fun i hi => by
      obtain ⟨cs', h2, h3⟩ := hx i (by omega)
      rw [hc, Nat.mul_one] at h2
      obtain ⟨z, rfl, _, hw⟩ := DataW.trod_int he h3
      obtain ⟨b, hb'⟩ := ofB hw
      exact ⟨b, by rw [cell_of_cells?_one h2, hb']⟩
    obtain ⟨f, hf⟩ := Deep.choose_lt (α := UInt8) (p := fun i b => w.cell? (a.add i) = some (B b)) each
    have hll : ((List.range len).map f).length = len := by simp
    refine ⟨(List.range len).map f, ?_, .inr ⟨_, _, rfl, by simp⟩⟩
    unfold RdB
    rw [hll]
    refine ⟨some a, cap, h1, hl, hm, (fun h => by cases h), ?_⟩
    by_cases hp : len = 0
    · left; subst hp; rfl
    · right
      obtain ⟨b, o, T, fr, all, rfl, h5, h6⟩ := row_of (w := w) (a := a) (cs := ((List.range len).map f).map B) (n := len) (by omega) (by simp) (fun i hi => by
        rw [hf i hi]; simp [hi])
      exact ⟨b, o, T, fr, all, rfl, h5, h6⟩

theorem opSl (ht : P.underlying t = some (.slice e)) (he : P.underlying e = some (.int .u8)) (hc : P.cellsOf e = 1) 
    (hval : Value.okWide P w r b0 t v) (hd : DataW.Trod enc P w base spare held t v d ps) : ∃ l : List UInt8, RdB w v l ∧ (l = [] ∨ ∃ es sp, d = .slice es sp ∧ es.length = l.length) := by
  obtain ⟨a, len, cap, rfl⟩ := okWide_slice ht hval
  obtain ⟨f, hf⟩ := hd
  exact trodSl ht he hc (by simpa [Value.cells] using hf)

/-- .. as long as the reach lets it be. -/
theorem opSl_le {ts : List TypeId} {ds : List (DataW H)} {j : Nat} {l : List UInt8} (h : (DataW.weightsEach P ts ds).all (· ≤ reachBytes) = true) (ht : ts[j]? = some t) (hd : ds[j]? = some d)
    (hu : P.underlying t = some (.slice e)) (hb : P.bytesOf e = 1) (hl : l = [] ∨ ∃ es sp, d = .slice es sp ∧ es.length = l.length) : l.length ≤ 140737488351232 := by
  rcases hl with rfl | ⟨es, sp, rfl, hl⟩
  · simp
  · have := sized_slice h ht hd hu
    rw [hb] at this
    have h2 : reachBytes = 140737488351232 := by decide
    omega

end
end Go.Fw
