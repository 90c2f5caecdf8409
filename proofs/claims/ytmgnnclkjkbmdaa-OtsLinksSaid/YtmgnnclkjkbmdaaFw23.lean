/- Openings of small structs. -/
import Derived.Test.YtmgnnclkjkbmdaaFw22
import Derived.ChangeSame
import Derived.Deep.Strs
set_option linter.unusedSimpArgs false
set_option linter.unusedVariables false
namespace Go.Fw
open Go Go.ChangeShapes Go.WideShapes Go.ChangeAt Go.RowKit
section
variable {H : Type} {enc : TypeId × Value → H} {P : Program} {w : World} {base : Nat} {spare : Nat → Bool} {held : Bool} {fuel : Nat} {t e u : TypeId} {cs : List Value} {x : DataW H × List MemPlace} {v : Value} {d : DataW H} {ps : List MemPlace} {r : Reach} {b0 : Nat}
theorem opIU {f0 f1 : Field} (ht : P.underlying t = some (.struct #[f0, f1])) (h0 : P.underlying f0.type = some (.int .i64)) (h1 : P.underlying f1.type = some (.int .u32)) (o0 : f0.offset = 0) (o1 : f1.offset = 1)
    (c0 : P.cellsOf f0.type = 1) (c1 : P.cellsOf f1.type = 1) (ct : P.cellsOf t = 2) (hval : Value.okWide P w r b0 t v) (hd : DataW.Trod enc P w base spare held t v d ps) :
    ∃ (n : Int) (i : UInt32), v = .agg #[I n, U i] ∧ -9223372036854775808 ≤ n ∧ n ≤ 9223372036854775807 := by
  obtain ⟨cs, rfl, _⟩ := okWide_struct ht hval
  obtain ⟨fu, hf⟩ := hd
  obtain ⟨y0, y1, n, _, hl, hy0, hy1⟩ := Go.ChangeShapes.trod_struct2 ht hf
  simp only [Value.cells] at hl hy0 hy1
  rw [ct] at hl
  match hcs : cs.toList, hl with
  | [a, b], _ =>
    rw [hcs, o0, c0] at hy0
    rw [hcs, o1, c1] at hy1
    obtain ⟨z, hz, _, hw⟩ := DataW.trod_int h0 hy0
    obtain ⟨z1, hz1, _, hw1⟩ := DataW.trod_int h1 hy1
    simp at hz hz1
    subst hz hz1
    obtain ⟨i, hi⟩ := ofU hw1
    refine ⟨z, i, ?_, bounds_i64 hw⟩
    rw [← hi]
    congr 1
    apply Array.ext'
    rw [hcs]
theorem opIUU {f0 f1 f2 : Field} (ht : P.underlying t = some (.struct #[f0, f1, f2])) (h0 : P.underlying f0.type = some (.int .i64)) (h1 : P.underlying f1.type = some (.int .u32)) (h2 : P.underlying f2.type = some (.int .u32)) (o0 : f0.offset = 0) (o1 : f1.offset = 1) (o2 : f2.offset = 2)
    (c0 : P.cellsOf f0.type = 1) (c1 : P.cellsOf f1.type = 1) (c2 : P.cellsOf f2.type = 1) (ct : P.cellsOf t = 3) (hval : Value.okWide P w r b0 t v) (hd : DataW.Trod enc P w base spare held t v d ps) :
    ∃ (n : Int) (i j : UInt32), v = .agg #[I n, U i, U j] ∧ -9223372036854775808 ≤ n ∧ n ≤ 9223372036854775807 := by
  obtain ⟨cs, rfl, _⟩ := okWide_struct ht hval
  obtain ⟨fu, hf⟩ := hd
  obtain ⟨y0, y1, y2, n, _, hl, hy0, hy1, hy2⟩ := Go.Deep.trod_struct3 ht hf
  simp only [Value.cells] at hl hy0 hy1 hy2
  rw [ct] at hl
  match hcs : cs.toList, hl with
  | [a, b, c], _ =>
    rw [hcs, o0, c0] at hy0
    rw [hcs, o1, c1] at hy1
    rw [hcs, o2, c2] at hy2
    obtain ⟨z, hz, _, hw⟩ := DataW.trod_int h0 hy0
    obtain ⟨z1, hz1, _, hw1⟩ := DataW.trod_int h1 hy1
    obtain ⟨z2, hz2, _, hw2⟩ := DataW.trod_int h2 hy2
    simp at hz hz1 hz2
    subst hz hz1 hz2
    obtain ⟨i, hi⟩ := ofU hw1
    obtain ⟨j, hj⟩ := ofU hw2
    refine ⟨z, i, j, ?_, bounds_i64 hw⟩
    rw [← hi, ← hj]
    congr 1
    apply Array.ext'
    rw [hcs]
end
end Go.Fw
