/- DiaryLasts: wherever power goes, and wherever a sector is torn: what was flushed is told, and some of what stood behind it. -/
import Derived.Test.YtkecdcmjkghddaaDilKc
import Derived.Test.YtkecdcmjkghddaaRows
namespace Go.Proofs.Ytkecdcmjkghddaa.diaryLastsDone
open Go.ChangeShapes Go.WideShapes Go.ChangeAt Go.RowKit Go Go.Fw Go.Proofs.Ytkecdcmjkghddaa
open Go.ChangeMaps (open_string shut_string)
set_option linter.unusedVariables false
set_option maxRecDepth 100000

theorem lifted (os : Os) (started : os.Started) (H : Type) (enc : TypeId × Value → H) :
    ReturnsInHanded {} Try.checked os 8 .any (Rows.diaryLastsSpec.pre6 enc Try.prog Try.f8 Rows.diaryLastsRow.domain false) (Rows.diaryLastsSpec.post enc Try.prog Try.f8 false true false false) := by
  refine returnsInHanded_of_change_sized (C := Try.checked) ownK started (by kernel_rfl) Try.func8
    (ChangeSpec.witness6 (enc := enc) (C := Try.checked) false ⟨#[], #[.slice none 0 0], []⟩ 8 (by kernel_rfl) (by kernel_rfl) (by kernel_rfl) (by kernel_rfl)) ?_
  intro W base args ds gs before hval0 hW hcnd hsz _
  have hval : ∀ (j : Nat) t v, Try.f8.params[j]? = some t → args[j]? = some v → Value.okWide Try.prog W .any base t v := hval0
  have hW' := hW
  obtain ⟨p, q, hA0, hV, rfl, hfz, hnd⟩ := hW
  have hA : DataW.TrodAll enc Try.prog W 0 (fun _ => true) true Try.f8.params.toList args.toList ds p := hA0
  rw [Try.params8] at hA hval
  obtain ⟨v0, vs0, d0, ds0, p0, q0, hargs, rfl, rfl, h0, r0⟩ := trodAll_cons hA
  obtain ⟨rfl, rfl, rfl⟩ := trodAll_nil r0
  obtain rfl : args = #[v0] := by cases args; simp_all
  obtain ⟨rfl, rfl⟩ := trodVars_none hV
  clear hA0 hval0
  have k0 := h0
  have lt0 : ∀ x ∈ p0, x.block < W.heap.size := by obtain ⟨m, hm⟩ := k0; exact DataW.trod_lt m _ _ _ hm
  obtain ⟨ops0, hops0, hq0⟩ := opSG (α := O15) (f := O15.c) (p := fun y => O15.Ok W y) (m := 70) un67 (by kernel_rfl) (by decide) (fun fu cs x h => by
    obtain ⟨k, pv, p, gen, rv, qs, n, a, b, he, hl, hp, hq, hn, ha⟩ := trod7 Try.underlying55 (by kernel_rfl) un38 (by kernel_rfl) un51 (by kernel_rfl) (by kernel_rfl) un28 un38 un5 rfl rfl rfl rfl rfl rfl rfl (by kernel_rfl) (by kernel_rfl) (by kernel_rfl) (by kernel_rfl) (by kernel_rfl) (by kernel_rfl) (by kernel_rfl) (by kernel_rfl) (by kernel_rfl) (by kernel_rfl) h
    exact ⟨⟨k, pv, p, gen, rv, qs, n, a, b⟩, he, O15.len hl, ⟨hl, hp, hq, hn, ha⟩⟩) (hval 0 67 v0 rfl rfl) h0
  refine Calls.mono (law_DiaryLasts ops0 v0 W (fun y hy => (hops0 y hy).2) hq0) fun e W' ⟨v, he, hf, hv⟩ => ?_
  subst he hv
  exact ⟨_, rfl, _, _, _, [], _, [], hW', trodAll_mk1 (shut_bool Try.underlying4 _), (trodAll_cons_mk (Below.trod laid (by kernel_rfl) (of_decide_eq_true (by kernel_rfl)) k0 (Fr.below hf) lt0) trodAll_mk0), rfl, (Fr.below hf).frame _, fun h => by cases h⟩

theorem named : Try.pinned.checked.prog.funcNamed Rows.diaryLastsRow.func = some 8 := by kernel_rfl
theorem q1 : (Rows.diaryLastsRow.inPlace == Try.prog.inPlace 8) = true := by kernel_rfl
theorem q2 : (Rows.diaryLastsRow.unfollowed == Try.prog.unfollowed 8) = true := by kernel_rfl
theorem q3 : (Rows.diaryLastsRow.recurses == Try.prog.recurses 8) = true := by kernel_rfl
theorem q4 : rowB true Try.prog 8 Try.f8 Rows.diaryLastsSpec Rows.diaryLastsRow = true := by kernel_rfl
theorem inst : Try.f8.isInstance Try.pinned.checked.prog Rows.diaryLastsRow.origin Rows.diaryLastsRow.targs := of_decide_eq_true (by kernel_rfl)
theorem wrap : Try.f8.isWrapper Try.pinned.checked.prog Rows.diaryLastsRow.wrapper Rows.diaryLastsRow.mainSum := by unfold Func.isWrapper; first | (rw [if_pos (by decide +kernel)]; kernel_rfl) | (rw [if_neg (by decide +kernel)]; exact ⟨rfl, rfl⟩)
theorem over : Rows.diaryLastsRow.holds Try.pinned (OpenSpec.ofChange Rows.diaryLastsSpec) :=
  OpenClaim.holds_of_wide 8 Try.f8 rfl rfl rfl rfl rfl rfl rfl ⟨rfl, rfl, rfl, rfl, rfl⟩ rfl rfl rfl rfl rfl named Try.func8 (joined_of whole q1 q2 q3 q4)
    inst wrap (fun os started H enc _ => lifted os started H enc)

/-- THE STATEMENT. -/
theorem proved : Rows.DiaryLastsSaid := over
#print axioms proved
end Go.Proofs.Ytkecdcmjkghddaa.diaryLastsDone
