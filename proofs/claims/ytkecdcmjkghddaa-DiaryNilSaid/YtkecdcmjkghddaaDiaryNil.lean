/- DiaryNil: no diary, and devices that are too small, answer what the document says; so does the count of a record's sectors. -/
import Derived.Test.YtkecdcmjkghddaaDinKb
import Derived.Test.YtkecdcmjkghddaaRows
namespace Go.Proofs.Ytkecdcmjkghddaa.diaryNilDone
open Go.ChangeShapes Go.WideShapes Go.ChangeAt Go.RowKit Go Go.Fw Go.Proofs.Ytkecdcmjkghddaa
open Go.ChangeMaps (open_string shut_string)
set_option linter.unusedVariables false
set_option maxRecDepth 100000

theorem lifted (os : Os) (started : os.Started) (H : Type) (enc : TypeId × Value → H) :
    ReturnsInHanded {} Try.checked os 7 .any (Rows.diaryNilSpec.pre6 enc Try.prog Try.f7 Rows.diaryNilRow.domain false) (Rows.diaryNilSpec.post enc Try.prog Try.f7 false true false false) := by
  refine returnsInHanded_of_change_sized (C := Try.checked) ownK started (by kernel_rfl) Try.func7
    (ChangeSpec.witness6 (enc := enc) (C := Try.checked) false ⟨#[], #[.int .i64 0, .slice none 0 0], []⟩ 8 (by kernel_rfl) (by kernel_rfl) (by kernel_rfl) (by kernel_rfl)) ?_
  intro W base args ds gs before hval0 hW hcnd hsz _
  have hval : ∀ (j : Nat) t v, Try.f7.params[j]? = some t → args[j]? = some v → Value.okWide Try.prog W .any base t v := hval0
  have hW' := hW
  obtain ⟨p, q, hA0, hV, rfl, hfz, hnd⟩ := hW
  have hA : DataW.TrodAll enc Try.prog W 0 (fun _ => true) true Try.f7.params.toList args.toList ds p := hA0
  rw [Try.params7] at hA hval
  obtain ⟨v0, vs0, d0, ds0, p0, q0, hargs, rfl, rfl, h0, r0⟩ := trodAll_cons hA
  obtain ⟨v1, vs1, d1, ds1, p1, q1, rfl, rfl, rfl, h1, r1⟩ := trodAll_cons r0
  obtain ⟨rfl, rfl, rfl⟩ := trodAll_nil r1
  obtain rfl : args = #[v0, v1] := by cases args; simp_all
  obtain ⟨rfl, rfl⟩ := trodVars_none hV
  clear hA0 hval0
  have k0 := h0
  have lt0 : ∀ x ∈ p0, x.block < W.heap.size := by obtain ⟨m, hm⟩ := k0; exact DataW.trod_lt m _ _ _ hm
  have k1 := h1
  have lt1 : ∀ x ∈ p1, x.block < W.heap.size := by obtain ⟨m, hm⟩ := k1; exact DataW.trod_lt m _ _ _ hm
  obtain ⟨n0, rfl, hn0⟩ := opI un3 (hval 0 3 v0 rfl rfl) h0
  obtain ⟨l1, rr1, g1⟩ := opSl un38 un5 (by kernel_rfl) (hval 1 38 v1 rfl rfl) h1
  have hz1 := opSl_le (j := 1) hsz rfl rfl un38 (by kernel_rfl) g1
  refine Calls.mono (law_DiaryNil n0 v1 W) fun e W' ⟨v, he, hf, hv⟩ => ?_
  subst he hv
  exact ⟨_, rfl, _, _, _, [], _, [], hW', trodAll_mk1 (shut_bool Try.underlying4 _), (trodAll_cons_mk (Below.trod laid (by kernel_rfl) (of_decide_eq_true (by kernel_rfl)) k0 (Fr.below hf) lt0) (trodAll_cons_mk (Below.trod laid (by kernel_rfl) (of_decide_eq_true (by kernel_rfl)) k1 (Fr.below hf) lt1) trodAll_mk0)), rfl, (Fr.below hf).frame _, fun h => by cases h⟩

theorem named : Try.pinned.checked.prog.funcNamed Rows.diaryNilRow.func = some 7 := by kernel_rfl
theorem q1 : (Rows.diaryNilRow.inPlace == Try.prog.inPlace 7) = true := by kernel_rfl
theorem q2 : (Rows.diaryNilRow.unfollowed == Try.prog.unfollowed 7) = true := by kernel_rfl
theorem q3 : (Rows.diaryNilRow.recurses == Try.prog.recurses 7) = true := by kernel_rfl
theorem q4 : rowB true Try.prog 7 Try.f7 Rows.diaryNilSpec Rows.diaryNilRow = true := by kernel_rfl
theorem inst : Try.f7.isInstance Try.pinned.checked.prog Rows.diaryNilRow.origin Rows.diaryNilRow.targs := of_decide_eq_true (by kernel_rfl)
theorem wrap : Try.f7.isWrapper Try.pinned.checked.prog Rows.diaryNilRow.wrapper Rows.diaryNilRow.mainSum := by unfold Func.isWrapper; first | (rw [if_pos (by decide +kernel)]; kernel_rfl) | (rw [if_neg (by decide +kernel)]; exact ⟨rfl, rfl⟩)
theorem over : Rows.diaryNilRow.holds Try.pinned (OpenSpec.ofChange Rows.diaryNilSpec) :=
  OpenClaim.holds_of_wide 7 Try.f7 rfl rfl rfl rfl rfl rfl rfl ⟨rfl, rfl, rfl, rfl, rfl⟩ rfl rfl rfl rfl rfl named Try.func7 (joined_of whole q1 q2 q3 q4)
    inst wrap (fun os started H enc _ => lifted os started H enc)

/-- THE STATEMENT. -/
theorem proved : Rows.DiaryNilSaid := over
#print axioms proved
end Go.Proofs.Ytkecdcmjkghddaa.diaryNilDone
