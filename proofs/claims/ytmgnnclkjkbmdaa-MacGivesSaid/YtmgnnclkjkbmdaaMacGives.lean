/- MacGives: what any seed gives, for any kind and numbers, is the answer of the document. -/
import Derived.Test.YtmgnnclkjkbmdaaRows
import Derived.Test.YtmgnnclkjkbmdaaClosed
import Derived.Test.YtmgnnclkjkbmdaaFw15
import Derived.Test.YtmgnnclkjkbmdaaFw22
import Derived.Test.YtmgnnclkjkbmdaaMacLawsB
namespace Go.Proofs.Ytmgnnclkjkbmdaa.macGivesDone
open Go.ChangeShapes Go.WideShapes Go.ChangeAt Go.RowKit Go Go.Fw Go.Proofs.Ytmgnnclkjkbmdaa
open Go.ChangeMaps (open_string shut_string)
set_option linter.unusedVariables false
set_option maxRecDepth 100000

theorem lifted (os : Os) (started : os.Started) (H : Type) (enc : TypeId × Value → H) :
    ReturnsInHanded {} Try.checked os 21 .any (Rows.macGivesSpec.pre6 enc Try.prog Try.f21 Rows.macGivesRow.domain false) (Rows.macGivesSpec.post enc Try.prog Try.f21 false true false false) := by
  refine returnsInHanded_of_change_sized (C := Try.checked) ownK started (by kernel_rfl) Try.func21
    (ChangeSpec.witness6 (enc := enc) (C := Try.checked) false ⟨#[], #[.agg (Array.mk (List.replicate 32 (Value.int .u8 0))), .int .u8 0, .slice none 0 0], []⟩ 8 (by kernel_rfl) (by kernel_rfl) (by kernel_rfl) (by kernel_rfl)) ?_
  intro W base args ds gs before hval0 hW hcnd hsz _
  have hval : ∀ (j : Nat) t v, Try.f21.params[j]? = some t → args[j]? = some v → Value.okWide Try.prog W .any base t v := hval0
  have hW' := hW
  obtain ⟨p, q, hA0, hV, rfl, hfz, hnd⟩ := hW
  have hA : DataW.TrodAll enc Try.prog W 0 (fun _ => true) true Try.f21.params.toList args.toList ds p := hA0
  rw [Try.params21] at hA hval
  obtain ⟨v0, vs0, d0, ds0, p0, q0, hargs, rfl, rfl, h0, r0⟩ := trodAll_cons hA
  obtain ⟨v1, vs1, d1, ds1, p1, q1, rfl, rfl, rfl, h1, r1⟩ := trodAll_cons r0
  obtain ⟨v2, vs2, d2, ds2, p2, q2, rfl, rfl, rfl, h2, r2⟩ := trodAll_cons r1
  obtain ⟨rfl, rfl, rfl⟩ := trodAll_nil r2
  obtain rfl : args = #[v0, v1, v2] := by cases args; simp_all
  obtain ⟨rfl, rfl⟩ := trodVars_none hV
  clear hA0 hval0
  have k0 := h0
  have lt0 : ∀ x ∈ p0, x.block < W.heap.size := by obtain ⟨m, hm⟩ := k0; exact DataW.trod_lt m _ _ _ hm
  have k1 := h1
  have lt1 : ∀ x ∈ p1, x.block < W.heap.size := by obtain ⟨m, hm⟩ := k1; exact DataW.trod_lt m _ _ _ hm
  have k2 := h2
  have lt2 : ∀ x ∈ p2, x.block < W.heap.size := by obtain ⟨m, hm⟩ := k2; exact DataW.trod_lt m _ _ _ hm
  obtain ⟨l0, hl0, rfl⟩ := opA un40 un5 (by kernel_rfl) (by kernel_rfl) (hval 0 40 v0 rfl rfl) h0
  obtain ⟨b1, rfl⟩ := opB un5 (hval 1 5 v1 rfl rfl) h1
  obtain ⟨l2, r2, g2⟩ := opSV un124 un210 (by kernel_rfl) (hval 2 124 v2 rfl rfl) h2
  have hz2 := opSV_le (j := 2) hsz rfl rfl un124 (by kernel_rfl) g2
  refine Calls.mono (law_MacGives l0 b1 l2 v2 hl0 (by omega) W r2) fun e W' ⟨v, he, hf, hv⟩ => ?_
  subst he hv
  exact ⟨_, rfl, _, _, _, [], _, [], hW', trodAll_mk1 (shut_bool Try.underlying4 _), (trodAll_cons_mk (Below.trod laid (by kernel_rfl) (of_decide_eq_true (by kernel_rfl)) k0 (Fr.below hf) lt0) (trodAll_cons_mk (Below.trod laid (by kernel_rfl) (of_decide_eq_true (by kernel_rfl)) k1 (Fr.below hf) lt1) (trodAll_cons_mk (Below.trod laid (by kernel_rfl) (of_decide_eq_true (by kernel_rfl)) k2 (Fr.below hf) lt2) trodAll_mk0))), rfl, (Fr.below hf).frame _, fun h => by cases h⟩

theorem named : Try.pinned.checked.prog.funcNamed Rows.macGivesRow.func = some 21 := by kernel_rfl
theorem q1 : (Rows.macGivesRow.inPlace == Try.prog.inPlace 21) = true := by kernel_rfl
theorem q2 : (Rows.macGivesRow.unfollowed == Try.prog.unfollowed 21) = true := by kernel_rfl
theorem q3 : (Rows.macGivesRow.recurses == Try.prog.recurses 21) = true := by kernel_rfl
theorem q4 : rowB Try.prog 21 Try.f21 Rows.macGivesSpec Rows.macGivesRow = true := by kernel_rfl
theorem inst : Try.f21.isInstance Try.pinned.checked.prog Rows.macGivesRow.origin Rows.macGivesRow.targs := of_decide_eq_true (by kernel_rfl)
theorem wrap : Try.f21.isWrapper Try.pinned.checked.prog Rows.macGivesRow.wrapper Rows.macGivesRow.mainSum := by unfold Func.isWrapper; first | (rw [if_pos (by decide +kernel)]; kernel_rfl) | (rw [if_neg (by decide +kernel)]; exact ⟨rfl, rfl⟩)
theorem over : Rows.macGivesRow.holds Try.pinned (OpenSpec.ofChange Rows.macGivesSpec) :=
  OpenClaim.holds_of_wide 21 Try.f21 rfl rfl rfl rfl rfl rfl rfl ⟨rfl, rfl, rfl, rfl, rfl⟩ rfl rfl rfl rfl rfl named Try.func21 (joined_of whole q1 q2 q3 q4)
    inst wrap (fun os started H enc _ => lifted os started H enc)

/-- THE STATEMENT. -/
theorem proved : Rows.MacGivesSaid := over
#print axioms proved
end Go.Proofs.Ytmgnnclkjkbmdaa.macGivesDone
