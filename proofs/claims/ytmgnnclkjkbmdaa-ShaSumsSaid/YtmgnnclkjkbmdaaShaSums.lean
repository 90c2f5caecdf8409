/- ShaSums: the sum of any bytes is the one that the standard gives. -/
import Derived.Test.YtmgnnclkjkbmdaaRows
import Derived.Test.YtmgnnclkjkbmdaaClosed
import Derived.Test.YtmgnnclkjkbmdaaFw15
import Derived.Test.YtmgnnclkjkbmdaaShaLawsA
namespace Go.Proofs.Ytmgnnclkjkbmdaa.shaSumsDone
open Go.ChangeShapes Go.WideShapes Go.ChangeAt Go.RowKit Go Go.Fw Go.Proofs.Ytmgnnclkjkbmdaa
open Go.ChangeMaps (open_string shut_string)
set_option linter.unusedVariables false
set_option maxRecDepth 100000

theorem lifted (os : Os) (started : os.Started) (H : Type) (enc : TypeId × Value → H) :
    ReturnsInHanded {} Try.checked os 5 .any (Rows.shaSumsSpec.pre6 enc Try.prog Try.f5 Rows.shaSumsRow.domain false) (Rows.shaSumsSpec.post enc Try.prog Try.f5 false true false false) := by
  refine returnsInHanded_of_change_sized (C := Try.checked) ownK started (by kernel_rfl) Try.func5
    (ChangeSpec.witness6 (enc := enc) (C := Try.checked) false ⟨#[], #[.slice none 0 0], []⟩ 8 (by kernel_rfl) (by kernel_rfl) (by kernel_rfl) (by kernel_rfl)) ?_
  intro W base args ds gs before hval0 hW hcnd hsz _
  have hval : ∀ (j : Nat) t v, Try.f5.params[j]? = some t → args[j]? = some v → Value.okWide Try.prog W .any base t v := hval0
  have hW' := hW
  obtain ⟨p, q, hA0, hV, rfl, hfz, hnd⟩ := hW
  have hA : DataW.TrodAll enc Try.prog W 0 (fun _ => true) true Try.f5.params.toList args.toList ds p := hA0
  rw [Try.params5] at hA hval
  obtain ⟨v0, vs0, d0, ds0, p0, q0, hargs, rfl, rfl, h0, r0⟩ := trodAll_cons hA
  obtain ⟨rfl, rfl, rfl⟩ := trodAll_nil r0
  obtain rfl : args = #[v0] := by cases args; simp_all
  obtain ⟨rfl, rfl⟩ := trodVars_none hV
  clear hA0 hval0
  have k0 := h0
  have lt0 : ∀ x ∈ p0, x.block < W.heap.size := by obtain ⟨m, hm⟩ := k0; exact DataW.trod_lt m _ _ _ hm
  obtain ⟨l0, r0, g0⟩ := opSl un34 un5 (by kernel_rfl) (hval 0 34 v0 rfl rfl) h0
  have hz0 := opSl_le (j := 0) hsz rfl rfl un34 (by kernel_rfl) g0
  refine Calls.mono (law_ShaSums l0 v0 hz0 W r0) fun e W' ⟨v, he, hf, hv⟩ => ?_
  subst he hv
  exact ⟨_, rfl, _, _, _, [], _, [], hW', trodAll_mk1 (shut_bool Try.underlying4 _), (trodAll_cons_mk (Below.trod laid (by kernel_rfl) (of_decide_eq_true (by kernel_rfl)) k0 (Fr.below hf) lt0) trodAll_mk0), rfl, (Fr.below hf).frame _, fun h => by cases h⟩

theorem named : Try.pinned.checked.prog.funcNamed Rows.shaSumsRow.func = some 5 := by kernel_rfl
theorem q1 : (Rows.shaSumsRow.inPlace == Try.prog.inPlace 5) = true := by kernel_rfl
theorem q2 : (Rows.shaSumsRow.unfollowed == Try.prog.unfollowed 5) = true := by kernel_rfl
theorem q3 : (Rows.shaSumsRow.recurses == Try.prog.recurses 5) = true := by kernel_rfl
theorem q4 : rowB Try.prog 5 Try.f5 Rows.shaSumsSpec Rows.shaSumsRow = true := by kernel_rfl
theorem inst : Try.f5.isInstance Try.pinned.checked.prog Rows.shaSumsRow.origin Rows.shaSumsRow.targs := of_decide_eq_true (by kernel_rfl)
theorem wrap : Try.f5.isWrapper Try.pinned.checked.prog Rows.shaSumsRow.wrapper Rows.shaSumsRow.mainSum := by unfold Func.isWrapper; first | (rw [if_pos (by decide +kernel)]; kernel_rfl) | (rw [if_neg (by decide +kernel)]; exact ⟨rfl, rfl⟩)
theorem over : Rows.shaSumsRow.holds Try.pinned (OpenSpec.ofChange Rows.shaSumsSpec) :=
  OpenClaim.holds_of_wide 5 Try.f5 rfl rfl rfl rfl rfl rfl rfl ⟨rfl, rfl, rfl, rfl, rfl⟩ rfl rfl rfl rfl rfl named Try.func5 (joined_of whole q1 q2 q3 q4)
    inst wrap (fun os started H enc _ => lifted os started H enc)

/-- THE STATEMENT. -/
theorem proved : Rows.ShaSumsSaid := over
#print axioms proved
end Go.Proofs.Ytmgnnclkjkbmdaa.shaSumsDone
