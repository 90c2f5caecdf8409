/- GroveNil: a nil tree has neither leaf nor path nor root. -/
import Derived.Test.YtmgnnclkjkbmdaaGroveSetKd
import Derived.Test.YtmgnnclkjkbmdaaRows
namespace Go.Proofs.Ytmgnnclkjkbmdaa.groveNilDone
open Go.ChangeShapes Go.WideShapes Go.ChangeAt Go.RowKit Go Go.Fw Go.Proofs.Ytmgnnclkjkbmdaa
open Go.ChangeMaps (open_string shut_string)
set_option linter.unusedVariables false
set_option maxRecDepth 100000

theorem lifted (os : Os) (started : os.Started) (H : Type) (enc : TypeId × Value → H) :
    ReturnsInHanded {} Try.checked os 20 .any (Rows.groveNilSpec.pre6 enc Try.prog Try.f20 Rows.groveNilRow.domain false) (Rows.groveNilSpec.post enc Try.prog Try.f20 false true false false) := by
  refine returnsInHanded_of_change_sized (C := Try.checked) ownK started (by kernel_rfl) Try.func20
    (ChangeSpec.witness6 (enc := enc) (C := Try.checked) false ⟨#[], #[.int .i64 0], []⟩ 8 (by kernel_rfl) (by kernel_rfl) (by kernel_rfl) (by kernel_rfl)) ?_
  intro W base args ds gs before hval0 hW hcnd hsz _
  have hval : ∀ (j : Nat) t v, Try.f20.params[j]? = some t → args[j]? = some v → Value.okWide Try.prog W .any base t v := hval0
  have hW' := hW
  obtain ⟨p, q, hA0, hV, rfl, hfz, hnd⟩ := hW
  have hA : DataW.TrodAll enc Try.prog W 0 (fun _ => true) true Try.f20.params.toList args.toList ds p := hA0
  rw [Try.params20] at hA hval
  obtain ⟨v0, vs0, d0, ds0, p0, q0, hargs, rfl, rfl, h0, r0⟩ := trodAll_cons hA
  obtain ⟨rfl, rfl, rfl⟩ := trodAll_nil r0
  obtain rfl : args = #[v0] := by cases args; simp_all
  obtain ⟨rfl, rfl⟩ := trodVars_none hV
  clear hA0 hval0
  have k0 := h0
  have lt0 : ∀ x ∈ p0, x.block < W.heap.size := by obtain ⟨m, hm⟩ := k0; exact DataW.trod_lt m _ _ _ hm
  obtain ⟨n0, rfl, hn0⟩ := opI un3 (hval 0 3 v0 rfl rfl) h0
  refine Calls.mono (law_GroveNil n0 W) fun e W' ⟨v, he, hf, hv⟩ => ?_
  subst he hv
  exact ⟨_, rfl, _, _, _, [], _, [], hW', trodAll_mk1 (shut_bool Try.underlying4 _), (trodAll_cons_mk (Below.trod laid (by kernel_rfl) (of_decide_eq_true (by kernel_rfl)) k0 (Fr.below hf) lt0) trodAll_mk0), rfl, (Fr.below hf).frame _, fun h => by cases h⟩

theorem named : Try.pinned.checked.prog.funcNamed Rows.groveNilRow.func = some 20 := by kernel_rfl
theorem q1 : (Rows.groveNilRow.inPlace == Try.prog.inPlace 20) = true := by kernel_rfl
theorem q2 : (Rows.groveNilRow.unfollowed == Try.prog.unfollowed 20) = true := by kernel_rfl
theorem q3 : (Rows.groveNilRow.recurses == Try.prog.recurses 20) = true := by kernel_rfl
theorem q4 : rowB Try.prog 20 Try.f20 Rows.groveNilSpec Rows.groveNilRow = true := by kernel_rfl
theorem inst : Try.f20.isInstance Try.pinned.checked.prog Rows.groveNilRow.origin Rows.groveNilRow.targs := of_decide_eq_true (by kernel_rfl)
theorem wrap : Try.f20.isWrapper Try.pinned.checked.prog Rows.groveNilRow.wrapper Rows.groveNilRow.mainSum := by unfold Func.isWrapper; first | (rw [if_pos (by decide +kernel)]; kernel_rfl) | (rw [if_neg (by decide +kernel)]; exact ⟨rfl, rfl⟩)
theorem over : Rows.groveNilRow.holds Try.pinned (OpenSpec.ofChange Rows.groveNilSpec) :=
  OpenClaim.holds_of_wide 20 Try.f20 rfl rfl rfl rfl rfl rfl rfl ⟨rfl, rfl, rfl, rfl, rfl⟩ rfl rfl rfl rfl rfl named Try.func20 (joined_of whole q1 q2 q3 q4)
    inst wrap (fun os started H enc _ => lifted os started H enc)

/-- THE STATEMENT. -/
theorem proved : Rows.GroveNilSaid := over
#print axioms proved
end Go.Proofs.Ytmgnnclkjkbmdaa.groveNilDone
