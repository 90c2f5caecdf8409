/- GroveLeads: the path of each leaf leads to the root. -/
import Derived.Test.YtmgnnclkjkbmdaaGroveSetKd
import Derived.Test.YtmgnnclkjkbmdaaRows
namespace Go.Proofs.Ytmgnnclkjkbmdaa.groveLeadsDone
open Go.ChangeShapes Go.WideShapes Go.ChangeAt Go.RowKit Go Go.Fw Go.Proofs.Ytmgnnclkjkbmdaa
open Go.ChangeMaps (open_string shut_string)
set_option linter.unusedVariables false
set_option maxRecDepth 100000

theorem lifted (os : Os) (started : os.Started) (H : Type) (enc : TypeId × Value → H) :
    ReturnsInHanded {} Try.checked os 27 .any (Rows.groveLeadsSpec.pre6 enc Try.prog Try.f27 Rows.groveLeadsRow.domain false) (Rows.groveLeadsSpec.post enc Try.prog Try.f27 false true false false) := by
  refine returnsInHanded_of_change_sized (C := Try.checked) ownK started (by kernel_rfl) Try.func27
    (ChangeSpec.witness6 (enc := enc) (C := Try.checked) false ⟨#[], #[.int .i64 0, .int .u32 0, .slice none 0 0], []⟩ 8 (by kernel_rfl) (by kernel_rfl) (by kernel_rfl) (by kernel_rfl)) ?_
  intro W base args ds gs before hval0 hW hcnd hsz _
  have hval : ∀ (j : Nat) t v, Try.f27.params[j]? = some t → args[j]? = some v → Value.okWide Try.prog W .any base t v := hval0
  have hW' := hW
  obtain ⟨p, q, hA0, hV, rfl, hfz, hnd⟩ := hW
  have hA : DataW.TrodAll enc Try.prog W 0 (fun _ => true) true Try.f27.params.toList args.toList ds p := hA0
  rw [Try.params27] at hA hval
  obtain ⟨v0, vs0, d0, ds0, p0, q0, hargs, rfl, rfl, h0, r0⟩ := trodAll_cons hA
  obtain ⟨v1, vs1, d1, ds1, p1, q1, rfl, rfl, rfl, h1, r1⟩ := trodAll_cons r0
  obtain ⟨v2, vs2, d2, ds2, p2, q2, rfl, rfl, rfl, h2, r2⟩ := trodAll_cons r1
  obtain ⟨rfl, rfl, rfl⟩ := trodAll_nil r2
  obtain rfl : args = #[v0, v1, v2] := by cases args; simp_all
  obtain ⟨rfl, rfl⟩ := trodVars_none hV
  clear hA0 hval0
  have k0 := h0
  have lt0 : ∀ x ∈ p0, x.block < W.heap.size := by obtain ⟨m, hm⟩ := k0; exact DataW.trod_lt m _ _ _ hm
  have k1 := h1
  have lt1 : ∀ x ∈ p1, x.block < W.heap.size := by obtain ⟨m, hm⟩ := k1; exact DataW.trod_lt m _ _ _ hm
  have k2 := h2
  have lt2 : ∀ x ∈ p2, x.block < W.heap.size := by obtain ⟨m, hm⟩ := k2; exact DataW.trod_lt m _ _ _ hm
  obtain ⟨n0, rfl, hn0⟩ := opI un3 (hval 0 3 v0 rfl rfl) h0
  obtain ⟨b1, rfl⟩ := opU un27 (hval 1 27 v1 rfl rfl) h1
  obtain ⟨n2, w2, hw2, rr2⟩ := opSA un109 un22 un5 (by kernel_rfl) (by kernel_rfl) (by decide) (hval 2 109 v2 rfl rfl) h2
  refine Calls.mono (law_GroveLeads n0 b1 n2 w2 v2 hw2 W rr2) fun e W' ⟨v, he, hf, hv⟩ => ?_
  subst he hv
  exact ⟨_, rfl, _, _, _, [], _, [], hW', trodAll_mk1 (shut_bool Try.underlying4 _), (trodAll_cons_mk (Below.trod laid (by kernel_rfl) (of_decide_eq_true (by kernel_rfl)) k0 (Fr.below hf) lt0) (trodAll_cons_mk (Below.trod laid (by kernel_rfl) (of_decide_eq_true (by kernel_rfl)) k1 (Fr.below hf) lt1) (trodAll_cons_mk (Below.trod laid (by kernel_rfl) (of_decide_eq_true (by kernel_rfl)) k2 (Fr.below hf) lt2) trodAll_mk0))), rfl, (Fr.below hf).frame _, fun h => by cases h⟩

theorem named : Try.pinned.checked.prog.funcNamed Rows.groveLeadsRow.func = some 27 := by kernel_rfl
theorem q1 : (Rows.groveLeadsRow.inPlace == Try.prog.inPlace 27) = true := by kernel_rfl
theorem q2 : (Rows.groveLeadsRow.unfollowed == Try.prog.unfollowed 27) = true := by kernel_rfl
theorem q3 : (Rows.groveLeadsRow.recurses == Try.prog.recurses 27) = true := by kernel_rfl
theorem q4 : rowB Try.prog 27 Try.f27 Rows.groveLeadsSpec Rows.groveLeadsRow = true := by kernel_rfl
theorem inst : Try.f27.isInstance Try.pinned.checked.prog Rows.groveLeadsRow.origin Rows.groveLeadsRow.targs := of_decide_eq_true (by kernel_rfl)
theorem wrap : Try.f27.isWrapper Try.pinned.checked.prog Rows.groveLeadsRow.wrapper Rows.groveLeadsRow.mainSum := by unfold Func.isWrapper; first | (rw [if_pos (by decide +kernel)]; kernel_rfl) | (rw [if_neg (by decide +kernel)]; exact ⟨rfl, rfl⟩)
theorem over : Rows.groveLeadsRow.holds Try.pinned (OpenSpec.ofChange Rows.groveLeadsSpec) :=
  OpenClaim.holds_of_wide 27 Try.f27 rfl rfl rfl rfl rfl rfl rfl ⟨rfl, rfl, rfl, rfl, rfl⟩ rfl rfl rfl rfl rfl named Try.func27 (joined_of whole q1 q2 q3 q4)
    inst wrap (fun os started H enc _ => lifted os started H enc)

/-- THE STATEMENT. -/
theorem proved : Rows.GroveLeadsSaid := over
#print axioms proved
end Go.Proofs.Ytmgnnclkjkbmdaa.groveLeadsDone
