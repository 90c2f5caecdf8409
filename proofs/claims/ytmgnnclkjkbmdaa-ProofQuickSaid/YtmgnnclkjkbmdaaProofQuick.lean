/- ProofQuick: what is taken by what is known is shown under the root, too. -/
import Derived.Test.YtmgnnclkjkbmdaaPrfQuickKd
import Derived.Test.YtmgnnclkjkbmdaaRows
namespace Go.Proofs.Ytmgnnclkjkbmdaa.proofQuickDone
open Go.ChangeShapes Go.WideShapes Go.ChangeAt Go.RowKit Go Go.Fw Go.Proofs.Ytmgnnclkjkbmdaa
open Go.ChangeMaps (open_string shut_string)
set_option linter.unusedVariables false
set_option maxRecDepth 100000

theorem lifted (os : Os) (started : os.Started) (H : Type) (enc : TypeId × Value → H) :
    ReturnsInHanded {} Try.checked os 35 .any (Rows.proofQuickSpec.pre6 enc Try.prog Try.f35 Rows.proofQuickRow.domain false) (Rows.proofQuickSpec.post enc Try.prog Try.f35 false true false false) := by
  refine returnsInHanded_of_change_sized (C := Try.checked) ownK started (by kernel_rfl) Try.func35
    (ChangeSpec.witness6 (enc := enc) (C := Try.checked) false ⟨#[], #[.agg (Array.mk (List.replicate 3 (Value.int .i64 0))), .agg (Array.mk (List.replicate 32 (Value.int .u8 0))), .agg (Array.mk ([Value.int .i64 0] ++ List.replicate 2 (Value.int .u32 0) ++ List.replicate 2 (Value.int .i64 0))), .int .i64 0, .int .i64 0, .int .u8 0], []⟩ 8 (by kernel_rfl) (by kernel_rfl) (by kernel_rfl) (by kernel_rfl)) ?_
  intro W base args ds gs before hval0 hW hcnd hsz _
  have hval : ∀ (j : Nat) t v, Try.f35.params[j]? = some t → args[j]? = some v → Value.okWide Try.prog W .any base t v := hval0
  have hW' := hW
  obtain ⟨p, q, hA0, hV, rfl, hfz, hnd⟩ := hW
  have hA : DataW.TrodAll enc Try.prog W 0 (fun _ => true) true Try.f35.params.toList args.toList ds p := hA0
  rw [Try.params35] at hA hval
  obtain ⟨v0, vs0, d0, ds0, p0, q0, hargs, rfl, rfl, h0, r0⟩ := trodAll_cons hA
  obtain ⟨v1, vs1, d1, ds1, p1, q1, rfl, rfl, rfl, h1, r1⟩ := trodAll_cons r0
  obtain ⟨v2, vs2, d2, ds2, p2, q2, rfl, rfl, rfl, h2, r2⟩ := trodAll_cons r1
  obtain ⟨v3, vs3, d3, ds3, p3, q3, rfl, rfl, rfl, h3, r3⟩ := trodAll_cons r2
  obtain ⟨v4, vs4, d4, ds4, p4, q4, rfl, rfl, rfl, h4, r4⟩ := trodAll_cons r3
  obtain ⟨v5, vs5, d5, ds5, p5, q5, rfl, rfl, rfl, h5, r5⟩ := trodAll_cons r4
  obtain ⟨rfl, rfl, rfl⟩ := trodAll_nil r5
  obtain rfl : args = #[v0, v1, v2, v3, v4, v5] := by cases args; simp_all
  obtain ⟨rfl, rfl⟩ := trodVars_none hV
  clear hA0 hval0
  have k0 := h0
  have lt0 : ∀ x ∈ p0, x.block < W.heap.size := by obtain ⟨m, hm⟩ := k0; exact DataW.trod_lt m _ _ _ hm
  have k1 := h1
  have lt1 : ∀ x ∈ p1, x.block < W.heap.size := by obtain ⟨m, hm⟩ := k1; exact DataW.trod_lt m _ _ _ hm
  have k2 := h2
  have lt2 : ∀ x ∈ p2, x.block < W.heap.size := by obtain ⟨m, hm⟩ := k2; exact DataW.trod_lt m _ _ _ hm
  have k3 := h3
  have lt3 : ∀ x ∈ p3, x.block < W.heap.size := by obtain ⟨m, hm⟩ := k3; exact DataW.trod_lt m _ _ _ hm
  have k4 := h4
  have lt4 : ∀ x ∈ p4, x.block < W.heap.size := by obtain ⟨m, hm⟩ := k4; exact DataW.trod_lt m _ _ _ hm
  have k5 := h5
  have lt5 : ∀ x ∈ p5, x.block < W.heap.size := by obtain ⟨m, hm⟩ := k5; exact DataW.trod_lt m _ _ _ hm
  obtain ⟨a0, b0, c0, rfl, ha0, hb0, hc0⟩ := opIII Try.underlying158 (by kernel_rfl) (by kernel_rfl) (by kernel_rfl) rfl rfl rfl (by kernel_rfl) (by kernel_rfl) (by kernel_rfl) (by kernel_rfl) (hval 0 158 v0 rfl rfl) h0
  obtain ⟨l1, hl1, rfl⟩ := opA un40 un5 (by kernel_rfl) (by kernel_rfl) (hval 1 40 v1 rfl rfl) h1
  obtain ⟨d2, ep2, sq2, mt2, sn2, rfl, hd2, hmt2, hsn2⟩ := opIK Try.underlying178 (by kernel_rfl) Try.underlying176 (by kernel_rfl) (by kernel_rfl) (by kernel_rfl) (by kernel_rfl) rfl rfl rfl rfl rfl rfl (by kernel_rfl) (by kernel_rfl) (by kernel_rfl) (by kernel_rfl) (by kernel_rfl) (by kernel_rfl) (by kernel_rfl) (hval 2 178 v2 rfl rfl) h2
  obtain ⟨n3, rfl, hn3⟩ := opI un3 (hval 3 3 v3 rfl rfl) h3
  obtain ⟨n4, rfl, hn4⟩ := opI un3 (hval 4 3 v4 rfl rfl) h4
  obtain ⟨b5, rfl⟩ := opB un5 (hval 5 5 v5 rfl rfl) h5
  refine Calls.mono (law_ProofQuick a0 b0 c0 d2 mt2 sn2 n3 n4 ep2 sq2 b5 l1 hl1 W) fun e W' ⟨v, he, hf, hv⟩ => ?_
  subst he hv
  exact ⟨_, rfl, _, _, _, [], _, [], hW', trodAll_mk1 (shut_bool Try.underlying4 _), (trodAll_cons_mk (Below.trod laid (by kernel_rfl) (of_decide_eq_true (by kernel_rfl)) k0 (Fr.below hf) lt0) (trodAll_cons_mk (Below.trod laid (by kernel_rfl) (of_decide_eq_true (by kernel_rfl)) k1 (Fr.below hf) lt1) (trodAll_cons_mk (Below.trod laid (by kernel_rfl) (of_decide_eq_true (by kernel_rfl)) k2 (Fr.below hf) lt2) (trodAll_cons_mk (Below.trod laid (by kernel_rfl) (of_decide_eq_true (by kernel_rfl)) k3 (Fr.below hf) lt3) (trodAll_cons_mk (Below.trod laid (by kernel_rfl) (of_decide_eq_true (by kernel_rfl)) k4 (Fr.below hf) lt4) (trodAll_cons_mk (Below.trod laid (by kernel_rfl) (of_decide_eq_true (by kernel_rfl)) k5 (Fr.below hf) lt5) trodAll_mk0)))))), rfl, (Fr.below hf).frame _, fun h => by cases h⟩

theorem named : Try.pinned.checked.prog.funcNamed Rows.proofQuickRow.func = some 35 := by kernel_rfl
theorem q1 : (Rows.proofQuickRow.inPlace == Try.prog.inPlace 35) = true := by kernel_rfl
theorem q2 : (Rows.proofQuickRow.unfollowed == Try.prog.unfollowed 35) = true := by kernel_rfl
theorem q3 : (Rows.proofQuickRow.recurses == Try.prog.recurses 35) = true := by kernel_rfl
theorem q4 : rowB Try.prog 35 Try.f35 Rows.proofQuickSpec Rows.proofQuickRow = true := by kernel_rfl
theorem inst : Try.f35.isInstance Try.pinned.checked.prog Rows.proofQuickRow.origin Rows.proofQuickRow.targs := of_decide_eq_true (by kernel_rfl)
theorem wrap : Try.f35.isWrapper Try.pinned.checked.prog Rows.proofQuickRow.wrapper Rows.proofQuickRow.mainSum := by unfold Func.isWrapper; first | (rw [if_pos (by decide +kernel)]; kernel_rfl) | (rw [if_neg (by decide +kernel)]; exact ⟨rfl, rfl⟩)
theorem over : Rows.proofQuickRow.holds Try.pinned (OpenSpec.ofChange Rows.proofQuickSpec) :=
  OpenClaim.holds_of_wide 35 Try.f35 rfl rfl rfl rfl rfl rfl rfl ⟨rfl, rfl, rfl, rfl, rfl⟩ rfl rfl rfl rfl rfl named Try.func35 (joined_of whole q1 q2 q3 q4)
    inst wrap (fun os started H enc _ => lifted os started H enc)

/-- THE STATEMENT. -/
theorem proved : Rows.ProofQuickSaid := over
#print axioms proved
end Go.Proofs.Ytmgnnclkjkbmdaa.proofQuickDone
