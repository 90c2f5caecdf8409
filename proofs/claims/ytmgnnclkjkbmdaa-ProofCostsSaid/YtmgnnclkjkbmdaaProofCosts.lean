/- ProofCosts: whether any claim may be, and how many blocks checks take, is the answer of the document; none takes more than the worst one. -/
import Derived.Test.YtmgnnclkjkbmdaaPrfCostsKd
import Derived.Test.YtmgnnclkjkbmdaaRows
namespace Go.Proofs.Ytmgnnclkjkbmdaa.proofCostsDone
open Go.ChangeShapes Go.WideShapes Go.ChangeAt Go.RowKit Go Go.Fw Go.Proofs.Ytmgnnclkjkbmdaa
open Go.ChangeMaps (open_string shut_string)
set_option linter.unusedVariables false
set_option maxRecDepth 100000

theorem lifted (os : Os) (started : os.Started) (H : Type) (enc : TypeId × Value → H) :
    ReturnsInHanded {} Try.checked os 33 .any (Rows.proofCostsSpec.pre6 enc Try.prog Try.f33 Rows.proofCostsRow.domain false) (Rows.proofCostsSpec.post enc Try.prog Try.f33 false true false false) := by
  refine returnsInHanded_of_change_sized (C := Try.checked) ownK started (by kernel_rfl) Try.func33
    (ChangeSpec.witness6 (enc := enc) (C := Try.checked) false ⟨#[], #[.agg (Array.mk (List.replicate 3 (Value.int .i64 0))), .agg (Array.mk ([Value.int .i64 0] ++ List.replicate 2 (Value.int .u32 0) ++ List.replicate 2 (Value.int .i64 0))), .int .i64 0, .int .i64 0], []⟩ 8 (by kernel_rfl) (by kernel_rfl) (by kernel_rfl) (by kernel_rfl)) ?_
  intro W base args ds gs before hval0 hW hcnd hsz _
  have hval : ∀ (j : Nat) t v, Try.f33.params[j]? = some t → args[j]? = some v → Value.okWide Try.prog W .any base t v := hval0
  have hW' := hW
  obtain ⟨p, q, hA0, hV, rfl, hfz, hnd⟩ := hW
  have hA : DataW.TrodAll enc Try.prog W 0 (fun _ => true) true Try.f33.params.toList args.toList ds p := hA0
  rw [Try.params33] at hA hval
  obtain ⟨v0, vs0, d0, ds0, p0, q0, hargs, rfl, rfl, h0, r0⟩ := trodAll_cons hA
  obtain ⟨v1, vs1, d1, ds1, p1, q1, rfl, rfl, rfl, h1, r1⟩ := trodAll_cons r0
  obtain ⟨v2, vs2, d2, ds2, p2, q2, rfl, rfl, rfl, h2, r2⟩ := trodAll_cons r1
  obtain ⟨v3, vs3, d3, ds3, p3, q3, rfl, rfl, rfl, h3, r3⟩ := trodAll_cons r2
  obtain ⟨rfl, rfl, rfl⟩ := trodAll_nil r3
  obtain rfl : args = #[v0, v1, v2, v3] := by cases args; simp_all
  obtain ⟨rfl, rfl⟩ := trodVars_none hV
  clear hA0 hval0
  have k0 := h0
  have lt0 : ∀ x ∈ p0, x.block < W.heap.size := by obtain ⟨m, hm⟩ := k0; exact DataW.trod_lt m _ _ _ hm
  have k1 := h1
  have lt1 : ∀ x ∈ p1, x.block < W.heap.size := by obtain ⟨m, hm⟩ := k1; exact DataW.trod_lt m _ _ _ hm
  have k2 := h2
  have lt2 : ∀ x ∈ p2, x.block < W.heap.size := by obtain ⟨m, hm⟩ := k2; exact DataW.trod_lt m _ _ _ hm
  have k3 := h3
  have lt3 : ∀ x ∈ p3, x.block < W.heap.size := by obtain ⟨m, hm⟩ := k3; exact DataW.trod_lt m _ _ _ hm
  obtain ⟨a0, b0, c0, rfl, ha0, hb0, hc0⟩ := opIII Try.underlying158 (by kernel_rfl) (by kernel_rfl) (by kernel_rfl) rfl rfl rfl (by kernel_rfl) (by kernel_rfl) (by kernel_rfl) (by kernel_rfl) (hval 0 158 v0 rfl rfl) h0
  obtain ⟨d1, ep1, sq1, mt1, sn1, rfl, hd1, hmt1, hsn1⟩ := opIK Try.underlying178 (by kernel_rfl) Try.underlying176 (by kernel_rfl) (by kernel_rfl) (by kernel_rfl) (by kernel_rfl) rfl rfl rfl rfl rfl rfl (by kernel_rfl) (by kernel_rfl) (by kernel_rfl) (by kernel_rfl) (by kernel_rfl) (by kernel_rfl) (by kernel_rfl) (hval 1 178 v1 rfl rfl) h1
  obtain ⟨n2, rfl, hn2⟩ := opI un3 (hval 2 3 v2 rfl rfl) h2
  obtain ⟨n3, rfl, hn3⟩ := opI un3 (hval 3 3 v3 rfl rfl) h3
  refine Calls.mono (law_ProofCosts a0 b0 c0 d1 mt1 sn1 n2 n3 ep1 sq1 W) fun e W' ⟨v, he, hf, hv⟩ => ?_
  subst he hv
  exact ⟨_, rfl, _, _, _, [], _, [], hW', trodAll_mk1 (shut_bool Try.underlying4 _), (trodAll_cons_mk (Below.trod laid (by kernel_rfl) (of_decide_eq_true (by kernel_rfl)) k0 (Fr.below hf) lt0) (trodAll_cons_mk (Below.trod laid (by kernel_rfl) (of_decide_eq_true (by kernel_rfl)) k1 (Fr.below hf) lt1) (trodAll_cons_mk (Below.trod laid (by kernel_rfl) (of_decide_eq_true (by kernel_rfl)) k2 (Fr.below hf) lt2) (trodAll_cons_mk (Below.trod laid (by kernel_rfl) (of_decide_eq_true (by kernel_rfl)) k3 (Fr.below hf) lt3) trodAll_mk0)))), rfl, (Fr.below hf).frame _, fun h => by cases h⟩

theorem named : Try.pinned.checked.prog.funcNamed Rows.proofCostsRow.func = some 33 := by kernel_rfl
theorem q1 : (Rows.proofCostsRow.inPlace == Try.prog.inPlace 33) = true := by kernel_rfl
theorem q2 : (Rows.proofCostsRow.unfollowed == Try.prog.unfollowed 33) = true := by kernel_rfl
theorem q3 : (Rows.proofCostsRow.recurses == Try.prog.recurses 33) = true := by kernel_rfl
theorem q4 : rowB Try.prog 33 Try.f33 Rows.proofCostsSpec Rows.proofCostsRow = true := by kernel_rfl
theorem inst : Try.f33.isInstance Try.pinned.checked.prog Rows.proofCostsRow.origin Rows.proofCostsRow.targs := of_decide_eq_true (by kernel_rfl)
theorem wrap : Try.f33.isWrapper Try.pinned.checked.prog Rows.proofCostsRow.wrapper Rows.proofCostsRow.mainSum := by unfold Func.isWrapper; first | (rw [if_pos (by decide +kernel)]; kernel_rfl) | (rw [if_neg (by decide +kernel)]; exact ⟨rfl, rfl⟩)
theorem over : Rows.proofCostsRow.holds Try.pinned (OpenSpec.ofChange Rows.proofCostsSpec) :=
  OpenClaim.holds_of_wide 33 Try.f33 rfl rfl rfl rfl rfl rfl rfl ⟨rfl, rfl, rfl, rfl, rfl⟩ rfl rfl rfl rfl rfl named Try.func33 (joined_of whole q1 q2 q3 q4)
    inst wrap (fun os started H enc _ => lifted os started H enc)

/-- THE STATEMENT. -/
theorem proved : Rows.ProofCostsSaid := over
#print axioms proved
end Go.Proofs.Ytmgnnclkjkbmdaa.proofCostsDone
