/- TruthJudges: whatever was shown, whatever seeds are known: any claim with any credential is judged as the document says. -/
import Derived.Test.YtklajbdbnnceiaaGreatJdgKe
import Derived.Test.YtklajbdbnnceiaaGreatRows
namespace Go.Proofs.YtklajbdbnnceiaaGreat.truthJudgesDone
open Go.ChangeShapes Go.WideShapes Go.ChangeAt Go.RowKit Go Go.Fw Go.Proofs.YtklajbdbnnceiaaGreat
open Go.ChangeMaps (open_string shut_string)
set_option linter.unusedVariables false
set_option maxRecDepth 100000

theorem lifted (os : Os) (started : os.Started) (H : Type) (enc : TypeId × Value → H) :
    ReturnsInHanded {} Tryz.checked os 8 .any (Rows.truthJudgesSpec.pre6 enc Tryz.prog Tryz.f8 Rows.truthJudgesRow.domain false) (Rows.truthJudgesSpec.post enc Tryz.prog Tryz.f8 false true false false) := by
  refine returnsInHanded_of_change_sized (C := Tryz.checked) ownK started (by kernel_rfl) Tryz.func8
    (ChangeSpec.witness6 (enc := enc) (C := Tryz.checked) false ⟨#[], #[.agg (Array.mk (List.replicate 3 (Value.int .i64 0))), .agg (Array.mk (List.replicate 32 (Value.int .u8 0))), .slice none 0 0, .agg (Array.mk ([Value.int .i64 0] ++ List.replicate 2 (Value.int .u32 0) ++ List.replicate 2 (Value.int .i64 0))), .agg (Array.mk (List.replicate 16 (Value.int .u8 0) ++ List.replicate 2 (Value.slice none 0 0))), .bool false], []⟩ 8 (by kernel_rfl) (by kernel_rfl) (by kernel_rfl) (by kernel_rfl)) ?_
  intro W base args ds gs before hval0 hW hcnd hsz _
  have hval : ∀ (j : Nat) t v, Tryz.f8.params[j]? = some t → args[j]? = some v → Value.okWide Tryz.prog W .any base t v := hval0
  have hW' := hW
  obtain ⟨p, q, hA0, hV, rfl, hfz, hnd⟩ := hW
  have hA : DataW.TrodAll enc Tryz.prog W 0 (fun _ => true) true Tryz.f8.params.toList args.toList ds p := hA0
  rw [Tryz.params8] at hA hval
  obtain ⟨v0, vs0, d0, ds0, p0, q0, hargs, rfl, rfl, h0, r0⟩ := trodAll_cons hA
  obtain ⟨v1, vs1, d1, ds1, p1, q1, rfl, rfl, rfl, h1, r1⟩ := trodAll_cons r0
  obtain ⟨v2, vs2, d2, ds2, p2, q2, rfl, rfl, rfl, h2, r2⟩ := trodAll_cons r1
  obtain ⟨v3, vs3, d3, ds3, p3, q3, rfl, rfl, rfl, h3, r3⟩ := trodAll_cons r2
  obtain ⟨v4, vs4, d4, ds4, p4, q4, rfl, rfl, rfl, h4, r4⟩ := trodAll_cons r3
  obtain ⟨v5, vs5, d5, ds5, p5, q5, rfl, rfl, rfl, h5, r5⟩ := trodAll_cons r4
  obtain ⟨rfl, rfl, rfl⟩ := trodAll_nil r5
  obtain rfl : args = #[v0, v1, v2, v3, v4, v5] := by cases args; simp_all
  obtain ⟨rfl, rfl⟩ := trodVars_none hV
  clear hA0 hval0
  have k0 := h0
  have lt0 : ∀ x ∈ p0, x.block < W.heap.size := by obtain ⟨m, hm⟩ := k0; exact DataW.trod_lt m _ _ _ hm
  have k1 := h1
  have lt1 : ∀ x ∈ p1, x.block < W.heap.size := by obtain ⟨m, hm⟩ := k1; exact DataW.trod_lt m _ _ _ hm
  have k2 := h2
  have lt2 : ∀ x ∈ p2, x.block < W.heap.size := by obtain ⟨m, hm⟩ := k2; exact DataW.trod_lt m _ _ _ hm
  have k3 := h3
  have lt3 : ∀ x ∈ p3, x.block < W.heap.size := by obtain ⟨m, hm⟩ := k3; exact DataW.trod_lt m _ _ _ hm
  have k4 := h4
  have lt4 : ∀ x ∈ p4, x.block < W.heap.size := by obtain ⟨m, hm⟩ := k4; exact DataW.trod_lt m _ _ _ hm
  have k5 := h5
  have lt5 : ∀ x ∈ p5, x.block < W.heap.size := by obtain ⟨m, hm⟩ := k5; exact DataW.trod_lt m _ _ _ hm
  obtain ⟨a0, b0, c0, rfl, ha0, hb0, hc0⟩ := opIII Tryz.underlying23 (by kernel_rfl) (by kernel_rfl) (by kernel_rfl) rfl rfl rfl (by kernel_rfl) (by kernel_rfl) (by kernel_rfl) (by kernel_rfl) (hval 0 23 v0 rfl rfl) h0
  obtain ⟨l1, hl1, rfl⟩ := opA un24 un5 (by kernel_rfl) (by kernel_rfl) (hval 1 24 v1 rfl rfl) h1
  obtain ⟨ops2, hops2, hq2⟩ := opSG (α := Opr) (f := Opr.c) (p := fun y => okC y.x) (m := 6) un99 (by kernel_rfl) (by decide) (fun fu cs x h => by
    obtain ⟨k, n, ep, sq, i, j, he, hb⟩ := trodIIK Tryz.underlying114 (by kernel_rfl) Tryz.underlying54 (by kernel_rfl) Tryz.underlying52 (by kernel_rfl) (by kernel_rfl) (by kernel_rfl) (by kernel_rfl) rfl rfl rfl rfl rfl rfl rfl rfl (by kernel_rfl) (by kernel_rfl) (by kernel_rfl) (by kernel_rfl) (by kernel_rfl) (by kernel_rfl) (by kernel_rfl) (by kernel_rfl) (by kernel_rfl) h
    exact ⟨⟨k, ⟨n, ep, sq, i, j⟩⟩, he, rfl, hb⟩) (hval 2 99 v2 rfl rfl) h2
  obtain ⟨d3, ep3, sq3, mt3, sn3, rfl, hd3, hmt3, hsn3⟩ := opIK Tryz.underlying54 (by kernel_rfl) Tryz.underlying52 (by kernel_rfl) (by kernel_rfl) (by kernel_rfl) (by kernel_rfl) rfl rfl rfl rfl rfl rfl (by kernel_rfl) (by kernel_rfl) (by kernel_rfl) (by kernel_rfl) (by kernel_rfl) (by kernel_rfl) (by kernel_rfl) (hval 3 54 v3 rfl rfl) h3
  obtain ⟨lf4, ws4, ps4, nw4, np4, wv4, pv4, hlf4, rfl, hwl4, hpl4, hqw4, hqp4⟩ := opCr Tryz.underlying66 un35 un47 un47 un35 un5 rfl rfl rfl (by kernel_rfl) (by kernel_rfl) (by kernel_rfl) (by kernel_rfl) (by kernel_rfl) (by kernel_rfl) (hval 4 66 v4 rfl rfl) h4
  obtain ⟨b5, rfl⟩ := opBool un4 (hval 5 4 v5 rfl rfl)
  refine Calls.mono (law_TruthJudges a0 b0 c0 d3 mt3 sn3 ep3 sq3 l1 lf4 ws4 ps4 nw4 np4 wv4 pv4 b5 ops2 v2 hl1 hlf4 hwl4 hpl4 hd3 W hq2 hqw4 hqp4) fun e W' ⟨v, he, hf, hv⟩ => ?_
  subst he hv
  exact ⟨_, rfl, _, _, _, [], _, [], hW', trodAll_mk1 (shut_bool Tryz.underlying4 _), (trodAll_cons_mk (Below.trod laid (by kernel_rfl) (of_decide_eq_true (by kernel_rfl)) k0 (Fr.below hf) lt0) (trodAll_cons_mk (Below.trod laid (by kernel_rfl) (of_decide_eq_true (by kernel_rfl)) k1 (Fr.below hf) lt1) (trodAll_cons_mk (Below.trod laid (by kernel_rfl) (of_decide_eq_true (by kernel_rfl)) k2 (Fr.below hf) lt2) (trodAll_cons_mk (Below.trod laid (by kernel_rfl) (of_decide_eq_true (by kernel_rfl)) k3 (Fr.below hf) lt3) (trodAll_cons_mk (Below.trod laid (by kernel_rfl) (of_decide_eq_true (by kernel_rfl)) k4 (Fr.below hf) lt4) (trodAll_cons_mk (Below.trod laid (by kernel_rfl) (of_decide_eq_true (by kernel_rfl)) k5 (Fr.below hf) lt5) trodAll_mk0)))))), rfl, (Fr.below hf).frame _, fun h => by cases h⟩

theorem named : Tryz.pinned.checked.prog.funcNamed Rows.truthJudgesRow.func = some 8 := by kernel_rfl
theorem q1 : (Rows.truthJudgesRow.inPlace == Tryz.prog.inPlace 8) = true := by kernel_rfl
theorem q2 : (Rows.truthJudgesRow.unfollowed == Tryz.prog.unfollowed 8) = true := by kernel_rfl
theorem q3 : (Rows.truthJudgesRow.recurses == Tryz.prog.recurses 8) = true := by kernel_rfl
theorem q4 : rowB false Tryz.prog 8 Tryz.f8 Rows.truthJudgesSpec Rows.truthJudgesRow = true := by kernel_rfl
theorem inst : Tryz.f8.isInstance Tryz.pinned.checked.prog Rows.truthJudgesRow.origin Rows.truthJudgesRow.targs := of_decide_eq_true (by kernel_rfl)
theorem wrap : Tryz.f8.isWrapper Tryz.pinned.checked.prog Rows.truthJudgesRow.wrapper Rows.truthJudgesRow.mainSum := by unfold Func.isWrapper; first | (rw [if_pos (by decide +kernel)]; kernel_rfl) | (rw [if_neg (by decide +kernel)]; exact ⟨rfl, rfl⟩)
theorem over : Rows.truthJudgesRow.holds Tryz.pinned (OpenSpec.ofChange Rows.truthJudgesSpec) :=
  OpenClaim.holds_of_wide 8 Tryz.f8 rfl rfl rfl rfl rfl rfl rfl ⟨rfl, rfl, rfl, rfl, rfl⟩ rfl rfl rfl rfl rfl named Tryz.func8 (joined_of whole q1 q2 q3 q4)
    inst wrap (fun os started H enc _ => lifted os started H enc)

/-- THE STATEMENT. -/
theorem proved : Rows.TruthJudgesSaid := over
#print axioms proved
end Go.Proofs.YtklajbdbnnceiaaGreat.truthJudgesDone
