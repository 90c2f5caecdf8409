/- TruthPasses: what is shown is passed on, rung by rung, by whomever, and is Fair; whatever else is shown under the root is Fair or Guessed, or two unlike texts have one short sum. -/
import Derived.Test.YtklajbdbnnceiaaGreatPasKf
import Derived.Test.YtklajbdbnnceiaaGreatRows
namespace Go.Proofs.YtklajbdbnnceiaaGreat.truthPassesDone
open Go.ChangeShapes Go.WideShapes Go.ChangeAt Go.RowKit Go Go.Fw Go.Proofs.YtklajbdbnnceiaaGreat
open Go.ChangeMaps (open_string shut_string)
set_option linter.unusedVariables false
set_option maxRecDepth 100000

theorem lifted (os : Os) (started : os.Started) (H : Type) (enc : TypeId × Value → H) :
    ReturnsInHanded {} Tryz.checked os 10 .any (Rows.truthPassesSpec.pre6 enc Tryz.prog Tryz.f10 Rows.truthPassesRow.domain false) (Rows.truthPassesSpec.post enc Tryz.prog Tryz.f10 false true false false) := by
  refine returnsInHanded_of_change_sized (C := Tryz.checked) ownK started (by kernel_rfl) Tryz.func10
    (ChangeSpec.witness6 (enc := enc) (C := Tryz.checked) false ⟨#[], #[.agg (Array.mk (List.replicate 3 (Value.int .i64 0))), .agg (Array.mk (List.replicate 32 (Value.int .u8 0))), .agg (Array.mk ([Value.int .i64 0] ++ List.replicate 2 (Value.int .u32 0) ++ List.replicate 2 (Value.int .i64 0))), .slice none 0 0, .agg (Array.mk (List.replicate 16 (Value.int .u8 0) ++ List.replicate 2 (Value.slice none 0 0)))], []⟩ 8 (by kernel_rfl) (by kernel_rfl) (by kernel_rfl) (by kernel_rfl)) ?_
  intro W base args ds gs before hval0 hW hcnd hsz _
  have hval : ∀ (j : Nat) t v, Tryz.f10.params[j]? = some t → args[j]? = some v → Value.okWide Tryz.prog W .any base t v := hval0
  have hW' := hW
  obtain ⟨p, q, hA0, hV, rfl, hfz, hnd⟩ := hW
  have hA : DataW.TrodAll enc Tryz.prog W 0 (fun _ => true) true Tryz.f10.params.toList args.toList ds p := hA0
  rw [Tryz.params10] at hA hval
  obtain ⟨v0, vs0, d0, ds0, p0, q0, hargs, rfl, rfl, h0, r0⟩ := trodAll_cons hA
  obtain ⟨v1, vs1, d1, ds1, p1, q1, rfl, rfl, rfl, h1, r1⟩ := trodAll_cons r0
  obtain ⟨v2, vs2, d2, ds2, p2, q2, rfl, rfl, rfl, h2, r2⟩ := trodAll_cons r1
  obtain ⟨v3, vs3, d3, ds3, p3, q3, rfl, rfl, rfl, h3, r3⟩ := trodAll_cons r2
  obtain ⟨v4, vs4, d4, ds4, p4, q4, rfl, rfl, rfl, h4, r4⟩ := trodAll_cons r3
  obtain ⟨rfl, rfl, rfl⟩ := trodAll_nil r4
  obtain rfl : args = #[v0, v1, v2, v3, v4] := by cases args; simp_all
  obtain ⟨rfl, rfl⟩ := trodVars_none hV
  clear hA0 hval0
  have k0 := h0
  have lt0 : ∀ x ∈ p0, x.block < W.heap.size := by obtain ⟨m, hm⟩ := k0; exact DataW.trod_lt m _ _ _ hm
  have k1 := h1
  have lt1 : ∀ x ∈ p1, x.block < W.heap.size := by obtain ⟨m, hm⟩ := k1; exact DataW.trod_lt m _ _ _ hm
  have k2 := h2
  have lt2 : ∀ x ∈ p2, x.block < W.heap.size := by obtain ⟨m, hm⟩ := k2; exact DataW.trod_lt m _ _ _ hm
  have k3 := h3
  have lt3 : ∀ x ∈ p3, x.block < W.heap.size := by obtain ⟨m, hm⟩ := k3; exact DataW.trod_lt m _ _ _ hm
  have k4 := h4
  have lt4 : ∀ x ∈ p4, x.block < W.heap.size := by obtain ⟨m, hm⟩ := k4; exact DataW.trod_lt m _ _ _ hm
  obtain ⟨a0, b0, c0, rfl, ha0, hb0, hc0⟩ := opIII Tryz.underlying23 (by kernel_rfl) (by kernel_rfl) (by kernel_rfl) rfl rfl rfl (by kernel_rfl) (by kernel_rfl) (by kernel_rfl) (by kernel_rfl) (hval 0 23 v0 rfl rfl) h0
  obtain ⟨l1, hl1, rfl⟩ := opA un24 un5 (by kernel_rfl) (by kernel_rfl) (hval 1 24 v1 rfl rfl) h1
  obtain ⟨d2, ep2, sq2, mt2, sn2, rfl, hd2, hmt2, hsn2⟩ := opIK Tryz.underlying54 (by kernel_rfl) Tryz.underlying52 (by kernel_rfl) (by kernel_rfl) (by kernel_rfl) (by kernel_rfl) rfl rfl rfl rfl rfl rfl (by kernel_rfl) (by kernel_rfl) (by kernel_rfl) (by kernel_rfl) (by kernel_rfl) (by kernel_rfl) (by kernel_rfl) (hval 2 54 v2 rfl rfl) h2
  obtain ⟨ids3, rr3⟩ := opSI Tryz.underlying126 (by kernel_rfl) (by kernel_rfl) (hval 3 126 v3 rfl rfl) h3
  obtain ⟨lf4, ws4, ps4, nw4, np4, wv4, pv4, hlf4, rfl, hwl4, hpl4, hqw4, hqp4⟩ := opCr Tryz.underlying66 un35 un47 un47 un35 un5 rfl rfl rfl (by kernel_rfl) (by kernel_rfl) (by kernel_rfl) (by kernel_rfl) (by kernel_rfl) (by kernel_rfl) (hval 4 66 v4 rfl rfl) h4
  refine Calls.mono (law_TruthPasses a0 b0 c0 d2 mt2 sn2 ep2 sq2 l1 lf4 ws4 ps4 nw4 np4 wv4 pv4 ids3 v3 hl1 hlf4 hwl4 hpl4 W rr3 hqw4 hqp4) fun e W' ⟨v, he, hf, hv⟩ => ?_
  subst he hv
  exact ⟨_, rfl, _, _, _, [], _, [], hW', trodAll_mk1 (shut_bool Tryz.underlying4 _), (trodAll_cons_mk (Below.trod laid (by kernel_rfl) (of_decide_eq_true (by kernel_rfl)) k0 (Fr.below hf) lt0) (trodAll_cons_mk (Below.trod laid (by kernel_rfl) (of_decide_eq_true (by kernel_rfl)) k1 (Fr.below hf) lt1) (trodAll_cons_mk (Below.trod laid (by kernel_rfl) (of_decide_eq_true (by kernel_rfl)) k2 (Fr.below hf) lt2) (trodAll_cons_mk (Below.trod laid (by kernel_rfl) (of_decide_eq_true (by kernel_rfl)) k3 (Fr.below hf) lt3) (trodAll_cons_mk (Below.trod laid (by kernel_rfl) (of_decide_eq_true (by kernel_rfl)) k4 (Fr.below hf) lt4) trodAll_mk0))))), rfl, (Fr.below hf).frame _, fun h => by cases h⟩

theorem named : Tryz.pinned.checked.prog.funcNamed Rows.truthPassesRow.func = some 10 := by kernel_rfl
theorem q1 : (Rows.truthPassesRow.inPlace == Tryz.prog.inPlace 10) = true := by kernel_rfl
theorem q2 : (Rows.truthPassesRow.unfollowed == Tryz.prog.unfollowed 10) = true := by kernel_rfl
theorem q3 : (Rows.truthPassesRow.recurses == Tryz.prog.recurses 10) = true := by kernel_rfl
theorem q4 : rowB false Tryz.prog 10 Tryz.f10 Rows.truthPassesSpec Rows.truthPassesRow = true := by kernel_rfl
theorem inst : Tryz.f10.isInstance Tryz.pinned.checked.prog Rows.truthPassesRow.origin Rows.truthPassesRow.targs := of_decide_eq_true (by kernel_rfl)
theorem wrap : Tryz.f10.isWrapper Tryz.pinned.checked.prog Rows.truthPassesRow.wrapper Rows.truthPassesRow.mainSum := by unfold Func.isWrapper; first | (rw [if_pos (by decide +kernel)]; kernel_rfl) | (rw [if_neg (by decide +kernel)]; exact ⟨rfl, rfl⟩)
theorem over : Rows.truthPassesRow.holds Tryz.pinned (OpenSpec.ofChange Rows.truthPassesSpec) :=
  OpenClaim.holds_of_wide 10 Tryz.f10 rfl rfl rfl rfl rfl rfl rfl ⟨rfl, rfl, rfl, rfl, rfl⟩ rfl rfl rfl rfl rfl named Tryz.func10 (joined_of whole q1 q2 q3 q4)
    inst wrap (fun os started H enc _ => lifted os started H enc)

/-- THE STATEMENT. -/
theorem proved : Rows.TruthPassesSaid := over
#print axioms proved
end Go.Proofs.YtklajbdbnnceiaaGreat.truthPassesDone
