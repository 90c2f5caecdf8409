/- LadderUps: the element of the next rung of any element, or why there is none, is that of the document; so are leaves and what stands above two. -/
import Derived.Test.YtmgnnclkjkbmdaaRows
import Derived.Test.YtmgnnclkjkbmdaaGb
import Derived.Test.YtmgnnclkjkbmdaaGc
import Derived.Test.YtmgnnclkjkbmdaaGm
namespace Go.Proofs.Ytmgnnclkjkbmdaa.ladderUpsDone
open Go.ChangeShapes Go.WideShapes Go.ChangeAt Go.RowKit Go Go.Fw Go.Proofs.Ytmgnnclkjkbmdaa
open Go.ChangeMaps (open_string shut_string)
set_option linter.unusedVariables false
set_option maxRecDepth 100000

theorem lifted (os : Os) (started : os.Started) (H : Type) (enc : TypeId × Value → H) :
    ReturnsInHanded {} Try.checked os 13 .any (Rows.ladderUpsSpec.pre6 enc Try.prog Try.f13 Rows.ladderUpsRow.domain false) (Rows.ladderUpsSpec.post enc Try.prog Try.f13 false true false false) := by
  refine returnsInHanded_of_change_sized (C := Try.checked) ownK started (by kernel_rfl) Try.func13
    (ChangeSpec.witness6 (enc := enc) (C := Try.checked) false ⟨#[], #[.agg (Array.mk ([Value.int .i64 0] ++ List.replicate 2 (Value.int .u32 0))), .int .i64 0, .int .i64 0, .int .i64 0, .agg (Array.mk (List.replicate 16 (Value.int .u8 0))), .agg (Array.mk (List.replicate 16 (Value.int .u8 0)))], []⟩ 8 (by kernel_rfl) (by kernel_rfl) (by kernel_rfl) (by kernel_rfl)) ?_
  intro W base args ds gs before hval0 hW hcnd hsz _
  have hval : ∀ (j : Nat) t v, Try.f13.params[j]? = some t → args[j]? = some v → Value.okWide Try.prog W .any base t v := hval0
  have hW' := hW
  obtain ⟨p, q, hA0, hV, rfl, hfz, hnd⟩ := hW
  have hA : DataW.TrodAll enc Try.prog W 0 (fun _ => true) true Try.f13.params.toList args.toList ds p := hA0
  rw [Try.params13] at hA hval
  obtain ⟨v0, vs0, d0, ds0, p0, q0, hargs, rfl, rfl, h0, r0⟩ := trodAll_cons hA
  obtain ⟨v1, vs1, d1, ds1, p1, q1, rfl, rfl, rfl, h1, r1⟩ := trodAll_cons r0
  obtain ⟨v2, vs2, d2, ds2, p2, q2, rfl, rfl, rfl, h2, r2⟩ := trodAll_cons r1
  obtain ⟨v3, vs3, d3, ds3, p3, q3, rfl, rfl, rfl, h3, r3⟩ := trodAll_cons r2
  obtain ⟨v4, vs4, d4, ds4, p4, q4, rfl, rfl, rfl, h4, r4⟩ := trodAll_cons r3
  obtain ⟨v5, vs5, d5, ds5, p5, q5, rfl, rfl, rfl, h5, r5⟩ := trodAll_cons r4
  obtain ⟨rfl, rfl, rfl⟩ := trodAll_nil r5
  obtain rfl : args = #[v0, v1, v2, v3, v4, v5] := by cases args; simp_all
  obtain ⟨rfl, rfl⟩ := trodVars_none hV
  clear hA0 hval0
  have k0 := h0
  have lt0 : ∀ x ∈ p0, x.block < W.heap.size := by obtain ⟨m, hm⟩ := k0; exact DataW.trod_lt m _ _ _ hm
  have k1 := h1
  have lt1 : ∀ x ∈ p1, x.block < W.heap.size := by obtain ⟨m, hm⟩ := k1; exact DataW.trod_lt m _ _ _ hm
  have k2 := h2
  have lt2 : ∀ x ∈ p2, x.block < W.heap.size := by obtain ⟨m, hm⟩ := k2; exact DataW.trod_lt m _ _ _ hm
  have k3 := h3
  have lt3 : ∀ x ∈ p3, x.block < W.heap.size := by obtain ⟨m, hm⟩ := k3; exact DataW.trod_lt m _ _ _ hm
  have k4 := h4
  have lt4 : ∀ x ∈ p4, x.block < W.heap.size := by obtain ⟨m, hm⟩ := k4; exact DataW.trod_lt m _ _ _ hm
  have k5 := h5
  have lt5 : ∀ x ∈ p5, x.block < W.heap.size := by obtain ⟨m, hm⟩ := k5; exact DataW.trod_lt m _ _ _ hm
  obtain ⟨d0, p0, s0, rfl, hd0⟩ := opIUU Try.underlying81 (by kernel_rfl) (by kernel_rfl) (by kernel_rfl) rfl rfl rfl (by kernel_rfl) (by kernel_rfl) (by kernel_rfl) (by kernel_rfl) (hval 0 81 v0 rfl rfl) h0
  obtain ⟨n1, rfl, hn1⟩ := opI un3 (hval 1 3 v1 rfl rfl) h1
  obtain ⟨n2, rfl, hn2⟩ := opI un3 (hval 2 3 v2 rfl rfl) h2
  obtain ⟨n3, rfl, hn3⟩ := opI un3 (hval 3 3 v3 rfl rfl) h3
  obtain ⟨l4, hl4, rfl⟩ := opA un22 un5 (by kernel_rfl) (by kernel_rfl) (hval 4 22 v4 rfl rfl) h4
  obtain ⟨l5, hl5, rfl⟩ := opA un22 un5 (by kernel_rfl) (by kernel_rfl) (hval 5 22 v5 rfl rfl) h5
  refine Calls.mono (law_LadderUps d0 p0 s0 n1 n2 n3 l4 l5 hl4 hl5 W) fun e W' ⟨v, he, hf, hv⟩ => ?_
  subst he hv
  exact ⟨_, rfl, _, _, _, [], _, [], hW', trodAll_mk1 (shut_bool Try.underlying4 _), (trodAll_cons_mk (Below.trod laid (by kernel_rfl) (of_decide_eq_true (by kernel_rfl)) k0 (Fr.below hf) lt0) (trodAll_cons_mk (Below.trod laid (by kernel_rfl) (of_decide_eq_true (by kernel_rfl)) k1 (Fr.below hf) lt1) (trodAll_cons_mk (Below.trod laid (by kernel_rfl) (of_decide_eq_true (by kernel_rfl)) k2 (Fr.below hf) lt2) (trodAll_cons_mk (Below.trod laid (by kernel_rfl) (of_decide_eq_true (by kernel_rfl)) k3 (Fr.below hf) lt3) (trodAll_cons_mk (Below.trod laid (by kernel_rfl) (of_decide_eq_true (by kernel_rfl)) k4 (Fr.below hf) lt4) (trodAll_cons_mk (Below.trod laid (by kernel_rfl) (of_decide_eq_true (by kernel_rfl)) k5 (Fr.below hf) lt5) trodAll_mk0)))))), rfl, (Fr.below hf).frame _, fun h => by cases h⟩

theorem named : Try.pinned.checked.prog.funcNamed Rows.ladderUpsRow.func = some 13 := by kernel_rfl
theorem q1 : (Rows.ladderUpsRow.inPlace == Try.prog.inPlace 13) = true := by kernel_rfl
theorem q2 : (Rows.ladderUpsRow.unfollowed == Try.prog.unfollowed 13) = true := by kernel_rfl
theorem q3 : (Rows.ladderUpsRow.recurses == Try.prog.recurses 13) = true := by kernel_rfl
theorem q4 : rowB Try.prog 13 Try.f13 Rows.ladderUpsSpec Rows.ladderUpsRow = true := by kernel_rfl
theorem inst : Try.f13.isInstance Try.pinned.checked.prog Rows.ladderUpsRow.origin Rows.ladderUpsRow.targs := of_decide_eq_true (by kernel_rfl)
theorem wrap : Try.f13.isWrapper Try.pinned.checked.prog Rows.ladderUpsRow.wrapper Rows.ladderUpsRow.mainSum := by unfold Func.isWrapper; first | (rw [if_pos (by decide +kernel)]; kernel_rfl) | (rw [if_neg (by decide +kernel)]; exact ⟨rfl, rfl⟩)
theorem over : Rows.ladderUpsRow.holds Try.pinned (OpenSpec.ofChange Rows.ladderUpsSpec) :=
  OpenClaim.holds_of_wide 13 Try.f13 rfl rfl rfl rfl rfl rfl rfl ⟨rfl, rfl, rfl, rfl, rfl⟩ rfl rfl rfl rfl rfl named Try.func13 (joined_of whole q1 q2 q3 q4)
    inst wrap (fun os started H enc _ => lifted os started H enc)

/-- THE STATEMENT. -/
theorem proved : Rows.LadderUpsSaid := over
#print axioms proved
end Go.Proofs.Ytmgnnclkjkbmdaa.ladderUpsDone
