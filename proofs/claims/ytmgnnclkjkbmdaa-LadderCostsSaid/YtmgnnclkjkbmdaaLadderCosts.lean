/- LadderCosts: how many blocks a rung takes is the answer of the document: each short sum of it takes one. -/
import Derived.Test.YtmgnnclkjkbmdaaRows
import Derived.Test.YtmgnnclkjkbmdaaGb
import Derived.Test.YtmgnnclkjkbmdaaGc
import Derived.Test.YtmgnnclkjkbmdaaGm
namespace Go.Proofs.Ytmgnnclkjkbmdaa.ladderCostsDone
open Go.ChangeShapes Go.WideShapes Go.ChangeAt Go.RowKit Go Go.Fw Go.Proofs.Ytmgnnclkjkbmdaa
open Go.ChangeMaps (open_string shut_string)
set_option linter.unusedVariables false
set_option maxRecDepth 100000

theorem lifted (os : Os) (started : os.Started) (H : Type) (enc : TypeId × Value → H) :
    ReturnsInHanded {} Try.checked os 17 .any (Rows.ladderCostsSpec.pre6 enc Try.prog Try.f17 Rows.ladderCostsRow.domain false) (Rows.ladderCostsSpec.post enc Try.prog Try.f17 false true false false) := by
  refine returnsInHanded_of_change_sized (C := Try.checked) ownK started (by kernel_rfl) Try.func17
    (ChangeSpec.witness6 (enc := enc) (C := Try.checked) false ⟨#[], #[.int .i64 0, .agg (Array.mk ([Value.int .i64 0] ++ List.replicate 2 (Value.int .u32 0))), .agg (Array.mk (List.replicate 16 (Value.int .u8 0)))], []⟩ 8 (by kernel_rfl) (by kernel_rfl) (by kernel_rfl) (by kernel_rfl)) ?_
  intro W base args ds gs before hval0 hW hcnd hsz _
  have hval : ∀ (j : Nat) t v, Try.f17.params[j]? = some t → args[j]? = some v → Value.okWide Try.prog W .any base t v := hval0
  have hW' := hW
  obtain ⟨p, q, hA0, hV, rfl, hfz, hnd⟩ := hW
  have hA : DataW.TrodAll enc Try.prog W 0 (fun _ => true) true Try.f17.params.toList args.toList ds p := hA0
  rw [Try.params17] at hA hval
  obtain ⟨v0, vs0, d0, ds0, p0, q0, hargs, rfl, rfl, h0, r0⟩ := trodAll_cons hA
  obtain ⟨v1, vs1, d1, ds1, p1, q1, rfl, rfl, rfl, h1, r1⟩ := trodAll_cons r0
  obtain ⟨v2, vs2, d2, ds2, p2, q2, rfl, rfl, rfl, h2, r2⟩ := trodAll_cons r1
  obtain ⟨rfl, rfl, rfl⟩ := trodAll_nil r2
  obtain rfl : args = #[v0, v1, v2] := by cases args; simp_all
  obtain ⟨rfl, rfl⟩ := trodVars_none hV
  clear hA0 hval0
  have k0 := h0
  have lt0 : ∀ x ∈ p0, x.block < W.heap.size := by obtain ⟨m, hm⟩ := k0; exact DataW.trod_lt m _ _ _ hm
  have k1 := h1
  have lt1 : ∀ x ∈ p1, x.block < W.heap.size := by obtain ⟨m, hm⟩ := k1; exact DataW.trod_lt m _ _ _ hm
  have k2 := h2
  have lt2 : ∀ x ∈ p2, x.block < W.heap.size := by obtain ⟨m, hm⟩ := k2; exact DataW.trod_lt m _ _ _ hm
  obtain ⟨n0, rfl, hn0⟩ := opI un3 (hval 0 3 v0 rfl rfl) h0
  obtain ⟨d1, p1, s1, rfl, hd1⟩ := opIUU Try.underlying81 (by kernel_rfl) (by kernel_rfl) (by kernel_rfl) rfl rfl rfl (by kernel_rfl) (by kernel_rfl) (by kernel_rfl) (by kernel_rfl) (hval 1 81 v1 rfl rfl) h1
  obtain ⟨l2, hl2, rfl⟩ := opA un22 un5 (by kernel_rfl) (by kernel_rfl) (hval 2 22 v2 rfl rfl) h2
  refine Calls.mono (law_LadderCosts d1 p1 s1 n0 l2 hl2 W) fun e W' ⟨v, he, hf, hv⟩ => ?_
  subst he hv
  exact ⟨_, rfl, _, _, _, [], _, [], hW', trodAll_mk1 (shut_bool Try.underlying4 _), (trodAll_cons_mk (Below.trod laid (by kernel_rfl) (of_decide_eq_true (by kernel_rfl)) k0 (Fr.below hf) lt0) (trodAll_cons_mk (Below.trod laid (by kernel_rfl) (of_decide_eq_true (by kernel_rfl)) k1 (Fr.below hf) lt1) (trodAll_cons_mk (Below.trod laid (by kernel_rfl) (of_decide_eq_true (by kernel_rfl)) k2 (Fr.below hf) lt2) trodAll_mk0))), rfl, (Fr.below hf).frame _, fun h => by cases h⟩

theorem named : Try.pinned.checked.prog.funcNamed Rows.ladderCostsRow.func = some 17 := by kernel_rfl
theorem q1 : (Rows.ladderCostsRow.inPlace == Try.prog.inPlace 17) = true := by kernel_rfl
theorem q2 : (Rows.ladderCostsRow.unfollowed == Try.prog.unfollowed 17) = true := by kernel_rfl
theorem q3 : (Rows.ladderCostsRow.recurses == Try.prog.recurses 17) = true := by kernel_rfl
theorem q4 : rowB Try.prog 17 Try.f17 Rows.ladderCostsSpec Rows.ladderCostsRow = true := by kernel_rfl
theorem inst : Try.f17.isInstance Try.pinned.checked.prog Rows.ladderCostsRow.origin Rows.ladderCostsRow.targs := of_decide_eq_true (by kernel_rfl)
theorem wrap : Try.f17.isWrapper Try.pinned.checked.prog Rows.ladderCostsRow.wrapper Rows.ladderCostsRow.mainSum := by unfold Func.isWrapper; first | (rw [if_pos (by decide +kernel)]; kernel_rfl) | (rw [if_neg (by decide +kernel)]; exact ⟨rfl, rfl⟩)
theorem over : Rows.ladderCostsRow.holds Try.pinned (OpenSpec.ofChange Rows.ladderCostsSpec) :=
  OpenClaim.holds_of_wide 17 Try.f17 rfl rfl rfl rfl rfl rfl rfl ⟨rfl, rfl, rfl, rfl, rfl⟩ rfl rfl rfl rfl rfl named Try.func17 (joined_of whole q1 q2 q3 q4)
    inst wrap (fun os started H enc _ => lifted os started H enc)

/-- THE STATEMENT. -/
theorem proved : Rows.LadderCostsSaid := over
#print axioms proved
end Go.Proofs.Ytmgnnclkjkbmdaa.ladderCostsDone
