/- MacHolds: two rows of bytes are told to be one just if they are; of two short sums the one that is picked is picked. -/
import Derived.Test.YtmgnnclkjkbmdaaRows
import Derived.Test.YtmgnnclkjkbmdaaGb
import Derived.Test.YtmgnnclkjkbmdaaGc
import Derived.Test.YtmgnnclkjkbmdaaGf
namespace Go.Proofs.Ytmgnnclkjkbmdaa.macHoldsDone
open Go.ChangeShapes Go.WideShapes Go.ChangeAt Go.RowKit Go Go.Fw Go.Proofs.Ytmgnnclkjkbmdaa
open Go.ChangeMaps (open_string shut_string)
set_option linter.unusedVariables false
set_option maxRecDepth 100000

theorem lifted (os : Os) (started : os.Started) (H : Type) (enc : TypeId × Value → H) :
    ReturnsInHanded {} Try.checked os 23 .any (Rows.macHoldsSpec.pre6 enc Try.prog Try.f23 Rows.macHoldsRow.domain false) (Rows.macHoldsSpec.post enc Try.prog Try.f23 false true false false) := by
  refine returnsInHanded_of_change_sized (C := Try.checked) ownK started (by kernel_rfl) Try.func23
    (ChangeSpec.witness6 (enc := enc) (C := Try.checked) false ⟨#[], #[.slice none 0 0, .slice none 0 0, .agg (Array.mk (List.replicate 16 (Value.int .u8 0))), .agg (Array.mk (List.replicate 16 (Value.int .u8 0))), .bool false], []⟩ 8 (by kernel_rfl) (by kernel_rfl) (by kernel_rfl) (by kernel_rfl)) ?_
  intro W base args ds gs before hval0 hW hcnd hsz _
  have hval : ∀ (j : Nat) t v, Try.f23.params[j]? = some t → args[j]? = some v → Value.okWide Try.prog W .any base t v := hval0
  have hW' := hW
  obtain ⟨p, q, hA0, hV, rfl, hfz, hnd⟩ := hW
  have hA : DataW.TrodAll enc Try.prog W 0 (fun _ => true) true Try.f23.params.toList args.toList ds p := hA0
  rw [Try.params23] at hA hval
  obtain ⟨v0, vs0, d0, ds0, p0, q0, hargs, rfl, rfl, h0, r0⟩ := trodAll_cons hA
  obtain ⟨v1, vs1, d1, ds1, p1, q1, rfl, rfl, rfl, h1, r1⟩ := trodAll_cons r0
  obtain ⟨v2, vs2, d2, ds2, p2, q2, rfl, rfl, rfl, h2, r2⟩ := trodAll_cons r1
  obtain ⟨v3, vs3, d3, ds3, p3, q3, rfl, rfl, rfl, h3, r3⟩ := trodAll_cons r2
  obtain ⟨v4, vs4, d4, ds4, p4, q4, rfl, rfl, rfl, h4, r4⟩ := trodAll_cons r3
  obtain ⟨rfl, rfl, rfl⟩ := trodAll_nil r4
  obtain rfl : args = #[v0, v1, v2, v3, v4] := by cases args; simp_all
  obtain ⟨rfl, rfl⟩ := trodVars_none hV
  clear hA0 hval0
  have k0 := h0
  have lt0 : ∀ x ∈ p0, x.block < W.heap.size := by obtain ⟨m, hm⟩ := k0; exact DataW.trod_lt m _ _ _ hm
  have k1 := h1
  have lt1 : ∀ x ∈ p1, x.block < W.heap.size := by obtain ⟨m, hm⟩ := k1; exact DataW.trod_lt m _ _ _ hm
  have k2 := h2
  have lt2 : ∀ x ∈ p2, x.block < W.heap.size := by obtain ⟨m, hm⟩ := k2; exact DataW.trod_lt m _ _ _ hm
  have k3 := h3
  have lt3 : ∀ x ∈ p3, x.block < W.heap.size := by obtain ⟨m, hm⟩ := k3; exact DataW.trod_lt m _ _ _ hm
  have k4 := h4
  have lt4 : ∀ x ∈ p4, x.block < W.heap.size := by obtain ⟨m, hm⟩ := k4; exact DataW.trod_lt m _ _ _ hm
  obtain ⟨l0, rr0, g0⟩ := opSl un34 un5 (by kernel_rfl) (hval 0 34 v0 rfl rfl) h0
  have hz0 := opSl_le (j := 0) hsz rfl rfl un34 (by kernel_rfl) g0
  obtain ⟨l1, rr1, g1⟩ := opSl un34 un5 (by kernel_rfl) (hval 1 34 v1 rfl rfl) h1
  have hz1 := opSl_le (j := 1) hsz rfl rfl un34 (by kernel_rfl) g1
  obtain ⟨l2, hl2, rfl⟩ := opA un22 un5 (by kernel_rfl) (by kernel_rfl) (hval 2 22 v2 rfl rfl) h2
  obtain ⟨l3, hl3, rfl⟩ := opA un22 un5 (by kernel_rfl) (by kernel_rfl) (hval 3 22 v3 rfl rfl) h3
  obtain ⟨b4, rfl⟩ := opBool un4 (hval 4 4 v4 rfl rfl)
  refine Calls.mono (law_MacHolds l0 l1 l2 l3 b4 v0 v1 hz0 hl2 hl3 W rr0 rr1) fun e W' ⟨v, he, hf, hv⟩ => ?_
  subst he hv
  exact ⟨_, rfl, _, _, _, [], _, [], hW', trodAll_mk1 (shut_bool Try.underlying4 _), (trodAll_cons_mk (Below.trod laid (by kernel_rfl) (of_decide_eq_true (by kernel_rfl)) k0 (Fr.below hf) lt0) (trodAll_cons_mk (Below.trod laid (by kernel_rfl) (of_decide_eq_true (by kernel_rfl)) k1 (Fr.below hf) lt1) (trodAll_cons_mk (Below.trod laid (by kernel_rfl) (of_decide_eq_true (by kernel_rfl)) k2 (Fr.below hf) lt2) (trodAll_cons_mk (Below.trod laid (by kernel_rfl) (of_decide_eq_true (by kernel_rfl)) k3 (Fr.below hf) lt3) (trodAll_cons_mk (Below.trod laid (by kernel_rfl) (of_decide_eq_true (by kernel_rfl)) k4 (Fr.below hf) lt4) trodAll_mk0))))), rfl, (Fr.below hf).frame _, fun h => by cases h⟩

theorem named : Try.pinned.checked.prog.funcNamed Rows.macHoldsRow.func = some 23 := by kernel_rfl
theorem q1 : (Rows.macHoldsRow.inPlace == Try.prog.inPlace 23) = true := by kernel_rfl
theorem q2 : (Rows.macHoldsRow.unfollowed == Try.prog.unfollowed 23) = true := by kernel_rfl
theorem q3 : (Rows.macHoldsRow.recurses == Try.prog.recurses 23) = true := by kernel_rfl
theorem q4 : rowB Try.prog 23 Try.f23 Rows.macHoldsSpec Rows.macHoldsRow = true := by kernel_rfl
theorem inst : Try.f23.isInstance Try.pinned.checked.prog Rows.macHoldsRow.origin Rows.macHoldsRow.targs := of_decide_eq_true (by kernel_rfl)
theorem wrap : Try.f23.isWrapper Try.pinned.checked.prog Rows.macHoldsRow.wrapper Rows.macHoldsRow.mainSum := by unfold Func.isWrapper; first | (rw [if_pos (by decide +kernel)]; kernel_rfl) | (rw [if_neg (by decide +kernel)]; exact ⟨rfl, rfl⟩)
theorem over : Rows.macHoldsRow.holds Try.pinned (OpenSpec.ofChange Rows.macHoldsSpec) :=
  OpenClaim.holds_of_wide 23 Try.f23 rfl rfl rfl rfl rfl rfl rfl ⟨rfl, rfl, rfl, rfl, rfl⟩ rfl rfl rfl rfl rfl named Try.func23 (joined_of whole q1 q2 q3 q4)
    inst wrap (fun os started H enc _ => lifted os started H enc)

/-- THE STATEMENT. -/
theorem proved : Rows.MacHoldsSaid := over
#print axioms proved
end Go.Proofs.Ytmgnnclkjkbmdaa.macHoldsDone
