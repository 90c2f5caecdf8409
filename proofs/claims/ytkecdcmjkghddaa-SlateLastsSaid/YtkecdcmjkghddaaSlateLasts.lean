/- SlateLasts: behind a crash the device is as some beginning of its writes made it, but for one torn sector. -/
import Derived.Test.YtkecdcmjkghddaaSlaKb
import Derived.Test.YtkecdcmjkghddaaRows
namespace Go.Proofs.Ytkecdcmjkghddaa.slateLastsDone
open Go.ChangeShapes Go.WideShapes Go.ChangeAt Go.RowKit Go Go.Fw Go.Proofs.Ytkecdcmjkghddaa
open Go.ChangeMaps (open_string shut_string)
set_option linter.unusedVariables false
set_option maxRecDepth 100000

theorem lifted (os : Os) (started : os.Started) (H : Type) (enc : TypeId × Value → H) :
    ReturnsInHanded {} Try.checked os 3 .any (Rows.slateLastsSpec.pre6 enc Try.prog Try.f3 Rows.slateLastsRow.domain false) (Rows.slateLastsSpec.post enc Try.prog Try.f3 false true false false) := by
  refine returnsInHanded_of_change_sized (C := Try.checked) ownK started (by kernel_rfl) Try.func3
    (ChangeSpec.witness6 (enc := enc) (C := Try.checked) false ⟨#[], #[.slice none 0 0], []⟩ 8 (by kernel_rfl) (by kernel_rfl) (by kernel_rfl) (by kernel_rfl)) ?_
  intro W base args ds gs before hval0 hW hcnd hsz _
  have hval : ∀ (j : Nat) t v, Try.f3.params[j]? = some t → args[j]? = some v → Value.okWide Try.prog W .any base t v := hval0
  have hW' := hW
  obtain ⟨p, q, hA0, hV, rfl, hfz, hnd⟩ := hW
  have hA : DataW.TrodAll enc Try.prog W 0 (fun _ => true) true Try.f3.params.toList args.toList ds p := hA0
  rw [Try.params3] at hA hval
  obtain ⟨v0, vs0, d0, ds0, p0, q0, hargs, rfl, rfl, h0, r0⟩ := trodAll_cons hA
  obtain ⟨rfl, rfl, rfl⟩ := trodAll_nil r0
  obtain rfl : args = #[v0] := by cases args; simp_all
  obtain ⟨rfl, rfl⟩ := trodVars_none hV
  clear hA0 hval0
  have k0 := h0
  have lt0 : ∀ x ∈ p0, x.block < W.heap.size := by obtain ⟨m, hm⟩ := k0; exact DataW.trod_lt m _ _ _ hm
  obtain ⟨ops0, hops0, hq0⟩ := opSG (α := O14) (f := O14.c) (p := fun y => y.b.length = 64 ∧ y.n ≤ 9223372036854775807 ∧ (-9223372036854775808 ≤ y.a ∧ y.a ≤ 9223372036854775807)) (m := 67) un22 (by kernel_rfl) (by decide) (fun fu cs x h => by
    obtain ⟨k, a, n, l, he, hl, _, ha, hn⟩ := trodIIIA Try.underlying32 (by kernel_rfl) (by kernel_rfl) (by kernel_rfl) un28 un5 rfl rfl rfl rfl (by kernel_rfl) (by kernel_rfl) (by kernel_rfl) (by kernel_rfl) (by kernel_rfl) (by kernel_rfl) h
    exact ⟨⟨k, a, n, l⟩, he, O14.len hl, hl, hn.2, ha⟩) (hval 0 22 v0 rfl rfl) h0
  refine Calls.mono (law_SlateLasts ops0 (fun y hy => (hops0 y hy).2.1) (fun y hy => (hops0 y hy).2.2.1) v0 W hq0) fun e W' ⟨v, he, hf, hv⟩ => ?_
  subst he hv
  exact ⟨_, rfl, _, _, _, [], _, [], hW', trodAll_mk1 (shut_bool Try.underlying4 _), (trodAll_cons_mk (Below.trod laid (by kernel_rfl) (of_decide_eq_true (by kernel_rfl)) k0 (Fr.below hf) lt0) trodAll_mk0), rfl, (Fr.below hf).frame _, fun h => by cases h⟩

theorem named : Try.pinned.checked.prog.funcNamed Rows.slateLastsRow.func = some 3 := by kernel_rfl
theorem q1 : (Rows.slateLastsRow.inPlace == Try.prog.inPlace 3) = true := by kernel_rfl
theorem q2 : (Rows.slateLastsRow.unfollowed == Try.prog.unfollowed 3) = true := by kernel_rfl
theorem q3 : (Rows.slateLastsRow.recurses == Try.prog.recurses 3) = true := by kernel_rfl
theorem q4 : rowB true Try.prog 3 Try.f3 Rows.slateLastsSpec Rows.slateLastsRow = true := by kernel_rfl
theorem inst : Try.f3.isInstance Try.pinned.checked.prog Rows.slateLastsRow.origin Rows.slateLastsRow.targs := of_decide_eq_true (by kernel_rfl)
theorem wrap : Try.f3.isWrapper Try.pinned.checked.prog Rows.slateLastsRow.wrapper Rows.slateLastsRow.mainSum := by unfold Func.isWrapper; first | (rw [if_pos (by decide +kernel)]; kernel_rfl) | (rw [if_neg (by decide +kernel)]; exact ⟨rfl, rfl⟩)
theorem over : Rows.slateLastsRow.holds Try.pinned (OpenSpec.ofChange Rows.slateLastsSpec) :=
  OpenClaim.holds_of_wide 3 Try.f3 rfl rfl rfl rfl rfl rfl rfl ⟨rfl, rfl, rfl, rfl, rfl⟩ rfl rfl rfl rfl rfl named Try.func3 (joined_of whole q1 q2 q3 q4)
    inst wrap (fun os started H enc _ => lifted os started H enc)

/-- THE STATEMENT. -/
theorem proved : Rows.SlateLastsSaid := over
#print axioms proved
end Go.Proofs.Ytkecdcmjkghddaa.slateLastsDone
