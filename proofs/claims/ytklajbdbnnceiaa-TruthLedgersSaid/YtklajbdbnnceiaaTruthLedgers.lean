/- TruthLedgers: whatever is shown of claims, whatever is known of seeds: what may be passed on, and what lies nearest, is what the document says. -/
import Derived.Test.YtklajbdbnnceiaaTruKb
import Derived.Test.YtklajbdbnnceiaaRows
namespace Go.Proofs.Ytklajbdbnnceiaa.truthLedgersDone
open Go.ChangeShapes Go.WideShapes Go.ChangeAt Go.RowKit Go Go.Fw Go.Proofs.Ytklajbdbnnceiaa
open Go.ChangeMaps (open_string shut_string)
set_option linter.unusedVariables false
set_option maxRecDepth 100000

theorem lifted (os : Os) (started : os.Started) (H : Type) (enc : TypeId × Value → H) :
    ReturnsInHanded {} Try.checked os 3 .any (Rows.truthLedgersSpec.pre6 enc Try.prog Try.f3 Rows.truthLedgersRow.domain false) (Rows.truthLedgersSpec.post enc Try.prog Try.f3 false true false false) := by
  refine returnsInHanded_of_change_sized (C := Try.checked) ownK started (by kernel_rfl) Try.func3
    (ChangeSpec.witness6 (enc := enc) (C := Try.checked) false ⟨#[], #[.slice none 0 0, .agg (Array.mk ([Value.int .i64 0] ++ List.replicate 2 (Value.int .u32 0) ++ List.replicate 2 (Value.int .i64 0)))], []⟩ 8 (by kernel_rfl) (by kernel_rfl) (by kernel_rfl) (by kernel_rfl)) ?_
  intro W base args ds gs before hval0 hW hcnd hsz _
  have hval : ∀ (j : Nat) t v, Try.f3.params[j]? = some t → args[j]? = some v → Value.okWide Try.prog W .any base t v := hval0
  have hW' := hW
  obtain ⟨p, q, hA0, hV, rfl, hfz, hnd⟩ := hW
  have hA : DataW.TrodAll enc Try.prog W 0 (fun _ => true) true Try.f3.params.toList args.toList ds p := hA0
  rw [Try.params3] at hA hval
  obtain ⟨v0, vs0, d0, ds0, p0, q0, hargs, rfl, rfl, h0, r0⟩ := trodAll_cons hA
  obtain ⟨v1, vs1, d1, ds1, p1, q1, rfl, rfl, rfl, h1, r1⟩ := trodAll_cons r0
  obtain ⟨rfl, rfl, rfl⟩ := trodAll_nil r1
  obtain rfl : args = #[v0, v1] := by cases args; simp_all
  obtain ⟨rfl, rfl⟩ := trodVars_none hV
  clear hA0 hval0
  have k0 := h0
  have lt0 : ∀ x ∈ p0, x.block < W.heap.size := by obtain ⟨m, hm⟩ := k0; exact DataW.trod_lt m _ _ _ hm
  have k1 := h1
  have lt1 : ∀ x ∈ p1, x.block < W.heap.size := by obtain ⟨m, hm⟩ := k1; exact DataW.trod_lt m _ _ _ hm
  obtain ⟨ops0, hops0, hq0⟩ := opSG (α := Opr) (f := Opr.c) (p := fun y => okC y.x) (m := 6) un22 (by kernel_rfl) (by decide) (fun fu cs x h => by
    obtain ⟨k, n, ep, sq, i, j, he, hb⟩ := trodIIK Try.underlying35 (by kernel_rfl) Try.underlying27 (by kernel_rfl) Try.underlying25 (by kernel_rfl) (by kernel_rfl) (by kernel_rfl) (by kernel_rfl) rfl rfl rfl rfl rfl rfl rfl rfl (by kernel_rfl) (by kernel_rfl) (by kernel_rfl) (by kernel_rfl) (by kernel_rfl) (by kernel_rfl) (by kernel_rfl) (by kernel_rfl) (by kernel_rfl) h
    exact ⟨⟨k, ⟨n, ep, sq, i, j⟩⟩, he, rfl, hb⟩) (hval 0 22 v0 rfl rfl) h0
  obtain ⟨d1, ep1, sq1, mt1, sn1, rfl, hd1, hmt1, hsn1⟩ := opIK Try.underlying27 (by kernel_rfl) Try.underlying25 (by kernel_rfl) (by kernel_rfl) (by kernel_rfl) (by kernel_rfl) rfl rfl rfl rfl rfl rfl (by kernel_rfl) (by kernel_rfl) (by kernel_rfl) (by kernel_rfl) (by kernel_rfl) (by kernel_rfl) (by kernel_rfl) (hval 1 27 v1 rfl rfl) h1
  refine Calls.mono (law_TruthLedgers ops0 (fun y hy => (hops0 y hy).2) v0 ⟨d1, ep1, sq1, mt1, sn1⟩ ⟨hd1, hmt1, hsn1⟩ W hq0) fun e W' ⟨v, he, hf, hv⟩ => ?_
  subst he hv
  exact ⟨_, rfl, _, _, _, [], _, [], hW', trodAll_mk1 (shut_bool Try.underlying4 _), (trodAll_cons_mk (Below.trod laid (by kernel_rfl) (of_decide_eq_true (by kernel_rfl)) k0 (Fr.below hf) lt0) (trodAll_cons_mk (Below.trod laid (by kernel_rfl) (of_decide_eq_true (by kernel_rfl)) k1 (Fr.below hf) lt1) trodAll_mk0)), rfl, (Fr.below hf).frame _, fun h => by cases h⟩

theorem named : Try.pinned.checked.prog.funcNamed Rows.truthLedgersRow.func = some 3 := by kernel_rfl
theorem q1 : (Rows.truthLedgersRow.inPlace == Try.prog.inPlace 3) = true := by kernel_rfl
theorem q2 : (Rows.truthLedgersRow.unfollowed == Try.prog.unfollowed 3) = true := by kernel_rfl
theorem q3 : (Rows.truthLedgersRow.recurses == Try.prog.recurses 3) = true := by kernel_rfl
theorem q4 : rowB false Try.prog 3 Try.f3 Rows.truthLedgersSpec Rows.truthLedgersRow = true := by kernel_rfl
theorem inst : Try.f3.isInstance Try.pinned.checked.prog Rows.truthLedgersRow.origin Rows.truthLedgersRow.targs := of_decide_eq_true (by kernel_rfl)
theorem wrap : Try.f3.isWrapper Try.pinned.checked.prog Rows.truthLedgersRow.wrapper Rows.truthLedgersRow.mainSum := by unfold Func.isWrapper; first | (rw [if_pos (by decide +kernel)]; kernel_rfl) | (rw [if_neg (by decide +kernel)]; exact ⟨rfl, rfl⟩)
theorem over : Rows.truthLedgersRow.holds Try.pinned (OpenSpec.ofChange Rows.truthLedgersSpec) :=
  OpenClaim.holds_of_wide 3 Try.f3 rfl rfl rfl rfl rfl rfl rfl ⟨rfl, rfl, rfl, rfl, rfl⟩ rfl rfl rfl rfl rfl named Try.func3 (joined_of whole q1 q2 q3 q4)
    inst wrap (fun os started H enc _ => lifted os started H enc)

/-- THE STATEMENT. -/
theorem proved : Rows.TruthLedgersSaid := over
#print axioms proved
end Go.Proofs.Ytklajbdbnnceiaa.truthLedgersDone
