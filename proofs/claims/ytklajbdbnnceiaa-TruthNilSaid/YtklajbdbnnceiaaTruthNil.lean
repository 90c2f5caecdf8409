/- TruthNil: no oracle and no ledger answer what the document says. -/
import Derived.Test.YtklajbdbnnceiaaTruKb
import Derived.Test.YtklajbdbnnceiaaRows
namespace Go.Proofs.Ytklajbdbnnceiaa.truthNilDone
open Go.ChangeShapes Go.WideShapes Go.ChangeAt Go.RowKit Go Go.Fw Go.Proofs.Ytklajbdbnnceiaa
open Go.ChangeMaps (open_string shut_string)
set_option linter.unusedVariables false
set_option maxRecDepth 100000

theorem lifted (os : Os) (started : os.Started) (H : Type) (enc : TypeId × Value → H) :
    ReturnsInHanded {} Try.checked os 4 .any (Rows.truthNilSpec.pre6 enc Try.prog Try.f4 Rows.truthNilRow.domain false) (Rows.truthNilSpec.post enc Try.prog Try.f4 false true false false) := by
  refine returnsInHanded_of_change_sized (C := Try.checked) ownK started (by kernel_rfl) Try.func4
    (ChangeSpec.witness6 (enc := enc) (C := Try.checked) false ⟨#[], #[.agg (Array.mk ([Value.int .i64 0] ++ List.replicate 2 (Value.int .u32 0) ++ List.replicate 2 (Value.int .i64 0)))], []⟩ 8 (by kernel_rfl) (by kernel_rfl) (by kernel_rfl) (by kernel_rfl)) ?_
  intro W base args ds gs before hval0 hW hcnd hsz _
  have hval : ∀ (j : Nat) t v, Try.f4.params[j]? = some t → args[j]? = some v → Value.okWide Try.prog W .any base t v := hval0
  have hW' := hW
  obtain ⟨p, q, hA0, hV, rfl, hfz, hnd⟩ := hW
  have hA : DataW.TrodAll enc Try.prog W 0 (fun _ => true) true Try.f4.params.toList args.toList ds p := hA0
  rw [Try.params4] at hA hval
  obtain ⟨v0, vs0, d0, ds0, p0, q0, hargs, rfl, rfl, h0, r0⟩ := trodAll_cons hA
  obtain ⟨rfl, rfl, rfl⟩ := trodAll_nil r0
  obtain rfl : args = #[v0] := by cases args; simp_all
  obtain ⟨rfl, rfl⟩ := trodVars_none hV
  clear hA0 hval0
  have k0 := h0
  have lt0 : ∀ x ∈ p0, x.block < W.heap.size := by obtain ⟨m, hm⟩ := k0; exact DataW.trod_lt m _ _ _ hm
  obtain ⟨d0, ep0, sq0, mt0, sn0, rfl, hd0, hmt0, hsn0⟩ := opIK Try.underlying27 (by kernel_rfl) Try.underlying25 (by kernel_rfl) (by kernel_rfl) (by kernel_rfl) (by kernel_rfl) rfl rfl rfl rfl rfl rfl (by kernel_rfl) (by kernel_rfl) (by kernel_rfl) (by kernel_rfl) (by kernel_rfl) (by kernel_rfl) (by kernel_rfl) (hval 0 27 v0 rfl rfl) h0
  refine Calls.mono (law_TruthNil ⟨d0, ep0, sq0, mt0, sn0⟩ W) fun e W' ⟨v, he, hf, hv⟩ => ?_
  subst he hv
  exact ⟨_, rfl, _, _, _, [], _, [], hW', trodAll_mk1 (shut_bool Try.underlying4 _), (trodAll_cons_mk (Below.trod laid (by kernel_rfl) (of_decide_eq_true (by kernel_rfl)) k0 (Fr.below hf) lt0) trodAll_mk0), rfl, (Fr.below hf).frame _, fun h => by cases h⟩

theorem named : Try.pinned.checked.prog.funcNamed Rows.truthNilRow.func = some 4 := by kernel_rfl
theorem q1 : (Rows.truthNilRow.inPlace == Try.prog.inPlace 4) = true := by kernel_rfl
theorem q2 : (Rows.truthNilRow.unfollowed == Try.prog.unfollowed 4) = true := by kernel_rfl
theorem q3 : (Rows.truthNilRow.recurses == Try.prog.recurses 4) = true := by kernel_rfl
theorem q4 : rowB false Try.prog 4 Try.f4 Rows.truthNilSpec Rows.truthNilRow = true := by kernel_rfl
theorem inst : Try.f4.isInstance Try.pinned.checked.prog Rows.truthNilRow.origin Rows.truthNilRow.targs := of_decide_eq_true (by kernel_rfl)
theorem wrap : Try.f4.isWrapper Try.pinned.checked.prog Rows.truthNilRow.wrapper Rows.truthNilRow.mainSum := by unfold Func.isWrapper; first | (rw [if_pos (by decide +kernel)]; kernel_rfl) | (rw [if_neg (by decide +kernel)]; exact ⟨rfl, rfl⟩)
theorem over : Rows.truthNilRow.holds Try.pinned (OpenSpec.ofChange Rows.truthNilSpec) :=
  OpenClaim.holds_of_wide 4 Try.f4 rfl rfl rfl rfl rfl rfl rfl ⟨rfl, rfl, rfl, rfl, rfl⟩ rfl rfl rfl rfl rfl named Try.func4 (joined_of whole q1 q2 q3 q4)
    inst wrap (fun os started H enc _ => lifted os started H enc)

/-- THE STATEMENT. -/
theorem proved : Rows.TruthNilSaid := over
#print axioms proved
end Go.Proofs.Ytklajbdbnnceiaa.truthNilDone
