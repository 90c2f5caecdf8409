/- OtsRecovers: what any links lead to, for any message, is the answer of the document. -/
import Derived.Test.YtmgnnclkjkbmdaaRows
import Derived.Test.YtmgnnclkjkbmdaaGb
import Derived.Test.YtmgnnclkjkbmdaaGc
import Derived.Test.YtmgnnclkjkbmdaaGg
import Derived.Test.YtmgnnclkjkbmdaaGh
import Derived.Test.YtmgnnclkjkbmdaaGk
namespace Go.Proofs.Ytmgnnclkjkbmdaa.otsRecoversDone
open Go.ChangeShapes Go.WideShapes Go.ChangeAt Go.RowKit Go Go.Fw Go.Proofs.Ytmgnnclkjkbmdaa
open Go.ChangeMaps (open_string shut_string)
set_option linter.unusedVariables false
set_option maxRecDepth 100000

/-- What is handed in, all zero. -/
def wI : Input := ⟨#[], #[.agg (Array.mk ([Value.int .i64 0] ++ [Value.int .u32 0])), .agg (Array.mk (List.replicate 16 (Value.int .u8 0))), .agg (Array.mk (List.replicate 1088 (Value.int .u8 0)))], []⟩
theorem okIn (os : Os) : Input.okWide Try.checked.prog (World.plainHolding Try.checked.prog os wI) .any (World.plainHolding Try.checked.prog os wI).heap.size 11 ⟨#[], wI.args, []⟩ := by
  refine ⟨by simp, by simp, by kernel_rfl, Try.f11, Try.func11, by kernel_rfl, by kernel_rfl, by kernel_rfl, by kernel_rfl, fun j t v hj hv => ?_⟩
  rw [Try.params11] at hj
  match j, hj, hv with
  | 0, hj, hv => cases hj; cases hv; exact Value.okWide_of_okWideB (by kernel_rfl)
  | 1, hj, hv => cases hj; cases hv; exact Value.okWide_of_okWideB (by kernel_rfl)
  | 2, hj, hv =>
    cases hj; cases hv
    exact okWideZZ (n := 68) (m := 16) (dd := Try.prog.depth - 3) Try.underlying33 Try.underlying22 Try.underlying5 (by kernel_rfl) (by kernel_rfl) (by decide) (Cell.okWide_of_okWideB (by kernel_rfl))
  | j + 3, hj, _ => simp at hj
theorem wholeIn (os : Os) {H : Type} (enc : TypeId × Value → H) : DataW.whole enc Try.prog (World.plainHolding Try.checked.prog os wI).memory [29, 22, 33] [] false wI.args.toList 8 =
    some ([.agg [.lit (.int .i64 0), .lit (.int .u32 0)], .agg (List.replicate 16 (.lit (.int .u8 0))), .agg (List.replicate 68 (.agg (List.replicate 16 (.lit (.int .u8 0)))))], [], []) := by
  have h1 : DataW.trod enc Try.prog (World.plainHolding Try.checked.prog os wI).memory 0 (fun _ => true) true 8 29 [.int .i64 0, .int .u32 0] = some (.agg [.lit (.int .i64 0), .lit (.int .u32 0)], []) := by kernel_rfl
  have h2 : DataW.trod enc Try.prog (World.plainHolding Try.checked.prog os wI).memory 0 (fun _ => true) true 8 22 (List.replicate 16 (.int .u8 0)) = some (.agg (List.replicate 16 (.lit (.int .u8 0))), []) := trodZ2 (fu := 6) Try.underlying22 Try.underlying5 (by kernel_rfl) (by kernel_rfl)
  have h3 : DataW.trod enc Try.prog (World.plainHolding Try.checked.prog os wI).memory 0 (fun _ => true) true 8 33 (List.replicate 1088 (.int .u8 0)) = some (.agg (List.replicate 68 (.agg (List.replicate 16 (.lit (.int .u8 0))))), []) := trodZZ (fu := 5) (n := 68) (m := 16) Try.underlying33 Try.underlying22 Try.underlying5 (by kernel_rfl) (by kernel_rfl) (by kernel_rfl)
  have e : wI.args.toList = [.agg (Array.mk [.int .i64 0, .int .u32 0]), .agg (Array.mk (List.replicate 16 (Value.int .u8 0))), .agg (Array.mk (List.replicate 1088 (Value.int .u8 0)))] := rfl
  rw [e]
  unfold DataW.whole
  simp only [DataW.trodAll, Value.cells, h1, h2, h3]
  rfl
theorem preIn (os : Os) {H : Type} (enc : TypeId × Value → H) : Rows.otsRecoversSpec.preB enc Try.prog Try.f11 Rows.otsRecoversRow.domain false (World.plainHolding Try.checked.prog os wI).memory wI.args 8 = true := by
  have h := wholeIn os enc
  unfold ChangeSpec.preB
  rw [show Try.f11.params.toList = [29, 22, 33] from rfl, show Rows.otsRecoversSpec.vars = [] from rfl, h]
  rfl
theorem szIn (os : Os) {H : Type} (enc : TypeId × Value → H) : Rows.otsRecoversSpec.sizedB enc Try.prog Try.f11 false (World.plainHolding Try.checked.prog os wI).memory wI.args 8 = true := by
  have h := wholeIn os enc
  unfold ChangeSpec.sizedB
  rw [show Try.f11.params.toList = [29, 22, 33] from rfl, show Rows.otsRecoversSpec.vars = [] from rfl, h]
  have hp : (Try.prog.platform == "linux/amd64/v1") = true := by kernel_rfl
  rw [hp, Bool.true_and]
  have hg : (DataW.weightsEach Try.prog ([29, 22, 33] ++ Rows.otsRecoversSpec.plain.varTypes Try.prog) (([.agg [.lit (.int .i64 0), .lit (.int .u32 0)], .agg (List.replicate 16 (.lit (.int .u8 0))), .agg (List.replicate 68 (.agg (List.replicate 16 (.lit (.int .u8 0)))))] : List (DataW H)) ++ [])).all (· ≤ reachBytes) = true := by kernel_rfl
  exact hg
theorem lifted (os : Os) (started : os.Started) (H : Type) (enc : TypeId × Value → H) :
    ReturnsInHanded {} Try.checked os 11 .any (Rows.otsRecoversSpec.pre6 enc Try.prog Try.f11 Rows.otsRecoversRow.domain false) (Rows.otsRecoversSpec.post enc Try.prog Try.f11 false true false false) := by
  refine returnsInHanded_of_change_sized (C := Try.checked) ownK started (by kernel_rfl) Try.func11
    (witnessBy (enc := enc) (C := Try.checked) false wI 8 (by kernel_rfl) (by kernel_rfl) (okIn os) (preIn os enc) (szIn os enc) (by kernel_rfl)) ?_
  intro W base args ds gs before hval0 hW hcnd hsz _
  have hval : ∀ (j : Nat) t v, Try.f11.params[j]? = some t → args[j]? = some v → Value.okWide Try.prog W .any base t v := hval0
  have hW' := hW
  obtain ⟨p, q, hA0, hV, rfl, hfz, hnd⟩ := hW
  have hA : DataW.TrodAll enc Try.prog W 0 (fun _ => true) true Try.f11.params.toList args.toList ds p := hA0
  rw [Try.params11] at hA hval
  obtain ⟨v0, vs0, d0, ds0, p0, q0, hargs, rfl, rfl, h0, r0⟩ := trodAll_cons hA
  obtain ⟨v1, vs1, d1, ds1, p1, q1, rfl, rfl, rfl, h1, r1⟩ := trodAll_cons r0
  obtain ⟨v2, vs2, d2, ds2, p2, q2, rfl, rfl, rfl, h2, r2⟩ := trodAll_cons r1
  obtain ⟨rfl, rfl, rfl⟩ := trodAll_nil r2
  obtain rfl : args = #[v0, v1, v2] := by cases args; simp_all
  obtain ⟨rfl, rfl⟩ := trodVars_none hV
  clear hA0 hval0
  have k0 := h0
  have lt0 : ∀ x ∈ p0, x.block < W.heap.size := by obtain ⟨m, hm⟩ := k0; exact DataW.trod_lt m _ _ _ hm
  have k1 := h1
  have lt1 : ∀ x ∈ p1, x.block < W.heap.size := by obtain ⟨m, hm⟩ := k1; exact DataW.trod_lt m _ _ _ hm
  have k2 := h2
  have lt2 : ∀ x ∈ p2, x.block < W.heap.size := by obtain ⟨m, hm⟩ := k2; exact DataW.trod_lt m _ _ _ hm
  obtain ⟨d0, i0, rfl, hd0⟩ := opIU Try.underlying29 (by kernel_rfl) (by kernel_rfl) rfl rfl (by kernel_rfl) (by kernel_rfl) (by kernel_rfl) (hval 0 29 v0 rfl rfl) h0
  obtain ⟨l1, hl1, rfl⟩ := opA un22 un5 (by kernel_rfl) (by kernel_rfl) (hval 1 22 v1 rfl rfl) h1
  obtain ⟨l2, hl2, rfl⟩ := opAA un33 un22 un5 (by kernel_rfl) (by kernel_rfl) (by kernel_rfl) (hval 2 33 v2 rfl rfl) h2
  refine Calls.mono (law_OtsRecovers d0 i0 l1 l2 hl1 hl2 W) fun e W' ⟨v, he, hf, hv⟩ => ?_
  subst he hv
  exact ⟨_, rfl, _, _, _, [], _, [], hW', trodAll_mk1 (shut_bool Try.underlying4 _), (trodAll_cons_mk (Below.trod laid (by kernel_rfl) (of_decide_eq_true (by kernel_rfl)) k0 (Fr.below hf) lt0) (trodAll_cons_mk (Below.trod laid (by kernel_rfl) (of_decide_eq_true (by kernel_rfl)) k1 (Fr.below hf) lt1) (trodAll_cons_mk (Below.trod laid (by kernel_rfl) (of_decide_eq_true (by kernel_rfl)) k2 (Fr.below hf) lt2) trodAll_mk0))), rfl, (Fr.below hf).frame _, fun h => by cases h⟩

theorem named : Try.pinned.checked.prog.funcNamed Rows.otsRecoversRow.func = some 11 := by kernel_rfl
theorem q1 : (Rows.otsRecoversRow.inPlace == Try.prog.inPlace 11) = true := by kernel_rfl
theorem q2 : (Rows.otsRecoversRow.unfollowed == Try.prog.unfollowed 11) = true := by kernel_rfl
theorem q3 : (Rows.otsRecoversRow.recurses == Try.prog.recurses 11) = true := by kernel_rfl
theorem q4 : rowB Try.prog 11 Try.f11 Rows.otsRecoversSpec Rows.otsRecoversRow = true := by kernel_rfl
theorem inst : Try.f11.isInstance Try.pinned.checked.prog Rows.otsRecoversRow.origin Rows.otsRecoversRow.targs := of_decide_eq_true (by kernel_rfl)
theorem wrap : Try.f11.isWrapper Try.pinned.checked.prog Rows.otsRecoversRow.wrapper Rows.otsRecoversRow.mainSum := by unfold Func.isWrapper; first | (rw [if_pos (by decide +kernel)]; kernel_rfl) | (rw [if_neg (by decide +kernel)]; exact ⟨rfl, rfl⟩)
theorem over : Rows.otsRecoversRow.holds Try.pinned (OpenSpec.ofChange Rows.otsRecoversSpec) :=
  OpenClaim.holds_of_wide 11 Try.f11 rfl rfl rfl rfl rfl rfl rfl ⟨rfl, rfl, rfl, rfl, rfl⟩ rfl rfl rfl rfl rfl named Try.func11 (joined_of whole q1 q2 q3 q4)
    inst wrap (fun os started H enc _ => lifted os started H enc)

/-- THE STATEMENT. -/
theorem proved : Rows.OtsRecoversSaid := over
#print axioms proved
end Go.Proofs.Ytmgnnclkjkbmdaa.otsRecoversDone
