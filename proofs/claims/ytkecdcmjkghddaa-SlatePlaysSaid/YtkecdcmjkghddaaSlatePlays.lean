/- SlatePlays: step by step each answer of the device, and all its sectors, are what the document says. -/
import Derived.Test.YtkecdcmjkghddaaSlpKb
import Derived.Test.YtkecdcmjkghddaaRows
namespace Go.Proofs.Ytkecdcmjkghddaa.slatePlaysDone
open Go.ChangeShapes Go.WideShapes Go.ChangeAt Go.RowKit Go Go.Fw Go.Proofs.Ytkecdcmjkghddaa
open Go.ChangeMaps (open_string shut_string)
set_option linter.unusedVariables false
set_option maxRecDepth 100000

theorem lifted (os : Os) (started : os.Started) (H : Type) (enc : TypeId × Value → H) :
    ReturnsInHanded {} Try.checked os 4 .any (Rows.slatePlaysSpec.pre6 enc Try.prog Try.f4 Rows.slatePlaysRow.domain false) (Rows.slatePlaysSpec.post enc Try.prog Try.f4 false true false false) := by
  refine returnsInHanded_of_change_sized (C := Try.checked) ownK started (by kernel_rfl) Try.func4
    (ChangeSpec.witness6 (enc := enc) (C := Try.checked) false ⟨#[], #[.int .i64 0, .slice none 0 0, .int .i64 0], []⟩ 8 (by kernel_rfl) (by kernel_rfl) (by kernel_rfl) (by kernel_rfl)) ?_
  intro W base args ds gs before hval0 hW hcnd hsz _
  have hval : ∀ (j : Nat) t v, Try.f4.params[j]? = some t → args[j]? = some v → Value.okWide Try.prog W .any base t v := hval0
  have hW' := hW
  obtain ⟨p, q, hA0, hV, rfl, hfz, hnd⟩ := hW
  have hA : DataW.TrodAll enc Try.prog W 0 (fun _ => true) true Try.f4.params.toList args.toList ds p := hA0
  rw [Try.params4] at hA hval
  obtain ⟨v0, vs0, d0, ds0, p0, q0, hargs, rfl, rfl, h0, r0⟩ := trodAll_cons hA
  obtain ⟨v1, vs1, d1, ds1, p1, q1, rfl, rfl, rfl, h1, r1⟩ := trodAll_cons r0
  obtain ⟨v2, vs2, d2, ds2, p2, q2, rfl, rfl, rfl, h2, r2⟩ := trodAll_cons r1
  obtain ⟨rfl, rfl, rfl⟩ := trodAll_nil r2
  obtain rfl : args = #[v0, v1, v2] := by cases args; simp_all
  obtain ⟨rfl, rfl⟩ := trodVars_none hV
  clear hA0 hval0
  have k0 := h0
  have lt0 : ∀ x ∈ p0, x.block < W.heap.size := by obtain ⟨m, hm⟩ := k0; exact DataW.trod_lt m _ _ _ hm
  have k1 := h1
  have lt1 : ∀ x ∈ p1, x.block < W.heap.size := by obtain ⟨m, hm⟩ := k1; exact DataW.trod_lt m _ _ _ hm
  have k2 := h2
  have lt2 : ∀ x ∈ p2, x.block < W.heap.size := by obtain ⟨m, hm⟩ := k2; exact DataW.trod_lt m _ _ _ hm
  obtain ⟨n0, rfl, hn0⟩ := opI un3 (hval 0 3 v0 rfl rfl) h0
  obtain ⟨ops1, hops1, hq1⟩ := opSG (α := O14) (f := O14.c) (p := fun y => y.b.length = 64 ∧ y.n ≤ 9223372036854775807 ∧ (-9223372036854775808 ≤ y.a ∧ y.a ≤ 9223372036854775807)) (m := 67) un22 (by kernel_rfl) (by decide) (fun fu cs x h => by
    obtain ⟨k, a, n, l, he, hl, _, ha, hn⟩ := trodIIIA Try.underlying32 (by kernel_rfl) (by kernel_rfl) (by kernel_rfl) un28 un5 rfl rfl rfl rfl (by kernel_rfl) (by kernel_rfl) (by kernel_rfl) (by kernel_rfl) (by kernel_rfl) (by kernel_rfl) h
    exact ⟨⟨k, a, n, l⟩, he, O14.len hl, hl, hn.2, ha⟩) (hval 1 22 v1 rfl rfl) h1
  obtain ⟨n2, rfl, hn2⟩ := opI un3 (hval 2 3 v2 rfl rfl) h2
  refine Calls.mono (law_SlatePlays n0 n2 ops1 (fun y hy => (hops1 y hy).2.1) (fun y hy => (hops1 y hy).2.2.1) v1 W hq1) fun e W' ⟨v, he, hf, hv⟩ => ?_
  subst he hv
  exact ⟨_, rfl, _, _, _, [], _, [], hW', trodAll_mk1 (shut_bool Try.underlying4 _), (trodAll_cons_mk (Below.trod laid (by kernel_rfl) (of_decide_eq_true (by kernel_rfl)) k0 (Fr.below hf) lt0) (trodAll_cons_mk (Below.trod laid (by kernel_rfl) (of_decide_eq_true (by kernel_rfl)) k1 (Fr.below hf) lt1) (trodAll_cons_mk (Below.trod laid (by kernel_rfl) (of_decide_eq_true (by kernel_rfl)) k2 (Fr.below hf) lt2) trodAll_mk0))), rfl, (Fr.below hf).frame _, fun h => by cases h⟩

theorem named : Try.pinned.checked.prog.funcNamed Rows.slatePlaysRow.func = some 4 := by kernel_rfl
theorem q1 : (Rows.slatePlaysRow.inPlace == Try.prog.inPlace 4) = true := by kernel_rfl
theorem q2 : (Rows.slatePlaysRow.unfollowed == Try.prog.unfollowed 4) = true := by kernel_rfl
theorem q3 : (Rows.slatePlaysRow.recurses == Try.prog.recurses 4) = true := by kernel_rfl
theorem q4 : rowB true Try.prog 4 Try.f4 Rows.slatePlaysSpec Rows.slatePlaysRow = true := by kernel_rfl
theorem inst : Try.f4.isInstance Try.pinned.checked.prog Rows.slatePlaysRow.origin Rows.slatePlaysRow.targs := of_decide_eq_true (by kernel_rfl)
theorem wrap : Try.f4.isWrapper Try.pinned.checked.prog Rows.slatePlaysRow.wrapper Rows.slatePlaysRow.mainSum := by unfold Func.isWrapper; first | (rw [if_pos (by decide +kernel)]; kernel_rfl) | (rw [if_neg (by decide +kernel)]; exact ⟨rfl, rfl⟩)
theorem over : Rows.slatePlaysRow.holds Try.pinned (OpenSpec.ofChange Rows.slatePlaysSpec) :=
  OpenClaim.holds_of_wide 4 Try.f4 rfl rfl rfl rfl rfl rfl rfl ⟨rfl, rfl, rfl, rfl, rfl⟩ rfl rfl rfl rfl rfl named Try.func4 (joined_of whole q1 q2 q3 q4)
    inst wrap (fun os started H enc _ => lifted os started H enc)

/-- THE STATEMENT. -/
theorem proved : Rows.SlatePlaysSaid := over
#print axioms proved
end Go.Proofs.Ytkecdcmjkghddaa.slatePlaysDone
