/- MacShorts: the short sum of any parts, of any kind, is the one of the document; it is that of the parts as one. Where what is handed in holds at most 1048576 values. -/
import Derived.Test.YtmgnnclkjkbmdaaRows
import Derived.Test.YtmgnnclkjkbmdaaGb
import Derived.Test.YtmgnnclkjkbmdaaGc
import Derived.Test.YtmgnnclkjkbmdaaGg
import Derived.Test.YtmgnnclkjkbmdaaGj
namespace Go.Proofs.Ytmgnnclkjkbmdaa.macShortsDone
open Go.ChangeShapes Go.WideShapes Go.ChangeAt Go.RowKit Go Go.Fw Go.Proofs.Ytmgnnclkjkbmdaa
open Go.ChangeMaps (open_string shut_string)
set_option linter.unusedVariables false
set_option maxRecDepth 100000

theorem lifted (os : Os) (started : os.Started) (H : Type) (enc : TypeId × Value → H) (F : Stop.Interp) :
    ReturnsInHanded {} Try.checked os 18 .any ((Rows.OpenSpec.upto Rows.macShortsSpec).pre6 enc Try.prog Try.f18 Rows.macShortsUptoRow.domain false) (((Rows.OpenSpec.upto Rows.macShortsSpec).at F).post enc Try.prog Try.f18 false true false false) := by
  refine returnsInHanded_of_cond (C := Try.checked) (s := (Rows.OpenSpec.upto Rows.macShortsSpec)) (k := Rows.uptoSmall) rfl ownK started (by kernel_rfl) Try.func18
    (OpenSpec.witness (enc := enc) (C := Try.checked) (s := (Rows.OpenSpec.upto Rows.macShortsSpec)) (k := Rows.uptoSmall) rfl false ⟨#[], #[.int .u8 0, .slice none 0 0], []⟩ 8 (by kernel_rfl) (by kernel_rfl) (by kernel_rfl) (x := ([.lit (.int .u8 0), .nil], [], [])) (by kernel_rfl) rfl (by kernel_rfl)) ?_
  intro W base args ds gs before hval0 hW hcnd hk _
  have hval : ∀ (j : Nat) t v, Try.f18.params[j]? = some t → args[j]? = some v → Value.okWide Try.prog W .any base t v := hval0
  have hW' := hW
  obtain ⟨p, q, hA0, hV, rfl, hfz, hnd⟩ := hW
  have hA : DataW.TrodAll enc Try.prog W 0 (fun _ => true) true Try.f18.params.toList args.toList ds p := hA0
  rw [Try.params18] at hA hval
  obtain ⟨v0, vs0, d0, ds0, p0, q0, hargs, rfl, rfl, h0, r0⟩ := trodAll_cons hA
  obtain ⟨v1, vs1, d1, ds1, p1, q1, rfl, rfl, rfl, h1, r1⟩ := trodAll_cons r0
  obtain ⟨rfl, rfl, rfl⟩ := trodAll_nil r1
  obtain rfl : args = #[v0, v1] := by cases args; simp_all
  obtain ⟨rfl, rfl⟩ := trodVars_none hV
  clear hA0 hval0
  have k0 := h0
  have lt0 : ∀ x ∈ p0, x.block < W.heap.size := by obtain ⟨m, hm⟩ := k0; exact DataW.trod_lt m _ _ _ hm
  have k1 := h1
  have lt1 : ∀ x ∈ p1, x.block < W.heap.size := by obtain ⟨m, hm⟩ := k1; exact DataW.trod_lt m _ _ _ hm
  obtain ⟨b0, rfl⟩ := opB un5 (hval 0 5 v0 rfl rfl) h0
  obtain ⟨l1, rr1, g1⟩ := opSP un30 un34 un5 (by kernel_rfl) (by kernel_rfl) (hval 1 30 v1 rfl rfl) h1
  have hz1 := opSP_up hk (by simp) g1
  refine Calls.mono (law_MacShorts b0 l1 v1 hz1.1 W rr1) fun e W' ⟨v, he, hf, hv⟩ => ?_
  subst he hv
  exact ⟨_, rfl, _, _, _, [], _, [], hW', trodAll_mk1 (shut_bool Try.underlying4 _), (trodAll_cons_mk (Below.trod laid (by kernel_rfl) (of_decide_eq_true (by kernel_rfl)) k0 (Fr.below hf) lt0) (trodAll_cons_mk (Below.trod laid (by kernel_rfl) (of_decide_eq_true (by kernel_rfl)) k1 (Fr.below hf) lt1) trodAll_mk0)), rfl, (Fr.below hf).frame _, fun h => by cases h⟩

theorem named : Try.pinned.checked.prog.funcNamed Rows.macShortsUptoRow.func = some 18 := by kernel_rfl
theorem q1 : (Rows.macShortsUptoRow.inPlace == Try.prog.inPlace 18) = true := by kernel_rfl
theorem q2 : (Rows.macShortsUptoRow.unfollowed == Try.prog.unfollowed 18) = true := by kernel_rfl
theorem q3 : (Rows.macShortsUptoRow.recurses == Try.prog.recurses 18) = true := by kernel_rfl
theorem q4 : rowB Try.prog 18 Try.f18 (Rows.OpenSpec.upto Rows.macShortsSpec).bare Rows.macShortsUptoRow = true := by kernel_rfl
theorem inst : Try.f18.isInstance Try.pinned.checked.prog Rows.macShortsUptoRow.origin Rows.macShortsUptoRow.targs := of_decide_eq_true (by kernel_rfl)
theorem wrap : Try.f18.isWrapper Try.pinned.checked.prog Rows.macShortsUptoRow.wrapper Rows.macShortsUptoRow.mainSum := by unfold Func.isWrapper; first | (rw [if_pos (by decide +kernel)]; kernel_rfl) | (rw [if_neg (by decide +kernel)]; exact ⟨rfl, rfl⟩)
theorem over : Rows.macShortsUptoRow.holds Try.pinned (Rows.OpenSpec.upto Rows.macShortsSpec) :=
  OpenClaim.holds_of_cond 18 Try.f18 rfl rfl rfl rfl rfl rfl rfl ⟨rfl, rfl, rfl, rfl, rfl⟩ rfl rfl rfl rfl rfl named Try.func18 (joined_of whole q1 q2 q3 q4)
    inst wrap (fun os started H enc _ F => lifted os started H enc F)

/-- THE STATEMENT. -/
theorem proved : Rows.MacShortsUptoSaid := over
#print axioms proved
end Go.Proofs.Ytmgnnclkjkbmdaa.macShortsDone
