/- ShaHexes: the digits of any bytes, and the bytes of any digits, or that they are none, are those of the document; what was written is read back. Where what is handed in holds at most 1048576 values. -/
import Derived.Test.YtmgnnclkjkbmdaaRows
import Derived.Test.YtmgnnclkjkbmdaaGb
import Derived.Test.YtmgnnclkjkbmdaaGc
import Derived.Test.YtmgnnclkjkbmdaaGg
import Derived.Test.YtmgnnclkjkbmdaaGj
namespace Go.Proofs.Ytmgnnclkjkbmdaa.shaHexesDone
open Go.ChangeShapes Go.WideShapes Go.ChangeAt Go.RowKit Go Go.Fw Go.Proofs.Ytmgnnclkjkbmdaa
open Go.ChangeMaps (open_string shut_string)
set_option linter.unusedVariables false
set_option maxRecDepth 100000

theorem lifted (os : Os) (started : os.Started) (H : Type) (enc : TypeId × Value → H) (F : Stop.Interp) :
    ReturnsInHanded {} Try.checked os 10 .any ((Rows.OpenSpec.upto Rows.shaHexesSpec).pre6 enc Try.prog Try.f10 Rows.shaHexesUptoRow.domain false) (((Rows.OpenSpec.upto Rows.shaHexesSpec).at F).post enc Try.prog Try.f10 false true false false) := by
  refine returnsInHanded_of_cond (C := Try.checked) (s := (Rows.OpenSpec.upto Rows.shaHexesSpec)) (k := Rows.uptoSmall) rfl ownK started (by kernel_rfl) Try.func10
    (OpenSpec.witness (enc := enc) (C := Try.checked) (s := (Rows.OpenSpec.upto Rows.shaHexesSpec)) (k := Rows.uptoSmall) rfl false ⟨#[], #[.slice none 0 0, .string ⟨#[]⟩], []⟩ 8 (by kernel_rfl) (by kernel_rfl) (by kernel_rfl) (x := ([.nil, .lit (.string [])], [], [])) (by kernel_rfl) rfl (by kernel_rfl)) ?_
  intro W base args ds gs before hval0 hW hcnd hk _
  have hval : ∀ (j : Nat) t v, Try.f10.params[j]? = some t → args[j]? = some v → Value.okWide Try.prog W .any base t v := hval0
  have hW' := hW
  obtain ⟨p, q, hA0, hV, rfl, hfz, hnd⟩ := hW
  have hA : DataW.TrodAll enc Try.prog W 0 (fun _ => true) true Try.f10.params.toList args.toList ds p := hA0
  rw [Try.params10] at hA hval
  obtain ⟨v0, vs0, d0, ds0, p0, q0, hargs, rfl, rfl, h0, r0⟩ := trodAll_cons hA
  obtain ⟨v1, vs1, d1, ds1, p1, q1, rfl, rfl, rfl, h1, r1⟩ := trodAll_cons r0
  obtain ⟨rfl, rfl, rfl⟩ := trodAll_nil r1
  obtain rfl : args = #[v0, v1] := by cases args; simp_all
  obtain ⟨rfl, rfl⟩ := trodVars_none hV
  clear hA0 hval0
  have k0 := h0
  have lt0 : ∀ x ∈ p0, x.block < W.heap.size := by obtain ⟨m, hm⟩ := k0; exact DataW.trod_lt m _ _ _ hm
  have k1 := h1
  have lt1 : ∀ x ∈ p1, x.block < W.heap.size := by obtain ⟨m, hm⟩ := k1; exact DataW.trod_lt m _ _ _ hm
  obtain ⟨l0, rr0, g0⟩ := opSl un34 un5 (by kernel_rfl) (hval 0 34 v0 rfl rfl) h0
  have hz0 := opSl_up hk (by simp) g0
  obtain ⟨l1, rfl, rfl⟩ := opStr un9 (hval 1 9 v1 rfl rfl) h1
  have hz1 := opStr_up hk (l := l1) (by simp)
  refine Calls.mono (law_ShaHexes l0 l1 v0 hz0 hz1 W rr0) fun e W' ⟨v, he, hf, hv⟩ => ?_
  subst he hv
  exact ⟨_, rfl, _, _, _, [], _, [], hW', trodAll_mk1 (shut_bool Try.underlying4 _), (trodAll_cons_mk (Below.trod laid (by kernel_rfl) (of_decide_eq_true (by kernel_rfl)) k0 (Fr.below hf) lt0) (trodAll_cons_mk (Below.trod laid (by kernel_rfl) (of_decide_eq_true (by kernel_rfl)) k1 (Fr.below hf) lt1) trodAll_mk0)), rfl, (Fr.below hf).frame _, fun h => by cases h⟩

theorem named : Try.pinned.checked.prog.funcNamed Rows.shaHexesUptoRow.func = some 10 := by kernel_rfl
theorem q1 : (Rows.shaHexesUptoRow.inPlace == Try.prog.inPlace 10) = true := by kernel_rfl
theorem q2 : (Rows.shaHexesUptoRow.unfollowed == Try.prog.unfollowed 10) = true := by kernel_rfl
theorem q3 : (Rows.shaHexesUptoRow.recurses == Try.prog.recurses 10) = true := by kernel_rfl
theorem q4 : rowB Try.prog 10 Try.f10 (Rows.OpenSpec.upto Rows.shaHexesSpec).bare Rows.shaHexesUptoRow = true := by kernel_rfl
theorem inst : Try.f10.isInstance Try.pinned.checked.prog Rows.shaHexesUptoRow.origin Rows.shaHexesUptoRow.targs := of_decide_eq_true (by kernel_rfl)
theorem wrap : Try.f10.isWrapper Try.pinned.checked.prog Rows.shaHexesUptoRow.wrapper Rows.shaHexesUptoRow.mainSum := by unfold Func.isWrapper; first | (rw [if_pos (by decide +kernel)]; kernel_rfl) | (rw [if_neg (by decide +kernel)]; exact ⟨rfl, rfl⟩)
theorem over : Rows.shaHexesUptoRow.holds Try.pinned (Rows.OpenSpec.upto Rows.shaHexesSpec) :=
  OpenClaim.holds_of_cond 10 Try.f10 rfl rfl rfl rfl rfl rfl rfl ⟨rfl, rfl, rfl, rfl, rfl⟩ rfl rfl rfl rfl rfl named Try.func10 (joined_of whole q1 q2 q3 q4)
    inst wrap (fun os started H enc _ F => lifted os started H enc F)

/-- THE STATEMENT. -/
theorem proved : Rows.ShaHexesUptoSaid := over
#print axioms proved
end Go.Proofs.Ytmgnnclkjkbmdaa.shaHexesDone
