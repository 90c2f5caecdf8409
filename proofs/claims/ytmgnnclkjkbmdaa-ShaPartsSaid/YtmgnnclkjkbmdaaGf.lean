/- Own texts of this seat, laid together: Fw24, MacLawsD, MacLawsE, MacLawsF, OtsSpec, OtsA, OtsApartW, OtsB. -/
import Derived.Test.YtmgnnclkjkbmdaaGa
import Derived.Test.YtmgnnclkjkbmdaaGb
import Derived.Test.YtmgnnclkjkbmdaaGc
import Derived.Test.YtmgnnclkjkbmdaaGd
import Derived.Test.YtmgnnclkjkbmdaaGe
/- Appending to an empty literal in a region that draws; calls there with things as arguments; stores into a slice's elements. -/
section
set_option linter.unusedSimpArgs false
set_option linter.unusedVariables false
namespace Go.Fw
open Go
section
variable {P : Program} {w : World} {t : TypeId}
theorem run_app0 {ty E : TypeId} {ed : TypeDesc} {zs : List Value} {g : Nat} {u : Value} {p : List UInt8} (hu : P.underlying t = some (.slice E)) (hE : Ty P E ed 1 1 zs) (hg : w.heap[g]? = some (.cells #[] E (0, 0))) (hr : RdB w u p) (hle : p.length ≤ 140737488355328) :
    ∃ v' w', (Builtin.append_ #[t, t] ty #[.slice (some ⟨g, 0, none⟩) 0 0, u]).run P w = .ok v' w' ∧ Fr0 w w' ∧ RdB w' v' p := by
  obtain ⟨inf, hi1, hi2, hi3, zv, hi4, hi5⟩ := hE.info
  have hown : w.ownsRow 0 E 1 (.slice (some ⟨g, 0, none⟩) 0 0) 0 [] := ⟨rfl, .inr ⟨g, 0, #[], rfl, Nat.zero_le _, hg, Nat.le_refl _, Nat.zero_le _, rfl, rfl⟩⟩
  obtain ⟨v', w', hrun, ho, _, _, _⟩ := run_append2 (P := P) (ty := ty) hu hE (by decide) hown hr (by simp) (all_map_B p) (by unfold maxLen; omega) (by omega)
  refine ⟨v', w', hrun, ?_, ?_⟩
  · rcases hr.src with ⟨rfl, h2, h3⟩ | ⟨ad, cap, rfl, hnews⟩
    · have hr2 := run_append_owned_none (P := P) w 0 t ty E inf 1 hu hi1 _ 0 [] hown
      rw [hrun] at hr2
      rw [(Result.ok.inj hr2).2]
      exact .refl _ _
    · by_cases hm : p.length = 0
      · have hp : p = [] := List.eq_nil_of_length_eq_zero hm
        subst hp
        have hr2 := run_append_room (P := P) w t ty E inf hu hi1 g 0 0 #[] hg ad 0 cap [] (by simp) (by simp) (by simp) (Nat.le_refl _) (by simp)
        rw [show (([] : List UInt8).length) = 0 from rfl] at hrun
        rw [hrun] at hr2
        rw [(Result.ok.inj hr2).2]
        have h5 := setRow_self w g #[] E (0, 0) hg
        simp only [Nat.zero_mul, List.take_zero, List.nil_append, List.length_nil, Nat.add_zero, List.drop_zero]
        rw [h5]
        exact .refl _ _
      · have hr2 := run_append_grow (P := P) w t ty E inf zv hu hi1 hi4 ⟨g, 0, none⟩ 0 0 [] (by simp) (by simp) ad p.length cap (p.map B) (by rw [hi2]; simp) hnews (by omega) (by omega) (growslice_fits (by omega) (by rw [hi3]; omega))
        rw [hrun] at hr2
        rw [(Result.ok.inj hr2).2]
        exact (Fr.drew w).trans0 (Fr.alloc _ _)
  · have h6 : w'.ownsRow 0 E 1 v' p.length (p.map B) := by simpa using ho
    exact RdB.row h6
end
section
variable {P : Program} {ops : Array Oper} {N B1 : Nat} {w1 : World} {K : List (Nat × Value) → Fes → Prop} {Fc : List (Nat × Value)} {Fe : Fes} {rest : List Oper}
variable {d : Tmp} {op : Op} {ty t : TypeId} {pos : String} {aft : Array Edge}
/-- append([]byte literal, ..): what comes reads as the bytes. -/
theorem rg_app0 {n0 : Nat} {x0 : Operand} {E : TypeId} {ed : TypeDesc} {zs : List Value} {u : Value} {p : List UInt8} (hu : P.underlying t = some (.slice E)) (hE : Ty P E ed 1 1 zs)
    (hn : lookE Fe n0 = some (fun v L _ => ∃ g, v = .slice (some ⟨g, 0, none⟩) 0 0 ∧ L = [.seg g [] E]))
    (hx : ev Fc x0 = some u) (hr : ∀ w, Fr0 w1 w → RdB w u p) (hle : p.length ≤ 140737488355328)
    (hm : (tmpsOf ⟨some d, .call { callee := .builtin .append, args := #[.tmp n0, x0], argTypes := #[t, t] }, ty, pos, aft, none⟩).any (Nat.beq n0) = true) (hC : look Fc d = none)
    (k : RG P ops N B1 w1 K Fc ((d, fun v L w => RdB w v p ∧ L = []) :: Fe) rest) :
    RG P ops N B1 w1 K Fc Fe (⟨some d, .call { callee := .builtin .append, args := #[.tmp n0, x0], argTypes := #[t, t] }, ty, pos, aft, none⟩ :: rest) :=
  rg_e (fun v L w => RdB w v p ∧ L = []) (fun v L w w' hf h => ⟨h.1.fr0 hf, h.2⟩) (fun a w h => by
    obtain ⟨v, L', he, ⟨g, rfl, rfl⟩, hhas⟩ := h.ent hn hm
    have hg : w.heap[g]? = some (.cells #[] E (0, 0)) := hhas.holds _ (List.mem_singleton.2 rfl)
    obtain ⟨v', w', hrun, hf, hrd⟩ := run_app0 (P := P) (w := w) (ty := ty) hu hE hg (hr w h.fr) hle
    have hrun' : (execOp a.eval ⟨some d, .call { callee := .builtin .append, args := #[.tmp n0, x0], argTypes := #[t, t] }, ty, pos, aft, none⟩).run P w = .ok (.value v') w' := by
      simp [execOp, resolve, invoke, builtin, he, h.ev hx, hrun]
    rw [hrun']
    exact ⟨[], ⟨hrd, rfl⟩, hf, .nil _ _⟩) hC k
/-- A call that comes to a known value, whose arguments are things. -/
theorem rg_callV {f : FuncId} {args : Array Operand} {tys : Array TypeId} {c : Value} (hF : Fun P f)
    (hc : ∀ a w, RC N Fc Fe ⟨some d, .call { callee := .value (.func f), args := args, argTypes := tys }, ty, pos, aft, none⟩ B1 w1 a w → ∃ vs, Evs a args.toList vs ∧ Ctr P f vs w (fun _ => False) fun v _ => v = c) (hE : lookE Fe d = none)
    (k : RG P ops N B1 w1 K ((d, c) :: Fc) Fe rest) : RG P ops N B1 w1 K Fc Fe (⟨some d, .call { callee := .value (.func f), args := args, argTypes := tys }, ty, pos, aft, none⟩ :: rest) :=
  ⟨d, .c c, rfl, .inl ⟨rfl, fun a w h => by
    obtain ⟨vs, h1, h2⟩ := hc a w h
    rw [run_call hF h1]
    exact Calls.mono h2 fun e w' ⟨v, he, hf, hv⟩ => ⟨v, he, [], ⟨hv, rfl⟩, hf, .nil _ _⟩⟩, hE, k⟩
end
end Go.Fw
end

/- Laws of keyed sums, walked: what holds. -/
section
set_option linter.unusedSimpArgs false
set_option linter.unusedVariables false
set_option maxRecDepth 100000
namespace Go.Proofs.Ytmgnnclkjkbmdaa
open Go Go.Fw

open Sha
theorem or_zero_iff (a b : UInt8) : a ||| b = 0 ↔ a = 0 ∧ b = 0 := by
  constructor
  · intro h
    have h1 := congrArg UInt8.toNat h
    rw [UInt8.toNat_or] at h1
    have h2 : a.toNat ||| b.toNat = 0 := h1
    have h3 := Nat.or_eq_zero_iff.1 h2
    exact ⟨UInt8.toNat_inj.1 (by simpa using h3.1), UInt8.toNat_inj.1 (by simpa using h3.2)⟩
  · rintro ⟨rfl, rfl⟩; rfl
theorem diff_step (a b : List UInt8) (k : Nat) (ha : k < a.length) (hb : k < b.length) (x : UInt8) (h : x = 0 ↔ a.take k = b.take k) :
    (x ||| (a.getD k 0 ^^^ b.getD k 0)) = 0 ↔ a.take (k + 1) = b.take (k + 1) := by
  have e1 : a.getD k 0 = a[k] := by simp [List.getD, ha]
  have e2 : b.getD k 0 = b[k] := by simp [List.getD, hb]
  rw [or_zero_iff, h, UInt8.xor_eq_zero_iff, e1, e2, List.take_succ_eq_append_getElem ha, List.take_succ_eq_append_getElem hb]
  constructor
  · rintro ⟨h1, h2⟩; rw [h1, h2]
  · intro h1
    have h2 := List.append_inj h1 (by simp; omega)
    exact ⟨h2.1, by simpa using h2.2⟩

-- mac.Equal
set_option maxHeartbeats 4000000 in
theorem mac_Equal (a b : List UInt8) (av bv : Value) (w : World) (hqa : RdB w av a) (hqb : RdB w bv b) : Ctr Try.prog 111 [av, bv] w (fun _ => False) (fun v _ => v = .bool (decide (a = b))) := by
  have hal := hqa.le
  have hbl := hqb.le
  obtain ⟨aad, acap, rfl, hac, ham⟩ := Rd.sl hqa
  obtain ⟨bad, bcap, rfl, hbc, hbm⟩ := Rd.sl hqb
  refine fn_start (N := 31) Try.func111 rfl rfl rfl fun ac hk => ?_
  have hs := St.start hk w
  refine wp_seq ?_
  refine wp_reg ?_
  refine s_q hs (c_assign (hs.ev rfl)) rfl fun ac hs => ?_
  refine s_end ?_
  refine then_n ?_
  refine wp_seq ?_
  refine wp_seq ?_
  refine wp_reg ?_
  refine s_q hs (c_move (hs.ev rfl)) rfl fun ac hs => ?_
  refine s_q hs (c_lenS un34 (hs.ev rfl)) rfl fun ac hs => ?_
  refine s_q hs (c_move (hs.ev rfl)) rfl fun ac hs => ?_
  refine s_q hs (c_lenS un34 (hs.ev rfl)) rfl fun ac hs => ?_
  refine s_q hs (c_neqI (hs.ev rfl) (hs.ev rfl)) rfl fun ac hs => ?_
  refine s_end ?_
  replace hs := hs.sub (F' := [(0, _), (1, _), (4, _), (11, _)]) ⟨rfl, rfl, rfl, rfl, trivial⟩
  refine then_n ?_
  refine s_cond hs rfl (fun hc => ?_) (fun hc => ?_)
  · try simp only [decide_eq_true_eq, decide_eq_false_iff_not, Bool.not_eq_true', Bool.not_eq_false', Bool.and_eq_true, Bool.or_eq_true, Bool.or_eq_false_iff] at hc
    have hne : a ≠ b := fun e => by subst e; simp at hc
    refine wp_seq ?_
    refine wp_reg ?_
    refine s_q hs (c_assign (hs.ev rfl)) rfl fun ac hs => ?_
    refine s_end ?_
    replace hs := hs.sub (F' := [(0, _), (1, _), (4, _)]) ⟨rfl, rfl, rfl, trivial⟩
    refine then_n ?_
    refine wp_ret ?_
    refine then_r ?_
    refine s_ret hs rfl (.tmp (hs.tmp rfl) .nil) rfl ⟨_, rfl, hs.fr, ?_⟩
    show Value.bool false = _
    rw [decide_eq_false hne]
  · try simp only [decide_eq_true_eq, decide_eq_false_iff_not, Bool.not_eq_true', Bool.not_eq_false', Bool.and_eq_true, Bool.or_eq_true, Bool.or_eq_false_iff] at hc
    have hlen : a.length = b.length := Int.ofNat_inj.1 (by simpa using hc)
    refine wp_skip ?_
    refine then_n ?_
    refine wp_seq ?_
    refine wp_reg ?_
    refine s_q hs (c_assign (St.ev (v := B 0) hs rfl)) rfl fun ac hs => ?_
    refine s_end ?_
    replace hs := hs.sub (F' := [(0, _), (1, _), (4, _), (5, _)]) ⟨rfl, rfl, rfl, rfl, trivial⟩
    refine then_n ?_
    refine wp_seq ?_
    refine wp_seq ?_
    refine wp_reg ?_
    refine s_q hs (c_move (hs.ev rfl)) rfl fun ac hs => ?_
    refine s_q hs (c_lenS un34 (hs.ev rfl)) rfl fun ac hs => ?_
    refine s_q hs (c_move (hs.ev rfl)) rfl fun ac hs => ?_
    refine s_end ?_
    replace hs := hs.sub (F' := [(0, _), (1, _), (4, _), (5, _), (13, _), (14, _)]) ⟨rfl, rfl, rfl, rfl, rfl, rfl, trivial⟩
    refine then_n ?_
    refine wp_block ?_
    refine s_loop hs (X := Nat × UInt8) (fun x => [(5, B x.2), (14, I x.1)]) [(0, _), (1, _), (4, _), (13, _)] (fun _ => []) (fun n x => x.1 ≤ a.length ∧ n = a.length - x.1 ∧ (x.2 = 0 ↔ a.take x.1 = b.take x.1)) (a.length) ((0, 0)) (⟨Nat.zero_le _, rfl, by simp⟩) ⟨rfl, rfl, rfl, rfl, rfl, rfl, trivial⟩ rfl ?_
    rintro n ⟨k, x⟩ ac ww hok hs
    simp only [List.cons_append, List.nil_append] at hs
    obtain ⟨hk, rfl, hx⟩ := hok
    simp only at hk hx hs
    refine wp_seq ?_
    refine wp_reg ?_
    refine s_q hs (c_lssI (hs.ev rfl) (hs.ev rfl)) rfl fun ac hs => ?_
    refine s_end ?_
    refine then_n ?_
    refine wp_seq ?_
    refine s_cond hs rfl (fun hc => ?_) (fun hc => ?_)
    · try simp only [decide_eq_true_eq, decide_eq_false_iff_not, Bool.not_eq_true', Bool.not_eq_false', Bool.and_eq_true, Bool.or_eq_true, Bool.or_eq_false_iff] at hc
      obtain ⟨pb, po, pT, pf, pall, rfl, hpb, hps⟩ := hqa.at' (by omega)
      obtain ⟨rb, ro, rT, rf, rall, rfl, hrb, hrs⟩ := hqb.at' (by omega)
      refine wp_skip ?_
      refine then_n ?_
      refine wp_seq ?_
      refine wp_block ?_
      refine wp_seq ?_
      refine wp_reg ?_
      refine s_q hs (c_move (hs.ev rfl)) rfl fun ac hs => ?_
      refine s_q hs (c_assign (hs.ev rfl)) rfl fun ac hs => ?_
      refine s_end ?_
      refine then_n ?_
      refine wp_region_rg pmix 12 (by kernel_rfl) rfl hs ?_
      simp only [List.take_succ_cons, List.take_zero]
      refine rg_q (fun ac ww h => c_move (h.ev rfl)) rfl ?_
      refine rg_q (fun ac ww h => c_move (h.ev rfl)) rfl ?_
      refine rg_q (fun ac ww h => c_move (h.ev rfl)) rfl ?_
      refine rg_q (fun ac ww h => c_idxS (j := k) un34 ty5 (h.ev rfl) (h.ev rfl) (by omega) (by omega)) rfl ?_
      refine rg_q (fun ac ww h => c_loadS un5 rfl (h.ev rfl) (h.blk (hs.old hpb id)) (seg_get 0 hps (by omega))) rfl ?_
      refine rg_q (fun ac ww h => c_move (h.ev rfl)) rfl ?_
      refine rg_q (fun ac ww h => c_move (h.ev rfl)) rfl ?_
      refine rg_q (fun ac ww h => c_idxS (j := k) un34 ty5 (h.ev rfl) (h.ev rfl) (by omega) (by omega)) rfl ?_
      refine rg_q (fun ac ww h => c_loadS un5 rfl (h.ev rfl) (h.blk (hs.old hrb id)) (seg_get 0 hrs (by omega))) rfl ?_
      refine rg_q (fun ac ww h => c_xorB (h.ev rfl) (h.ev rfl)) rfl ?_
      refine rg_q (fun ac ww h => c_orB (h.ev rfl) (h.ev rfl)) rfl ?_
      refine rg_q (fun ac ww h => c_assign (h.ev rfl)) rfl ?_
      refine rg_nil fun ac ww L' hf hfe hs => ?_
      simp only [List.drop_succ_cons, List.drop_zero]
      obtain rfl : L' = [] := hfe
      replace hs := hs.toL (List.nil_append _)
      refine s_end ?_
      refine blk_n ?_
      refine then_n ?_
      refine wp_reg ?_
      refine s_q hs (c_addI (hs.ev rfl) (hs.ev rfl) (by omega) (by omega)) rfl fun ac hs => ?_
      refine s_q hs (c_move (hs.ev rfl)) rfl fun ac hs => ?_
      refine s_end ?_
      refine then_n ?_
      exact ⟨a.length - (k + 1), by (try simp only); omega, (k + 1, _), ⟨by (try simp only); omega, rfl, diff_step a b k (by omega) (by omega) x hx⟩, St.next hs ⟨rfl, rfl, rfl, rfl, rfl, rfl, trivial⟩ rfl⟩
    · try simp only [decide_eq_true_eq, decide_eq_false_iff_not, Bool.not_eq_true', Bool.not_eq_false', Bool.and_eq_true, Bool.or_eq_true, Bool.or_eq_false_iff] at hc
      obtain rfl : k = a.length := by omega
      rw [List.take_length, hlen, List.take_length] at hx
      refine wp_exit ?_
      refine then_e ?_
      refine then_e ?_
      refine blk_hit ?_
      refine then_n ?_
      refine wp_seq ?_
      refine wp_reg ?_
      refine s_q hs (c_move (hs.ev rfl)) rfl fun ac hs => ?_
      refine s_q hs (c_eqlB (hs.ev rfl) (St.ev (v := B 0) hs rfl)) rfl fun ac hs => ?_
      refine s_q hs (c_assign (hs.ev rfl)) rfl fun ac hs => ?_
      refine s_end ?_
      replace hs := hs.sub (F' := [(4, _)]) ⟨rfl, trivial⟩
      refine then_n ?_
      refine wp_ret ?_
      refine s_ret hs rfl (.tmp (hs.tmp rfl) .nil) rfl ⟨_, rfl, hs.fr, ?_⟩
      show Value.bool _ = Value.bool _
      refine congrArg Value.bool ?_
      by_cases e : a = b
      · rw [hx.2 e]; simp [e]
      · have := fun h => e (hx.1 h)
        simp [e]
        exact this

end Go.Proofs.Ytmgnnclkjkbmdaa
end

/- Laws of keyed sums, walked: picking. -/
section
set_option linter.unusedSimpArgs false
set_option linter.unusedVariables false
set_option maxRecDepth 100000
namespace Go.Proofs.Ytmgnnclkjkbmdaa
open Go Go.Fw

open Sha
def pickW (c : Bool) (a b : List UInt8) : List UInt8 := bif c then b else a
theorem pickW_len (c : Bool) (a b : List UInt8) (ha : a.length = 16) (hb : b.length = 16) : (pickW c a b).length = 16 := by cases c <;> simp [pickW, ha, hb]
theorem and_255 (y : UInt8) : y &&& 255 = y := by
  apply UInt8.toNat_inj.1
  have h : (255 : UInt8).toNat = 2 ^ 8 - 1 := rfl
  rw [UInt8.toNat_and, h, Nat.and_two_pow_sub_one_eq_mod]
  have := y.toNat_lt
  omega
theorem pick_t (x y : UInt8) : (x &&& ~~~(255 : UInt8)) ||| (y &&& 255) = y := by
  rw [show ~~~(255 : UInt8) = 0 from rfl, UInt8.and_zero, UInt8.zero_or, and_255]
theorem pick_f (x y : UInt8) : (x &&& ~~~(0 : UInt8)) ||| (y &&& 0) = x := by
  rw [show ~~~(0 : UInt8) = 255 from rfl, UInt8.and_zero, UInt8.or_zero, and_255]
theorem pick_set (c : Bool) (a b : List UInt8) (k : Nat) (hk : k < 16) (ha : a.length = 16) (hb : b.length = 16) (x : UInt8) (hx : x = (pickW c a b).getD k 0) :
    ((pickW c a b).take k ++ a.drop k).set k x = (pickW c a b).take (k + 1) ++ a.drop (k + 1) := by
  have hl := pickW_len c a b ha hb
  have h1 : ((pickW c a b).take k).length = k := by rw [List.length_take]; omega
  have h2 : (pickW c a b).getD k 0 = (pickW c a b)[k]'(by omega) := by simp [List.getD, hl, hk]
  rw [List.set_append_right _ _ (by omega), h1, Nat.sub_self, List.drop_eq_getElem_cons (show k < a.length by omega), List.set_cons_zero, List.take_succ_eq_append_getElem (show k < (pickW c a b).length by omega), hx, h2, List.append_assoc]
  rfl
theorem pick_len (c : Bool) (a b : List UInt8) (k : Nat) (hk : k ≤ 16) (ha : a.length = 16) (hb : b.length = 16) : ((pickW c a b).take k ++ a.drop k).length = 16 := by
  rw [List.length_append, List.length_take, List.length_drop, pickW_len c a b ha hb]; omega
theorem pick_get (c : Bool) (a b : List UInt8) (k : Nat) (hk : k < 16) (ha : a.length = 16) (hb : b.length = 16) : ((pickW c a b).take k ++ a.drop k).getD k 0 = a.getD k 0 := by
  have h1 : ((pickW c a b).take k).length = k := by rw [List.length_take, pickW_len c a b ha hb]; omega
  rw [List.getD, List.getElem?_append_right (by omega), h1, Nat.sub_self, List.getElem?_drop]
  rfl

-- mac.Same
set_option maxHeartbeats 4000000 in
theorem mac_Same (a b : List UInt8) (ha : a.length = 16) (hb : b.length = 16) (w : World)  : Ctr Try.prog 112 [.agg (a.map B).toArray, .agg (b.map B).toArray] w (fun _ => False) (fun v _ => v = .bool (decide (a = b))) := by
  refine fn_start (N := 8) Try.func112 rfl rfl rfl fun ac hk => ?_
  have hs := St.start hk w
  refine wp_seq ?_
  refine wp_reg ?_
  refine s_box hs rfl rfl rfl fun ac ww g2 hs => ?_
  refine s_box hs rfl rfl rfl fun ac ww g3 hs => ?_
  refine s_q hs (c_assign (hs.ev rfl)) rfl fun ac hs => ?_
  refine s_end ?_
  replace hs := hs.sub (F' := [(2, _), (3, _), (4, _)]) ⟨rfl, rfl, rfl, trivial⟩
  refine then_n ?_
  refine wp_seq ?_
  refine wp_region_rg pmix 2 (by kernel_rfl) rfl hs ?_
  simp only [List.take_succ_cons, List.take_zero]
  refine rg_q (fun ac ww h => c_sliceA un54 ty5 (h.ev rfl)) rfl ?_
  refine rg_q (fun ac ww h => c_sliceA un54 ty5 (h.ev rfl)) rfl ?_
  refine rg_nil fun ac ww L' hf hfe hs => ?_
  simp only [List.drop_succ_cons, List.drop_zero]
  obtain rfl : L' = [] := hfe
  replace hs := hs.toL (List.nil_append _)
  refine s_call hs fu111 (.cons (hs.ev rfl) (.cons (hs.ev rfl) .nil)) (mac_Equal a b _ _ _ (RdB.segn (hs.seg (i := 1) rfl) ha (by decide)) (RdB.segn (hs.seg (i := 0) rfl) hb (by decide))) rfl fun ac ww v7 hf hp hs => ?_
  obtain rfl := hp
  replace hs := hs [] (.nil _ _)
  refine s_q hs (c_assign (hs.ev rfl)) rfl fun ac hs => ?_
  refine s_end ?_
  replace hs := hs.sub (F' := [(4, _)]) ⟨rfl, trivial⟩
  refine then_n ?_
  refine wp_ret ?_
  refine s_ret hs rfl (.tmp (hs.tmp rfl) .nil) rfl ⟨_, rfl, hs.fr, ?_⟩
  rfl

-- mac.Pick
set_option maxHeartbeats 4000000 in
theorem mac_Pick (which : Bool) (a b : List UInt8) (ha : a.length = 16) (hb : b.length = 16) (w : World)  : Ctr Try.prog 113 [.bool which, .agg (a.map B).toArray, .agg (b.map B).toArray] w (fun _ => False) (fun v _ => v = .agg ((pickW which a b).map B).toArray) := by
  refine fn_start (N := 28) Try.func113 rfl rfl rfl fun ac hk => ?_
  have hs := St.start hk w
  refine wp_seq ?_
  refine wp_reg ?_
  refine s_box hs rfl rfl rfl fun ac ww g4 hs => ?_
  refine s_box hs rfl rfl rfl fun ac ww g5 hs => ?_
  refine s_alloc hs ty54 rfl fun ac ww g6 hs => ?_
  refine s_end ?_
  replace hs := hs.sub (F' := [(0, _), (4, _), (5, _), (6, _)]) ⟨rfl, rfl, rfl, rfl, trivial⟩
  refine then_n ?_
  refine wp_seq ?_
  refine wp_reg ?_
  refine s_q hs (c_assign (St.ev (v := B 0) hs rfl)) rfl fun ac hs => ?_
  refine s_end ?_
  refine then_n ?_
  refine wp_seq ?_
  refine wp_seq ?_
  refine wp_reg ?_
  refine s_q hs (c_move (hs.ev rfl)) rfl fun ac hs => ?_
  refine s_end ?_
  replace hs := hs.sub (F' := [(4, _), (5, _), (6, _), (7, _), (9, _)]) ⟨rfl, rfl, rfl, rfl, rfl, trivial⟩
  refine then_n ?_
  refine s_cond hs rfl (fun hc => ?_) (fun hc => ?_)
  · try simp only [decide_eq_true_eq, decide_eq_false_iff_not, Bool.not_eq_true', Bool.not_eq_false', Bool.and_eq_true, Bool.or_eq_true, Bool.or_eq_false_iff] at hc
    have hc0 : which = true := hc
    refine wp_reg ?_
    refine s_q hs (c_assign (St.ev (v := B 255) hs rfl)) rfl fun ac hs => ?_
    refine s_end ?_
    replace hs := hs.sub (F' := [(4, _), (5, _), (6, _), (7, _)]) ⟨rfl, rfl, rfl, rfl, trivial⟩
    refine then_n ?_
    refine wp_seq ?_
    refine wp_seq ?_
    refine wp_reg ?_
    refine s_q hs (c_move (hs.ev rfl)) rfl fun ac hs => ?_
    refine s_end ?_
    refine then_n ?_
    refine wp_block ?_
    refine s_loop hs (X := Nat) (fun k => [(10, I k)]) [(4, _), (5, _), (6, _), (7, _)] (fun k => [.seg g6 ((List.replicate 16 (0 : UInt8)).map B) 54, .seg g5 (b.map B) 54, .seg g4 (((pickW which a b).take k ++ a.drop k).map B) 54]) (fun n k => k ≤ 16 ∧ n = 16 - k) (16) (0) (⟨Nat.zero_le _, rfl⟩) ⟨rfl, rfl, rfl, rfl, rfl, trivial⟩ rfl ?_
    rintro n k ac ww hok hs
    simp only [List.cons_append, List.nil_append] at hs
    obtain ⟨hk, rfl⟩ := hok
    have hz := pick_len which a b k hk ha hb
    refine wp_seq ?_
    refine wp_reg ?_
    refine s_q hs (c_lssI (hs.ev rfl) (hs.ev rfl)) rfl fun ac hs => ?_
    refine s_end ?_
    refine then_n ?_
    refine wp_seq ?_
    refine s_cond hs rfl (fun hc => ?_) (fun hc => ?_)
    · try simp only [decide_eq_true_eq, decide_eq_false_iff_not, Bool.not_eq_true', Bool.not_eq_false', Bool.and_eq_true, Bool.or_eq_true, Bool.or_eq_false_iff] at hc
      refine wp_skip ?_
      refine then_n ?_
      refine wp_seq ?_
      refine wp_block ?_
      refine wp_seq ?_
      refine wp_reg ?_
      refine s_q hs (c_move (hs.ev rfl)) rfl fun ac hs => ?_
      refine s_q hs (c_assign (hs.ev rfl)) rfl fun ac hs => ?_
      refine s_end ?_
      refine then_n ?_
      refine wp_region_rg pmix 13 (by kernel_rfl) rfl hs ?_
      simp only [List.take_succ_cons, List.take_zero]
      refine rg_q (fun ac ww h => c_move (h.ev rfl)) rfl ?_
      refine rg_q (fun ac ww h => c_move (h.ev rfl)) rfl ?_
      refine rg_q (fun ac ww h => c_idxA (j := k) un54 ty5 (h.ev rfl) (h.ev rfl) (by omega) (by omega)) rfl ?_
      refine rg_q (fun ac ww h => c_loadS un5 rfl (h.ev rfl) (h.blk (hs.seg (i := 2) rfl)) ((map_get 0 (by omega)).trans (by rw [pick_get _ _ _ _ (by omega) ha hb]))) rfl ?_
      refine rg_q (fun ac ww h => c_move (h.ev rfl)) rfl ?_
      refine rg_q (fun ac ww h => c_andNotB (h.ev rfl) (h.ev rfl)) rfl ?_
      refine rg_q (fun ac ww h => c_move (h.ev rfl)) rfl ?_
      refine rg_q (fun ac ww h => c_idxA (j := k) un54 ty5 (h.ev rfl) (h.ev rfl) (by omega) (by omega)) rfl ?_
      refine rg_q (fun ac ww h => c_loadS un5 rfl (h.ev rfl) (h.blk (hs.seg (i := 1) rfl)) (map_get 0 (by omega))) rfl ?_
      refine rg_q (fun ac ww h => c_move (h.ev rfl)) rfl ?_
      refine rg_q (fun ac ww h => c_andB (h.ev rfl) (h.ev rfl)) rfl ?_
      refine rg_q (fun ac ww h => c_orB (h.ev rfl) (h.ev rfl)) rfl ?_
      refine rg_q (fun ac ww h => c_idxA (j := k) un54 ty5 (h.ev rfl) (h.ev rfl) (by omega) (by omega)) rfl ?_
      refine rg_nil fun ac ww L' hf hfe hs => ?_
      simp only [List.drop_succ_cons, List.drop_zero]
      obtain rfl : L' = [] := hfe
      replace hs := hs.toL (List.nil_append _)
      refine s_store (i := 2) hs ty5 rfl rfl rfl rfl rfl rfl (by rw [List.length_map]; omega) ((map_set _ (by omega)).trans (congrArg (List.map B) (pick_set which a b k (by omega) ha hb _ (by first | exact (pick_t _ _).trans (by simp [pickW, hc0]) | exact (pick_f _ _).trans (by simp [pickW, hc0]))))) fun ww hs => ?_
      refine s_end ?_
      refine blk_n ?_
      refine then_n ?_
      refine wp_reg ?_
      refine s_q hs (c_addI (hs.ev rfl) (hs.ev rfl) (by omega) (by omega)) rfl fun ac hs => ?_
      refine s_q hs (c_move (hs.ev rfl)) rfl fun ac hs => ?_
      refine s_end ?_
      refine then_n ?_
      exact ⟨16 - (k + 1), by omega, k + 1, ⟨by omega, rfl⟩, St.next hs ⟨rfl, rfl, rfl, rfl, rfl, trivial⟩ rfl⟩
    · try simp only [decide_eq_true_eq, decide_eq_false_iff_not, Bool.not_eq_true', Bool.not_eq_false', Bool.and_eq_true, Bool.or_eq_true, Bool.or_eq_false_iff] at hc
      obtain rfl : k = 16 := by omega
      have hwl := pickW_len which a b ha hb
      rw [List.take_of_length_le (by omega), List.drop_of_length_le (by omega), List.append_nil] at hs
      refine wp_exit ?_
      refine then_e ?_
      refine then_e ?_
      refine blk_hit ?_
      refine then_n ?_
      refine wp_seq ?_
      refine wp_reg ?_
      refine s_q hs (c_loadW ty54 rfl (hs.ev rfl) (hs.seg (i := 2) rfl) (by simp [hwl])) rfl fun ac hs => ?_
      refine s_storeW (i := 0) hs ty54 rfl rfl rfl (by simp [hwl]) (all_map_B _) rfl fun ww hs => ?_
      refine s_end ?_
      replace hs := hs.sub (F' := [(6, _)]) ⟨rfl, trivial⟩
      refine then_n ?_
      refine wp_ret ?_
      refine s_ret hs rfl (.cell (hs.tmp rfl) (run_loadA ty54 rfl (hs.seg (i := 0) rfl) (List.take_of_length_le (by simp [hwl])) (by simp [hwl])) .nil) rfl ⟨_, rfl, hs.fr, ?_⟩
      rfl
  · try simp only [decide_eq_true_eq, decide_eq_false_iff_not, Bool.not_eq_true', Bool.not_eq_false', Bool.and_eq_true, Bool.or_eq_true, Bool.or_eq_false_iff] at hc
    have hc0 : which = false := hc
    refine wp_skip ?_
    refine then_n ?_
    refine wp_seq ?_
    refine wp_seq ?_
    refine wp_reg ?_
    refine s_q hs (c_move (hs.ev rfl)) rfl fun ac hs => ?_
    refine s_end ?_
    replace hs := hs.sub (F' := [(4, _), (5, _), (6, _), (7, _), (10, _)]) ⟨rfl, rfl, rfl, rfl, rfl, trivial⟩
    refine then_n ?_
    refine wp_block ?_
    refine s_loop hs (X := Nat) (fun k => [(10, I k)]) [(4, _), (5, _), (6, _), (7, _)] (fun k => [.seg g6 ((List.replicate 16 (0 : UInt8)).map B) 54, .seg g5 (b.map B) 54, .seg g4 (((pickW which a b).take k ++ a.drop k).map B) 54]) (fun n k => k ≤ 16 ∧ n = 16 - k) (16) (0) (⟨Nat.zero_le _, rfl⟩) ⟨rfl, rfl, rfl, rfl, rfl, trivial⟩ rfl ?_
    rintro n k ac ww hok hs
    simp only [List.cons_append, List.nil_append] at hs
    obtain ⟨hk, rfl⟩ := hok
    have hz := pick_len which a b k hk ha hb
    refine wp_seq ?_
    refine wp_reg ?_
    refine s_q hs (c_lssI (hs.ev rfl) (hs.ev rfl)) rfl fun ac hs => ?_
    refine s_end ?_
    refine then_n ?_
    refine wp_seq ?_
    refine s_cond hs rfl (fun hc => ?_) (fun hc => ?_)
    · try simp only [decide_eq_true_eq, decide_eq_false_iff_not, Bool.not_eq_true', Bool.not_eq_false', Bool.and_eq_true, Bool.or_eq_true, Bool.or_eq_false_iff] at hc
      refine wp_skip ?_
      refine then_n ?_
      refine wp_seq ?_
      refine wp_block ?_
      refine wp_seq ?_
      refine wp_reg ?_
      refine s_q hs (c_move (hs.ev rfl)) rfl fun ac hs => ?_
      refine s_q hs (c_assign (hs.ev rfl)) rfl fun ac hs => ?_
      refine s_end ?_
      refine then_n ?_
      refine wp_region_rg pmix 13 (by kernel_rfl) rfl hs ?_
      simp only [List.take_succ_cons, List.take_zero]
      refine rg_q (fun ac ww h => c_move (h.ev rfl)) rfl ?_
      refine rg_q (fun ac ww h => c_move (h.ev rfl)) rfl ?_
      refine rg_q (fun ac ww h => c_idxA (j := k) un54 ty5 (h.ev rfl) (h.ev rfl) (by omega) (by omega)) rfl ?_
      refine rg_q (fun ac ww h => c_loadS un5 rfl (h.ev rfl) (h.blk (hs.seg (i := 2) rfl)) ((map_get 0 (by omega)).trans (by rw [pick_get _ _ _ _ (by omega) ha hb]))) rfl ?_
      refine rg_q (fun ac ww h => c_move (h.ev rfl)) rfl ?_
      refine rg_q (fun ac ww h => c_andNotB (h.ev rfl) (h.ev rfl)) rfl ?_
      refine rg_q (fun ac ww h => c_move (h.ev rfl)) rfl ?_
      refine rg_q (fun ac ww h => c_idxA (j := k) un54 ty5 (h.ev rfl) (h.ev rfl) (by omega) (by omega)) rfl ?_
      refine rg_q (fun ac ww h => c_loadS un5 rfl (h.ev rfl) (h.blk (hs.seg (i := 1) rfl)) (map_get 0 (by omega))) rfl ?_
      refine rg_q (fun ac ww h => c_move (h.ev rfl)) rfl ?_
      refine rg_q (fun ac ww h => c_andB (h.ev rfl) (h.ev rfl)) rfl ?_
      refine rg_q (fun ac ww h => c_orB (h.ev rfl) (h.ev rfl)) rfl ?_
      refine rg_q (fun ac ww h => c_idxA (j := k) un54 ty5 (h.ev rfl) (h.ev rfl) (by omega) (by omega)) rfl ?_
      refine rg_nil fun ac ww L' hf hfe hs => ?_
      simp only [List.drop_succ_cons, List.drop_zero]
      obtain rfl : L' = [] := hfe
      replace hs := hs.toL (List.nil_append _)
      refine s_store (i := 2) hs ty5 rfl rfl rfl rfl rfl rfl (by rw [List.length_map]; omega) ((map_set _ (by omega)).trans (congrArg (List.map B) (pick_set which a b k (by omega) ha hb _ (by first | exact (pick_t _ _).trans (by simp [pickW, hc0]) | exact (pick_f _ _).trans (by simp [pickW, hc0]))))) fun ww hs => ?_
      refine s_end ?_
      refine blk_n ?_
      refine then_n ?_
      refine wp_reg ?_
      refine s_q hs (c_addI (hs.ev rfl) (hs.ev rfl) (by omega) (by omega)) rfl fun ac hs => ?_
      refine s_q hs (c_move (hs.ev rfl)) rfl fun ac hs => ?_
      refine s_end ?_
      refine then_n ?_
      exact ⟨16 - (k + 1), by omega, k + 1, ⟨by omega, rfl⟩, St.next hs ⟨rfl, rfl, rfl, rfl, rfl, trivial⟩ rfl⟩
    · try simp only [decide_eq_true_eq, decide_eq_false_iff_not, Bool.not_eq_true', Bool.not_eq_false', Bool.and_eq_true, Bool.or_eq_true, Bool.or_eq_false_iff] at hc
      obtain rfl : k = 16 := by omega
      have hwl := pickW_len which a b ha hb
      rw [List.take_of_length_le (by omega), List.drop_of_length_le (by omega), List.append_nil] at hs
      refine wp_exit ?_
      refine then_e ?_
      refine then_e ?_
      refine blk_hit ?_
      refine then_n ?_
      refine wp_seq ?_
      refine wp_reg ?_
      refine s_q hs (c_loadW ty54 rfl (hs.ev rfl) (hs.seg (i := 2) rfl) (by simp [hwl])) rfl fun ac hs => ?_
      refine s_storeW (i := 0) hs ty54 rfl rfl rfl (by simp [hwl]) (all_map_B _) rfl fun ww hs => ?_
      refine s_end ?_
      replace hs := hs.sub (F' := [(6, _)]) ⟨rfl, trivial⟩
      refine then_n ?_
      refine wp_ret ?_
      refine s_ret hs rfl (.cell (hs.tmp rfl) (run_loadA ty54 rfl (hs.seg (i := 0) rfl) (List.take_of_length_le (by simp [hwl])) (by simp [hwl])) .nil) rfl ⟨_, rfl, hs.fr, ?_⟩
      rfl

end Go.Proofs.Ytmgnnclkjkbmdaa
end

/- Laws of keyed sums, walked: what holds. -/
section
set_option linter.unusedSimpArgs false
set_option linter.unusedVariables false
set_option maxRecDepth 100000
namespace Go.Proofs.Ytmgnnclkjkbmdaa
open Go Go.Fw

open Sha
-- fingerpostlaw05.MacHolds
set_option maxHeartbeats 4000000 in
theorem law_MacHolds (a b x y : List UInt8) (which : Bool) (av bv : Value) (hla : a.length ≤ 140737488351232) (hx : x.length = 16) (hy : y.length = 16) (w : World) (hqa : RdB w av a) (hqb : RdB w bv b) : Ctr Try.prog 23 [av, bv, .agg (x.map B).toArray, .agg (y.map B).toArray, .bool which] w (fun _ => False) (fun v _ => v = .bool true) := by
  refine fn_start (N := 51) Try.func23 rfl rfl rfl fun ac hk => ?_
  have hs := St.start hk w
  refine wp_seq ?_
  refine wp_reg ?_
  refine s_box hs rfl rfl rfl fun ac ww g7 hs => ?_
  refine s_box hs rfl rfl rfl fun ac ww g8 hs => ?_
  refine s_q hs (c_assign (hs.ev rfl)) rfl fun ac hs => ?_
  refine s_end ?_
  replace hs := hs.sub (F' := [(0, _), (1, _), (4, _), (7, _), (8, _), (10, _)]) ⟨rfl, rfl, rfl, rfl, rfl, rfl, trivial⟩
  refine then_n ?_
  refine wp_seq ?_
  refine wp_reg ?_
  refine s_q hs (c_loadW ty22 rfl (hs.ev rfl) (hs.seg (i := 1) rfl) (by rw [List.length_map, hx])) rfl fun ac hs => ?_
  refine s_alloc hs ty22 rfl fun ac ww g11 hs => ?_
  refine s_storeW (i := 0) hs ty22 rfl rfl rfl (by rw [List.length_map, hx]) (all_map_B _) rfl fun ww hs => ?_
  refine s_end ?_
  replace hs := hs.sub (F' := [(0, _), (1, _), (4, _), (7, _), (8, _), (10, _), (11, _)]) ⟨rfl, rfl, rfl, rfl, rfl, rfl, rfl, trivial⟩
  refine then_n ?_
  refine wp_seq ?_
  refine wp_seq ?_
  refine wp_reg ?_
  refine s_q hs (c_move (hs.ev rfl)) rfl fun ac hs => ?_
  refine s_end ?_
  refine then_n ?_
  refine s_cond hs rfl (fun hc => ?_) (fun hc => ?_)
  · try simp only [decide_eq_true_eq, decide_eq_false_iff_not, Bool.not_eq_true', Bool.not_eq_false', Bool.and_eq_true, Bool.or_eq_true, Bool.or_eq_false_iff] at hc
    have hw : pickW which x y = y := by rw [show which = true from hc]; rfl
    refine wp_reg ?_
    refine s_q hs (c_loadW ty22 rfl (hs.ev rfl) (hs.seg (i := 1) rfl) (by rw [List.length_map, hy])) rfl fun ac hs => ?_
    refine s_storeW (i := 0) hs ty22 rfl rfl rfl (by rw [List.length_map, hy]) (all_map_B _) (by rw [List.length_map, hx]) fun ww hs => ?_
    refine s_end ?_
    replace hs := hs.sub (F' := [(0, _), (1, _), (4, _), (7, _), (8, _), (10, _), (11, _)]) ⟨rfl, rfl, rfl, rfl, rfl, rfl, rfl, trivial⟩
    refine then_n ?_
    refine wp_seq ?_
    refine wp_region_rg pmix 36 (by kernel_rfl) rfl hs ?_
    simp only [List.take_succ_cons, List.take_zero]
    refine rg_call fu77 (fun ac ww h => .nil) (fun ww hf => law05_awake _) rfl ?_
    refine rg_q (fun ac ww h => c_move (h.ev rfl)) rfl ?_
    refine rg_yes rfl rfl (fun ac ww h => c_move (h.ev rfl)) rfl ?_
    refine rg_yes rfl rfl (fun ac ww h => c_move (h.ev rfl)) rfl ?_
    refine rg_strip rfl rfl ?_
    refine rg_call fu111 (fun ac ww h => (.cons (h.ev rfl) (.cons (h.ev rfl) .nil))) (fun ww hf => mac_Equal a b _ _ ww ((hqa.fr0 hs.fr).fr0 hf) ((hqb.fr0 hs.fr).fr0 hf)) rfl ?_
    refine rg_yes rfl rfl (fun ac ww h => c_move (h.ev rfl)) rfl ?_
    refine rg_yes rfl rfl (fun ac ww h => c_cvST un34 un5 un9 (h.ev rfl) ((hqa.fr0 hs.fr).fr0 h.fr)) rfl ?_
    refine rg_yes rfl rfl (fun ac ww h => c_move (h.ev rfl)) rfl ?_
    refine rg_yes rfl rfl (fun ac ww h => c_cvST un34 un5 un9 (h.ev rfl) ((hqb.fr0 hs.fr).fr0 h.fr)) rfl ?_
    refine rg_yes rfl rfl (fun ac ww h => c_eqlTT (h.ev rfl) (h.ev rfl)) rfl ?_
    refine rg_yes rfl rfl (fun ac ww h => c_tt (c_eqlbool un4 (h.ev rfl) (h.ev rfl)) (by by_cases e : a = b <;> simp [e])) rfl ?_
    refine rg_q (fun ac ww h => c_pick (h.ev rfl) (h.ev rfl) (h.ev rfl)) rfl ?_
    refine rg_q (fun ac ww h => c_move (h.ev rfl)) rfl ?_
    refine rg_yes rfl rfl (fun ac ww h => c_move (h.ev rfl)) rfl ?_
    refine rg_strip rfl rfl ?_
    refine rg_bslice un34 ty5 (fun ac ww h => .nil) rfl (by simp [Value.cells]) (by decide) rfl rfl ?_
    refine rg_yes rfl rfl (fun ac ww h => c_move (h.ev rfl)) rfl ?_
    refine rg_strip rfl rfl ?_
    refine rg_app0 un34 ty5 rfl rfl (fun ww hf => ((hqa.fr0 hs.fr).fr0 hf)) (by omega) rfl rfl ?_
    refine rg_strip rfl rfl ?_
    refine rg_callV (c := .bool true) fu111 (fun ac ww h => ?_) rfl ?_
    · obtain ⟨v31, L31, he31, ⟨hr31, _⟩, _⟩ := h.ent (n := 31) rfl rfl
      exact ⟨_, .cons (h.ev rfl) (.cons he31 .nil), (mac_Equal a a _ _ ww ((hqa.fr0 hs.fr).fr0 h.fr) hr31).mono fun v w1 _ hv => hv.trans (by simp)⟩
    refine rg_q (fun ac ww h => c_pick (h.ev rfl) (h.ev rfl) (h.ev rfl)) rfl ?_
    refine rg_q (fun ac ww h => c_move (h.ev rfl)) rfl ?_
    refine rg_yes rfl rfl (fun ac ww h => c_loadW ty22 rfl (h.ev rfl) (h.blk (hs.seg (i := 2) rfl)) (by rw [List.length_map, hx])) rfl ?_
    refine rg_yes rfl rfl (fun ac ww h => c_loadW ty22 rfl (h.ev rfl) (h.blk (hs.seg (i := 1) rfl)) (by rw [List.length_map, hy])) rfl ?_
    refine rg_strip rfl rfl ?_
    refine rg_call fu112 (fun ac ww h => (.cons (h.ev rfl) (.cons (h.ev rfl) .nil))) (fun ww hf => mac_Same x y hx hy ww) rfl ?_
    refine rg_yes rfl rfl (fun ac ww h => c_loadW ty22 rfl (h.ev rfl) (h.blk (hs.seg (i := 2) rfl)) (by rw [List.length_map, hx])) rfl ?_
    refine rg_yes rfl rfl (fun ac ww h => c_loadW ty22 rfl (h.ev rfl) (h.blk (hs.seg (i := 1) rfl)) (by rw [List.length_map, hy])) rfl ?_
    refine rg_yes rfl rfl (fun ac ww h => c_eqlAB un22 ty5 eg22 (h.ev rfl) (h.ev rfl) hx hy) rfl ?_
    refine rg_yes rfl rfl (fun ac ww h => c_tt (c_eqlbool un4 (h.ev rfl) (h.ev rfl)) (by by_cases e : x = y <;> simp [e])) rfl ?_
    refine rg_q (fun ac ww h => c_pick (h.ev rfl) (h.ev rfl) (h.ev rfl)) rfl ?_
    refine rg_q (fun ac ww h => c_move (h.ev rfl)) rfl ?_
    refine rg_yes rfl rfl (fun ac ww h => c_move (h.ev rfl)) rfl ?_
    refine rg_yes rfl rfl (fun ac ww h => c_loadW ty22 rfl (h.ev rfl) (h.blk (hs.seg (i := 2) rfl)) (by rw [List.length_map, hx])) rfl ?_
    refine rg_yes rfl rfl (fun ac ww h => c_loadW ty22 rfl (h.ev rfl) (h.blk (hs.seg (i := 1) rfl)) (by rw [List.length_map, hy])) rfl ?_
    refine rg_strip rfl rfl ?_
    refine rg_call fu113 (fun ac ww h => (.cons (h.ev rfl) (.cons (h.ev rfl) (.cons (h.ev rfl) .nil)))) (fun ww hf => mac_Pick which x y hx hy ww) rfl ?_
    refine rg_yes rfl rfl (fun ac ww h => c_loadW ty22 rfl (h.ev rfl) (h.blk (hs.seg (i := 0) rfl)) (by first | rw [List.length_map, hx] | rw [List.length_map, hy])) rfl ?_
    refine rg_yes rfl rfl (fun ac ww h => c_tt (c_eqlAB un54 ty5 eg54 (h.ev rfl) (h.ev rfl) (pickW_len which x y hx hy) (by assumption)) (by rw [hw]; simp)) rfl ?_
    refine rg_q (fun ac ww h => c_pick (h.ev rfl) (h.ev rfl) (h.ev rfl)) rfl ?_
    refine rg_nil fun ac ww L' hf hfe hs => ?_
    simp only [List.drop_succ_cons, List.drop_zero]
    obtain ⟨v31, L31, M31, h31, e31, ⟨v29, L29, M29, h29, e29, rfl, rfl⟩, rfl⟩ := hfe
    replace hs := hs.add h31
    replace hs := hs.add h29
    obtain ⟨g29, rfl, rfl⟩ := e29
    skip
    refine s_q hs (c_assign (hs.ev rfl)) rfl fun ac hs => ?_
    refine s_end ?_
    replace hs := hs.sub (F' := [(10, _)]) ⟨rfl, trivial⟩
    refine then_n ?_
    refine wp_ret ?_
    refine s_ret hs rfl (.tmp (hs.tmp rfl) .nil) rfl ⟨_, rfl, hs.fr, ?_⟩
    rfl
  · try simp only [decide_eq_true_eq, decide_eq_false_iff_not, Bool.not_eq_true', Bool.not_eq_false', Bool.and_eq_true, Bool.or_eq_true, Bool.or_eq_false_iff] at hc
    have hw : pickW which x y = x := by rw [show which = false from hc]; rfl
    refine wp_skip ?_
    refine then_n ?_
    refine wp_seq ?_
    refine wp_region_rg pmix 36 (by kernel_rfl) rfl hs ?_
    simp only [List.take_succ_cons, List.take_zero]
    refine rg_call fu77 (fun ac ww h => .nil) (fun ww hf => law05_awake _) rfl ?_
    refine rg_q (fun ac ww h => c_move (h.ev rfl)) rfl ?_
    refine rg_yes rfl rfl (fun ac ww h => c_move (h.ev rfl)) rfl ?_
    refine rg_yes rfl rfl (fun ac ww h => c_move (h.ev rfl)) rfl ?_
    refine rg_strip rfl rfl ?_
    refine rg_call fu111 (fun ac ww h => (.cons (h.ev rfl) (.cons (h.ev rfl) .nil))) (fun ww hf => mac_Equal a b _ _ ww ((hqa.fr0 hs.fr).fr0 hf) ((hqb.fr0 hs.fr).fr0 hf)) rfl ?_
    refine rg_yes rfl rfl (fun ac ww h => c_move (h.ev rfl)) rfl ?_
    refine rg_yes rfl rfl (fun ac ww h => c_cvST un34 un5 un9 (h.ev rfl) ((hqa.fr0 hs.fr).fr0 h.fr)) rfl ?_
    refine rg_yes rfl rfl (fun ac ww h => c_move (h.ev rfl)) rfl ?_
    refine rg_yes rfl rfl (fun ac ww h => c_cvST un34 un5 un9 (h.ev rfl) ((hqb.fr0 hs.fr).fr0 h.fr)) rfl ?_
    refine rg_yes rfl rfl (fun ac ww h => c_eqlTT (h.ev rfl) (h.ev rfl)) rfl ?_
    refine rg_yes rfl rfl (fun ac ww h => c_tt (c_eqlbool un4 (h.ev rfl) (h.ev rfl)) (by by_cases e : a = b <;> simp [e])) rfl ?_
    refine rg_q (fun ac ww h => c_pick (h.ev rfl) (h.ev rfl) (h.ev rfl)) rfl ?_
    refine rg_q (fun ac ww h => c_move (h.ev rfl)) rfl ?_
    refine rg_yes rfl rfl (fun ac ww h => c_move (h.ev rfl)) rfl ?_
    refine rg_strip rfl rfl ?_
    refine rg_bslice un34 ty5 (fun ac ww h => .nil) rfl (by simp [Value.cells]) (by decide) rfl rfl ?_
    refine rg_yes rfl rfl (fun ac ww h => c_move (h.ev rfl)) rfl ?_
    refine rg_strip rfl rfl ?_
    refine rg_app0 un34 ty5 rfl rfl (fun ww hf => ((hqa.fr0 hs.fr).fr0 hf)) (by omega) rfl rfl ?_
    refine rg_strip rfl rfl ?_
    refine rg_callV (c := .bool true) fu111 (fun ac ww h => ?_) rfl ?_
    · obtain ⟨v31, L31, he31, ⟨hr31, _⟩, _⟩ := h.ent (n := 31) rfl rfl
      exact ⟨_, .cons (h.ev rfl) (.cons he31 .nil), (mac_Equal a a _ _ ww ((hqa.fr0 hs.fr).fr0 h.fr) hr31).mono fun v w1 _ hv => hv.trans (by simp)⟩
    refine rg_q (fun ac ww h => c_pick (h.ev rfl) (h.ev rfl) (h.ev rfl)) rfl ?_
    refine rg_q (fun ac ww h => c_move (h.ev rfl)) rfl ?_
    refine rg_yes rfl rfl (fun ac ww h => c_loadW ty22 rfl (h.ev rfl) (h.blk (hs.seg (i := 2) rfl)) (by rw [List.length_map, hx])) rfl ?_
    refine rg_yes rfl rfl (fun ac ww h => c_loadW ty22 rfl (h.ev rfl) (h.blk (hs.seg (i := 1) rfl)) (by rw [List.length_map, hy])) rfl ?_
    refine rg_strip rfl rfl ?_
    refine rg_call fu112 (fun ac ww h => (.cons (h.ev rfl) (.cons (h.ev rfl) .nil))) (fun ww hf => mac_Same x y hx hy ww) rfl ?_
    refine rg_yes rfl rfl (fun ac ww h => c_loadW ty22 rfl (h.ev rfl) (h.blk (hs.seg (i := 2) rfl)) (by rw [List.length_map, hx])) rfl ?_
    refine rg_yes rfl rfl (fun ac ww h => c_loadW ty22 rfl (h.ev rfl) (h.blk (hs.seg (i := 1) rfl)) (by rw [List.length_map, hy])) rfl ?_
    refine rg_yes rfl rfl (fun ac ww h => c_eqlAB un22 ty5 eg22 (h.ev rfl) (h.ev rfl) hx hy) rfl ?_
    refine rg_yes rfl rfl (fun ac ww h => c_tt (c_eqlbool un4 (h.ev rfl) (h.ev rfl)) (by by_cases e : x = y <;> simp [e])) rfl ?_
    refine rg_q (fun ac ww h => c_pick (h.ev rfl) (h.ev rfl) (h.ev rfl)) rfl ?_
    refine rg_q (fun ac ww h => c_move (h.ev rfl)) rfl ?_
    refine rg_yes rfl rfl (fun ac ww h => c_move (h.ev rfl)) rfl ?_
    refine rg_yes rfl rfl (fun ac ww h => c_loadW ty22 rfl (h.ev rfl) (h.blk (hs.seg (i := 2) rfl)) (by rw [List.length_map, hx])) rfl ?_
    refine rg_yes rfl rfl (fun ac ww h => c_loadW ty22 rfl (h.ev rfl) (h.blk (hs.seg (i := 1) rfl)) (by rw [List.length_map, hy])) rfl ?_
    refine rg_strip rfl rfl ?_
    refine rg_call fu113 (fun ac ww h => (.cons (h.ev rfl) (.cons (h.ev rfl) (.cons (h.ev rfl) .nil)))) (fun ww hf => mac_Pick which x y hx hy ww) rfl ?_
    refine rg_yes rfl rfl (fun ac ww h => c_loadW ty22 rfl (h.ev rfl) (h.blk (hs.seg (i := 0) rfl)) (by first | rw [List.length_map, hx] | rw [List.length_map, hy])) rfl ?_
    refine rg_yes rfl rfl (fun ac ww h => c_tt (c_eqlAB un54 ty5 eg54 (h.ev rfl) (h.ev rfl) (pickW_len which x y hx hy) (by assumption)) (by rw [hw]; simp)) rfl ?_
    refine rg_q (fun ac ww h => c_pick (h.ev rfl) (h.ev rfl) (h.ev rfl)) rfl ?_
    refine rg_nil fun ac ww L' hf hfe hs => ?_
    simp only [List.drop_succ_cons, List.drop_zero]
    obtain ⟨v31, L31, M31, h31, e31, ⟨v29, L29, M29, h29, e29, rfl, rfl⟩, rfl⟩ := hfe
    replace hs := hs.add h31
    replace hs := hs.add h29
    obtain ⟨g29, rfl, rfl⟩ := e29
    skip
    refine s_q hs (c_assign (hs.ev rfl)) rfl fun ac hs => ?_
    refine s_end ?_
    replace hs := hs.sub (F' := [(10, _)]) ⟨rfl, trivial⟩
    refine then_n ?_
    refine wp_ret ?_
    refine s_ret hs rfl (.tmp (hs.tmp rfl) .nil) rfl ⟨_, rfl, hs.fr, ?_⟩
    rfl

end Go.Proofs.Ytmgnnclkjkbmdaa
end

/- A message, its digits, and why of two unlike messages each has a lower digit. -/
section
set_option linter.unusedSimpArgs false
set_option linter.unusedVariables false
set_option maxRecDepth 100000
namespace Go.Proofs.Ytmgnnclkjkbmdaa



/-! A message's digits. -/
namespace Ots
def dig (m : List UInt8) (i : Nat) : UInt8 := m.getD (i / 4) 0 >>> UInt8.ofNat (6 - 2 * (i % 4)) &&& 3
/-- What is left, over the first n digits. -/
def left (m : List UInt8) : Nat → Nat
  | 0 => 0
  | n + 1 => left m n + (3 - (dig m n).toNat)
def chk (m : List UInt8) (i : Nat) : UInt8 := UInt8.ofNat (left m 64 / 2 ^ (6 - 2 * i) % 4)
def dgt (m : List UInt8) (i : Nat) : UInt8 := if i < 64 then dig m i else chk m (i - 64)
def digits (m : List UInt8) : List UInt8 := (List.range 68).map (dgt m)
@[simp] theorem digits_length (m : List UInt8) : (digits m).length = 68 := by simp [digits]
theorem dig_le (m : List UInt8) (i : Nat) : (dig m i).toNat ≤ 3 := by
  unfold dig
  rw [UInt8.toNat_and]
  exact Nat.and_le_right
theorem left_le (m : List UInt8) : ∀ n, left m n ≤ 3 * n
  | 0 => by simp [left]
  | n + 1 => by have := left_le m n; simp only [left]; omega
theorem chk_toNat (m : List UInt8) (i : Nat) : (chk m i).toNat = left m 64 / 2 ^ (6 - 2 * i) % 4 := by
  unfold chk
  rw [UInt8.toNat_ofNat']
  omega
theorem dgt_le (m : List UInt8) (i : Nat) : (dgt m i).toNat ≤ 3 := by
  unfold dgt
  split
  · exact dig_le m i
  · rw [chk_toNat]; omega
theorem dgt_getD (m : List UInt8) (i : Nat) (h : i < 68) : (digits m).getD i 0 = dgt m i := by simp [digits, h]

/-! Of two unlike messages each has a lower digit. -/
theorem byte_parts (x y : UInt8) (h : ∀ k, k < 4 → x >>> UInt8.ofNat (6 - 2 * k) &&& 3 = y >>> UInt8.ofNat (6 - 2 * k) &&& 3) : x = y := by
  have h0 := h 0 (by omega)
  have h1 := h 1 (by omega)
  have h2 := h 2 (by omega)
  have h3 := h 3 (by omega)
  have e : ∀ (z : UInt8) (n : Nat), n < 8 → (z >>> UInt8.ofNat n &&& 3).toNat = z.toNat / 2 ^ n % 4 := by
    intro z n hn
    rw [UInt8.toNat_and, UInt8.toNat_shiftRight]
    rw [show (3 : UInt8).toNat = 2 ^ 2 - 1 from rfl, Nat.and_two_pow_sub_one_eq_mod]
    simp [Nat.shiftRight_eq_div_pow, Nat.mod_eq_of_lt (a := n) (b := 256) (by omega), Nat.mod_eq_of_lt hn]
  have g0 := congrArg UInt8.toNat h0
  have g1 := congrArg UInt8.toNat h1
  have g2 := congrArg UInt8.toNat h2
  have g3 := congrArg UInt8.toNat h3
  simp only [e _ _ (show 6 - 2 * 0 < 8 by omega), e _ _ (show 6 - 2 * 1 < 8 by omega), e _ _ (show 6 - 2 * 2 < 8 by omega), e _ _ (show 6 - 2 * 3 < 8 by omega)] at g0 g1 g2 g3
  have hx := x.toNat_lt
  have hy := y.toNat_lt
  apply UInt8.toNat_inj.1
  simp at g0 g1 g2 g3
  omega
theorem same_of_digs (a b : List UInt8) (ha : a.length = 16) (hb : b.length = 16) (h : ∀ i, i < 64 → dig a i = dig b i) : a = b := by
  apply List.ext_getElem (by omega)
  intro i h1 h2
  have := byte_parts (a.getD i 0) (b.getD i 0) fun k hk => by
    have := h (4 * i + k) (by omega)
    unfold dig at this
    rw [show (4 * i + k) / 4 = i by omega, show (4 * i + k) % 4 = k by omega] at this
    exact this
  simpa [h1, h2] using this
theorem left_mono (a b : List UInt8) : ∀ n, (∀ i, i < n → (dig b i).toNat ≤ (dig a i).toNat) → left a n ≤ left b n ∧ ((∃ i, i < n ∧ (dig b i).toNat < (dig a i).toNat) → left a n < left b n)
  | 0, _ => ⟨Nat.le_refl _, fun ⟨i, hi, _⟩ => by omega⟩
  | n + 1, h => by
    have ih := left_mono a b n fun i hi => h i (by omega)
    have hn := h n (by omega)
    have h1 := dig_le a n
    have h2 := dig_le b n
    simp only [left]
    refine ⟨by omega, ?_⟩
    rintro ⟨i, hi, hlt⟩
    by_cases e : i = n
    · subst e; omega
    · have := ih.2 ⟨i, by omega, hlt⟩
      omega
theorem digits4 (x y : Nat) (hx : x < 256) (hy : y < 256) (h : x < y) : ∃ i, i < 4 ∧ x / 2 ^ (6 - 2 * i) % 4 < y / 2 ^ (6 - 2 * i) % 4 := by
  apply Classical.byContradiction
  intro hn
  have g : ∀ i, i < 4 → y / 2 ^ (6 - 2 * i) % 4 ≤ x / 2 ^ (6 - 2 * i) % 4 := fun i hi => by
    apply Classical.byContradiction
    intro h2
    exact hn ⟨i, hi, by omega⟩
  have g0 := g 0 (by omega)
  have g1 := g 1 (by omega)
  have g2 := g 2 (by omega)
  have g3 := g 3 (by omega)
  simp at g0 g1 g2 g3
  have dec : ∀ z : Nat, z < 256 → z = 64 * (z / 64 % 4) + 16 * (z / 16 % 4) + 4 * (z / 4 % 4) + z % 4 := fun z hz => by omega
  have e1 := dec x hx
  have e2 := dec y hy
  generalize x / 64 % 4 = x3 at *
  generalize x / 16 % 4 = x2 at *
  generalize x / 4 % 4 = x1 at *
  generalize x % 4 = x0 at *
  generalize y / 64 % 4 = y3 at *
  generalize y / 16 % 4 = y2 at *
  generalize y / 4 % 4 = y1 at *
  generalize y % 4 = y0 at *
  omega
theorem lower (a b : List UInt8) (ha : a.length = 16) (hb : b.length = 16) (hne : a ≠ b) : ∃ i, i < 68 ∧ (dgt a i).toNat < (dgt b i).toNat := by
  by_cases h : ∃ i, i < 64 ∧ (dig a i).toNat < (dig b i).toNat
  · obtain ⟨i, hi, hlt⟩ := h
    exact ⟨i, by omega, by simp only [dgt, if_pos hi]; exact hlt⟩
  · have hge : ∀ i, i < 64 → (dig b i).toNat ≤ (dig a i).toNat := fun i hi => by
      apply Classical.byContradiction
      intro h2
      exact h ⟨i, hi, by omega⟩
    have hex : ∃ i, i < 64 ∧ (dig b i).toNat < (dig a i).toNat := by
      apply Classical.byContradiction
      intro h2
      apply hne
      refine same_of_digs a b ha hb fun i hi => UInt8.toNat_inj.1 ?_
      have h3 := hge i hi
      have h4 : ¬ (dig b i).toNat < (dig a i).toNat := fun h5 => h2 ⟨i, hi, h5⟩
      omega
    have hl := (left_mono a b 64 hge).2 hex
    have l1 := left_le a 64
    have l2 := left_le b 64
    obtain ⟨i, hi, hlt⟩ := digits4 (left a 64) (left b 64) (by omega) (by omega) hl
    refine ⟨64 + i, by omega, ?_⟩
    simp only [dgt, if_neg (show ¬ 64 + i < 64 by omega), show 64 + i - 64 = i by omega, chk_toNat]
    exact hlt
/-- Is some digit of the first n lower? -/
def low (a b : List UInt8) (n : Nat) : Bool := (List.range n).any fun i => decide ((dgt a i).toNat < (dgt b i).toNat)
theorem low_succ (a b : List UInt8) (n : Nat) : low a b (n + 1) = (low a b n || decide ((dgt a n).toNat < (dgt b n).toNat)) := by simp [low, List.range_succ]
theorem low_all (a b : List UInt8) (ha : a.length = 16) (hb : b.length = 16) : low a b 68 = !decide (a = b) := by
  by_cases e : a = b
  · subst e
    simp [low]
  · obtain ⟨i, hi, h⟩ := lower a b ha hb e
    have : low a b 68 = true := List.any_eq_true.2 ⟨i, by simpa using hi, by simpa using h⟩
    simp [this, e]
end Ots

end Go.Proofs.Ytmgnnclkjkbmdaa
end

section
set_option linter.unusedSimpArgs false
set_option linter.unusedVariables false
set_option maxRecDepth 100000
namespace Go.Proofs.Ytmgnnclkjkbmdaa
open Go Go.Fw

open Ots
theorem filledB {f : Nat → UInt8} {n k : Nat} (h : k < n) {x : UInt8} (hx : x = f k) : ((filled f 0 n k).map B).take (0 + k * 1) ++ (B x).cells.toList ++ ((filled f 0 n k).map B).drop (0 + k * 1 + 1) = (filled f 0 n (k + 1)).map B := by
  rw [← filled_set f 0 h hx]
  exact map_set x (by rw [filled_len f 0 (by omega)]; exact h)
theorem filledB_at {f : Nat → UInt8} {n k j : Nat} (h : j < k) (hk : k ≤ n) : ((filled f 0 n k).map B)[0 + j * 1]? = some (B (f j)) := by
  have := map_get (f := B) (l := filled f 0 n k) (i := j) 0 (by rw [filled_len f 0 hk]; omega)
  rw [this, filled_get f 0 h hk]

-- ots.Digits
set_option maxHeartbeats 4000000 in
theorem ots_Digits (m : List UInt8) (hm : m.length = 16) (w : World)  : Ctr Try.prog 36 [.agg (m.map B).toArray] w (fun _ => False) (fun v _ => v = .agg ((digits m).map B).toArray) := by
  refine fn_start (N := 45) Try.func36 rfl rfl rfl fun ac hk => ?_
  have hs := St.start hk w
  refine wp_seq ?_
  refine wp_reg ?_
  refine s_box hs rfl rfl rfl fun ac ww g1 hs => ?_
  refine s_alloc hs ty23 rfl fun ac ww g2 hs => ?_
  refine s_end ?_
  replace hs := hs.sub (F' := [(1, _), (2, _)]) ⟨rfl, rfl, trivial⟩
  refine then_n ?_
  refine wp_seq ?_
  refine wp_reg ?_
  refine s_alloc hs ty23 rfl fun ac ww g3 hs => ?_
  refine s_end ?_
  refine then_n ?_
  refine wp_seq ?_
  refine wp_reg ?_
  refine s_q hs (c_assign (hs.ev rfl)) rfl fun ac hs => ?_
  refine s_end ?_
  refine then_n ?_
  refine wp_seq ?_
  refine wp_seq ?_
  refine wp_reg ?_
  refine s_q hs (c_move (hs.ev rfl)) rfl fun ac hs => ?_
  refine s_end ?_
  refine then_n ?_
  refine wp_block ?_
  refine s_loop hs (X := Nat) (fun k => [(8, I k), (4, I (left m k))]) [(1, _), (2, _), (3, _)] (fun k => [.seg g3 ((filled (dgt m) 0 68 k).map B) 23, _, _]) (fun n k => k ≤ 64 ∧ n = 64 - k) (64) (0) (⟨by omega, rfl⟩) ⟨rfl, rfl, rfl, rfl, rfl, trivial⟩ (congrArg (fun z => [Ent.seg g3 (List.map B z) 23, _, _]) (filled_zero _ _ _).symm) ?_
  rintro n k ac ww hok hs
  simp only [List.cons_append, List.nil_append] at hs
  refine wp_seq ?_
  refine wp_reg ?_
  refine s_q hs (c_lssI (hs.ev rfl) (hs.ev rfl)) rfl fun ac hs => ?_
  refine s_end ?_
  refine then_n ?_
  refine wp_seq ?_
  refine s_cond hs rfl (fun hc => ?_) (fun hc => ?_)
  · try simp only [decide_eq_true_eq, decide_eq_false_iff_not, Bool.not_eq_true', Bool.not_eq_false', Bool.and_eq_true, Bool.or_eq_true, Bool.or_eq_false_iff] at hc
    obtain ⟨hk, rfl⟩ := hok
    have hdl := dig_le m k
    have hll := left_le m k
    refine wp_skip ?_
    refine then_n ?_
    refine wp_seq ?_
    refine wp_block ?_
    refine wp_seq ?_
    refine wp_reg ?_
    refine s_q hs (c_move (hs.ev rfl)) rfl fun ac hs => ?_
    refine s_q hs (c_assign (hs.ev rfl)) rfl fun ac hs => ?_
    refine s_end ?_
    refine then_n ?_
    refine wp_seq ?_
    refine wp_reg ?_
    refine s_q hs (c_move (hs.ev rfl)) rfl fun ac hs => ?_
    refine s_q hs (c_quoI (hs.ev rfl) (hs.ev rfl) (by omega) (by omega) (by omega)) rfl fun ac hs => ?_
    refine s_q hs (c_idxA (j := k / 4) un54 ty5 (hs.ev rfl) (hs.ev rfl) (by omega) (by omega)) rfl fun ac hs => ?_
    refine s_q hs (c_loadS un5 rfl (hs.ev rfl) (hs.seg (i := 2) rfl) (map_get 0 (by omega))) rfl fun ac hs => ?_
    refine s_q hs (c_move (hs.ev rfl)) rfl fun ac hs => ?_
    refine s_q hs (c_remI (hs.ev rfl) (hs.ev rfl) (by omega) (by omega)) rfl fun ac hs => ?_
    refine s_q hs (c_mulI (hs.ev rfl) (hs.ev rfl) (by omega) (by omega)) rfl fun ac hs => ?_
    refine s_q hs (c_subI (hs.ev rfl) (hs.ev rfl) (by omega) (by omega)) rfl fun ac hs => ?_
    refine s_q hs (c_shrB (n := 6 - 2 * (k % 4)) (hs.ev rfl) ((hs.ev rfl).trans (congrArg I (by omega))) (by omega)) rfl fun ac hs => ?_
    refine s_q hs (c_andB (hs.ev rfl) (St.ev (v := B 3) hs rfl)) rfl fun ac hs => ?_
    change St 45 ((20, B (dig m k)) :: _) _ _ _ _ _ at hs
    refine s_q hs (c_assign (hs.ev rfl)) rfl fun ac hs => ?_
    refine s_end ?_
    refine then_n ?_
    refine wp_seq ?_
    refine wp_reg ?_
    refine s_q hs (c_move (hs.ev rfl)) rfl fun ac hs => ?_
    refine s_q hs (c_move (hs.ev rfl)) rfl fun ac hs => ?_
    refine s_q hs (c_idxA (j := k) un23 ty5 (hs.ev rfl) (hs.ev rfl) (by omega) (by omega)) rfl fun ac hs => ?_
    refine s_store (i := 0) hs ty5 rfl rfl rfl rfl rfl rfl (by rw [List.length_map, filled_len _ _ (by omega)]; omega) (filledB (by omega) (by simp [dgt]; intro h; omega)) fun ww hs => ?_
    refine s_end ?_
    refine then_n ?_
    refine wp_reg ?_
    refine s_q hs (c_move (hs.ev rfl)) rfl fun ac hs => ?_
    refine s_q hs (c_move (hs.ev rfl)) rfl fun ac hs => ?_
    refine s_q hs (c_cvBI un5 un3 (hs.ev rfl)) rfl fun ac hs => ?_
    refine s_q hs (c_subI (hs.ev rfl) (hs.ev rfl) (by omega) (by omega)) rfl fun ac hs => ?_
    refine s_q hs (c_addI (hs.ev rfl) (hs.ev rfl) (by omega) (by omega)) rfl fun ac hs => ?_
    refine s_q hs (c_assign (hs.ev rfl)) rfl fun ac hs => ?_
    refine s_end ?_
    refine blk_n ?_
    refine then_n ?_
    refine wp_reg ?_
    refine s_q hs (c_addI (hs.ev rfl) (hs.ev rfl) (by omega) (by omega)) rfl fun ac hs => ?_
    refine s_q hs (c_move (hs.ev rfl)) rfl fun ac hs => ?_
    refine s_end ?_
    refine then_n ?_
    exact ⟨64 - (k + 1), by omega, k + 1, ⟨by omega, rfl⟩, St.next hs ⟨rfl, (congrArg (fun z => some (I z)) (by have := dig_le m k; simp only [left]; omega)), rfl, rfl, rfl, trivial⟩ rfl⟩
  · try simp only [decide_eq_true_eq, decide_eq_false_iff_not, Bool.not_eq_true', Bool.not_eq_false', Bool.and_eq_true, Bool.or_eq_true, Bool.or_eq_false_iff] at hc
    obtain ⟨hk, rfl⟩ := hok
    obtain rfl : k = 64 := by omega
    refine wp_exit ?_
    refine then_e ?_
    refine then_e ?_
    refine blk_hit ?_
    refine then_n ?_
    refine wp_seq ?_
    refine wp_seq ?_
    refine wp_reg ?_
    refine s_q hs (c_move (hs.ev rfl)) rfl fun ac hs => ?_
    refine s_end ?_
    replace hs := hs.sub (F' := [(2, _), (3, _), (4, _), (30, _)]) ⟨rfl, rfl, rfl, rfl, trivial⟩
    refine then_n ?_
    refine wp_block ?_
    refine s_loop hs (X := Nat) (fun k => [(30, I k)]) [(2, _), (3, _), (4, _)] (fun k => [.seg g3 ((filled (dgt m) 0 68 (64 + k)).map B) 23, _, _]) (fun n k => k ≤ 4 ∧ n = 4 - k) (4) (0) (⟨by omega, rfl⟩) ⟨rfl, rfl, rfl, rfl, trivial⟩ rfl ?_
    rintro n k ac ww hok hs
    simp only [List.cons_append, List.nil_append] at hs
    refine wp_seq ?_
    refine wp_reg ?_
    refine s_q hs (c_lssI (hs.ev rfl) (hs.ev rfl)) rfl fun ac hs => ?_
    refine s_end ?_
    refine then_n ?_
    refine wp_seq ?_
    refine s_cond hs rfl (fun hc => ?_) (fun hc => ?_)
    · try simp only [decide_eq_true_eq, decide_eq_false_iff_not, Bool.not_eq_true', Bool.not_eq_false', Bool.and_eq_true, Bool.or_eq_true, Bool.or_eq_false_iff] at hc
      obtain ⟨hk, rfl⟩ := hok
      have hll := left_le m 64
      refine wp_skip ?_
      refine then_n ?_
      refine wp_seq ?_
      refine wp_block ?_
      refine wp_seq ?_
      refine wp_reg ?_
      refine s_q hs (c_move (hs.ev rfl)) rfl fun ac hs => ?_
      refine s_q hs (c_assign (hs.ev rfl)) rfl fun ac hs => ?_
      refine s_end ?_
      refine then_n ?_
      refine wp_reg ?_
      refine s_q hs (c_move (hs.ev rfl)) rfl fun ac hs => ?_
      refine s_q hs (c_addI (hs.ev rfl) (hs.ev rfl) (by omega) (by omega)) rfl fun ac hs => ?_
      refine s_q hs (c_move (hs.ev rfl)) rfl fun ac hs => ?_
      refine s_q hs (c_move (hs.ev rfl)) rfl fun ac hs => ?_
      refine s_q hs (c_mulI (hs.ev rfl) (hs.ev rfl) (by omega) (by omega)) rfl fun ac hs => ?_
      refine s_q hs (c_subI (hs.ev rfl) (hs.ev rfl) (by omega) (by omega)) rfl fun ac hs => ?_
      obtain ⟨q, hq1, hq2⟩ : ∃ q : Nat, q = left m 64 / 2 ^ (6 - 2 * k) ∧ q ≤ left m 64 := ⟨_, rfl, Nat.div_le_self _ _⟩
      have hq : (left m 64 : Int) / 2 ^ (6 - 2 * k) = (q : Int) := by rw [hq1]; simp
      refine s_q hs (c_shrI (n := 6 - 2 * k) (hs.ev rfl) ((hs.ev rfl).trans (congrArg I (by omega))) (by omega)) rfl fun ac hs => ?_
      refine s_q hs (c_and3I ((hs.ev rfl).trans (congrArg I hq)) (hs.ev rfl) (by omega) (by omega)) rfl fun ac hs => ?_
      refine s_q hs (c_cvIB un3 un5 (hs.ev rfl)) rfl fun ac hs => ?_
      refine s_q hs (c_idxA (j := 64 + k) un23 ty5 (hs.ev rfl) (hs.ev rfl) (by omega) (by omega)) rfl fun ac hs => ?_
      refine s_store (i := 0) hs ty5 rfl rfl rfl rfl rfl rfl (by rw [List.length_map, filled_len _ _ (by omega)]; omega) (filledB (by omega) (by simp only [dgt, if_neg (show ¬ 64 + k < 64 by omega), show 64 + k - 64 = k by omega, chk, i8, ← hq1]; congr 1; omega)) fun ww hs => ?_
      refine s_end ?_
      refine blk_n ?_
      refine then_n ?_
      refine wp_reg ?_
      refine s_q hs (c_addI (hs.ev rfl) (hs.ev rfl) (by omega) (by omega)) rfl fun ac hs => ?_
      refine s_q hs (c_move (hs.ev rfl)) rfl fun ac hs => ?_
      refine s_end ?_
      refine then_n ?_
      exact ⟨4 - (k + 1), by omega, k + 1, ⟨by omega, rfl⟩, St.next hs ⟨rfl, rfl, rfl, rfl, trivial⟩ rfl⟩
    · try simp only [decide_eq_true_eq, decide_eq_false_iff_not, Bool.not_eq_true', Bool.not_eq_false', Bool.and_eq_true, Bool.or_eq_true, Bool.or_eq_false_iff] at hc
      obtain ⟨hk, rfl⟩ := hok
      obtain rfl : k = 4 := by omega
      refine wp_exit ?_
      refine then_e ?_
      refine then_e ?_
      refine blk_hit ?_
      refine then_n ?_
      refine wp_seq ?_
      refine wp_reg ?_
      refine s_q hs (c_loadW ty23 rfl (hs.ev rfl) (hs.seg (i := 0) rfl) (by rw [List.length_map, filled_len _ _ (by omega)])) rfl fun ac hs => ?_
      refine s_storeW (i := 1) hs ty23 rfl rfl rfl (by rw [List.length_map, filled_len _ _ (by omega)]) (by simp [Value.oneCell']) (by simp) fun ww hs => ?_
      refine s_end ?_
      replace hs := hs.sub (F' := [(2, _)]) ⟨rfl, trivial⟩
      refine then_n ?_
      refine wp_ret ?_
      refine s_ret hs rfl (.cell (hs.tmp rfl) (run_loadA ty23 rfl (hs.seg (i := 1) rfl) (List.take_of_length_le (by simp [filled])) (by simp [filled])) .nil) rfl ⟨_, rfl, hs.fr, ?_⟩
      exact congrArg (fun z => Value.agg (List.map B z).toArray) (filled_full _ _ _)

-- fingerpostlaw10.awake
set_option maxHeartbeats 4000000 in
theorem law10_awake  (w : World)  : Ctr Try.prog 37 [] w (fun _ => False) (fun v _ => v = .bool true) := by
  refine fn_start (N := 19) Try.func37 rfl rfl rfl fun ac hk => ?_
  have hs := St.start hk w
  refine wp_seq ?_
  refine wp_reg ?_
  refine s_q hs (c_assign (hs.ev rfl)) rfl fun ac hs => ?_
  refine s_end ?_
  refine then_n ?_
  refine wp_seq ?_
  refine wp_reg ?_
  refine s_q hs (c_buildA ty54 un54 ty5 (zc := (List.replicate 16 (0 : UInt8)).map B) (vs := []) .nil (by simp) (by simp [flatCells]) rfl) rfl fun ac hs => ?_
  refine s_call hs fu36 (.cons (hs.ev rfl) .nil) (ots_Digits (List.replicate 16 0) (by simp) _) rfl fun ac ww v3 hf hp hs => ?_
  obtain rfl := hp
  replace hs := hs [] (.nil _ _)
  refine s_alloc hs ty23 rfl fun ac ww g1 hs => ?_
  refine s_storeW (i := 0) hs ty23 rfl rfl rfl (by simp) (by simp [Value.oneCell']) (by simp) fun ww hs => ?_
  refine s_end ?_
  replace hs := hs.sub (F' := [(0, _), (1, _)]) ⟨rfl, rfl, trivial⟩
  refine then_n ?_
  refine wp_seq ?_
  refine wp_reg ?_
  refine s_q hs (c_idxA un23 ty5 (hs.ev rfl) (hs.ev rfl) rfl (by decide)) rfl fun ac hs => ?_
  refine s_q hs (c_loadS un5 rfl (hs.ev rfl) (hs.seg (i := 0) rfl) (map_get 0 (by simp))) rfl fun ac hs => ?_
  refine s_q hs (c_eqlB (hs.ev rfl) (St.ev (v := B 0) hs rfl)) rfl fun ac hs => ?_
  refine s_q hs (c_move (hs.ev rfl)) rfl fun ac hs => ?_
  refine s_g hs rfl rfl (fun hg => c_idxA un23 ty5 (hs.ev rfl) (hs.ev rfl) rfl (by decide)) rfl fun ac hs => ?_
  refine s_g hs rfl rfl (fun hg => c_loadS un5 rfl (gev (hs.ev rfl) hg) (hs.seg (i := 0) rfl) (map_get 0 (by simp))) rfl fun ac hs => ?_
  refine s_g hs rfl rfl (fun hg => c_eqlB (gev (hs.ev rfl) hg) (St.ev (v := B 3) hs rfl)) rfl fun ac hs => ?_
  refine s_q hs (c_and (hs.ev rfl) (hs.ev rfl)) rfl fun ac hs => ?_
  refine s_q hs (c_move (hs.ev rfl)) rfl fun ac hs => ?_
  refine s_g hs rfl rfl (fun hg => c_idxA un23 ty5 (hs.ev rfl) (hs.ev rfl) rfl (by decide)) rfl fun ac hs => ?_
  refine s_g hs rfl rfl (fun hg => c_loadS un5 rfl (gev (hs.ev rfl) hg) (hs.seg (i := 0) rfl) (map_get 0 (by simp))) rfl fun ac hs => ?_
  refine s_g hs rfl rfl (fun hg => c_eqlB (gev (hs.ev rfl) hg) (St.ev (v := B 0) hs rfl)) rfl fun ac hs => ?_
  refine s_q hs (c_and (hs.ev rfl) (hs.ev rfl)) rfl fun ac hs => ?_
  refine s_q hs (c_move (hs.ev rfl)) rfl fun ac hs => ?_
  refine s_q hs (c_pick (hs.ev rfl) (hs.ev rfl) (hs.ev rfl)) rfl fun ac hs => ?_
  refine s_q hs (c_assign (hs.ev rfl)) rfl fun ac hs => ?_
  refine s_end ?_
  replace hs := hs.sub (F' := [(0, _)]) ⟨rfl, trivial⟩
  refine then_n ?_
  refine wp_ret ?_
  refine s_ret hs rfl (.tmp (hs.tmp rfl) .nil) rfl ⟨_, rfl, hs.fr, ?_⟩
  rfl

end Go.Proofs.Ytmgnnclkjkbmdaa
end

section
set_option linter.unusedSimpArgs false
set_option linter.unusedVariables false
set_option maxRecDepth 100000
namespace Go.Proofs.Ytmgnnclkjkbmdaa
open Go Go.Fw

open Ots
theorem dig_at (m : List UInt8) {k : Nat} (h : k < 68) : ((digits m).map B)[0 + k * 1]? = some (B (dgt m k)) := by
  have := map_get (f := B) (l := digits m) (i := k) 0 (by simpa using h)
  rw [this, dgt_getD m k h]

-- fingerpostlaw10.OtsApart
set_option maxHeartbeats 4000000 in
theorem law_OtsApart (a b : List UInt8) (ha : a.length = 16) (hb : b.length = 16) (w : World)  : Ctr Try.prog 3 [.agg (a.map B).toArray, .agg (b.map B).toArray] w (fun _ => False) (fun v _ => v = .bool true) := by
  refine fn_start (N := 63) Try.func3 rfl rfl rfl fun ac hk => ?_
  have hs := St.start hk w
  refine wp_seq ?_
  refine wp_reg ?_
  refine s_box hs rfl rfl rfl fun ac ww g2 hs => ?_
  refine s_box hs rfl rfl rfl fun ac ww g3 hs => ?_
  refine s_q hs (c_assign (hs.ev rfl)) rfl fun ac hs => ?_
  refine s_end ?_
  replace hs := hs.sub (F' := [(2, _), (3, _), (4, _)]) ⟨rfl, rfl, rfl, trivial⟩
  refine then_n ?_
  refine wp_seq ?_
  refine wp_region_rg pmix 6 (by kernel_rfl) rfl hs ?_
  simp only [List.take_succ_cons, List.take_zero]
  refine rg_q (fun ac ww h => c_loadW ty22 rfl (h.ev rfl) (h.blk (hs.seg (i := 1) rfl)) (by simpa using ha)) rfl ?_
  refine rg_call fu36 (fun ac ww h => (.cons (h.ev rfl) .nil)) (fun ww hf => ots_Digits a ha _) rfl ?_
  refine rg_q (fun ac ww h => c_loadW ty22 rfl (h.ev rfl) (h.blk (hs.seg (i := 0) rfl)) (by simpa using hb)) rfl ?_
  refine rg_call fu36 (fun ac ww h => (.cons (h.ev rfl) .nil)) (fun ww hf => ots_Digits b hb _) rfl ?_
  refine rg_alloc ty23 rfl ?_
  refine rg_alloc ty23 rfl ?_
  refine rg_nil fun ac ww L' hf hfe hs => ?_
  simp only [List.drop_succ_cons, List.drop_zero]
  obtain ⟨v6, L6, M6, h6, e6, ⟨v5, L5, M5, h5, e5, rfl, rfl⟩, rfl⟩ := hfe
  replace hs := hs.add h6
  replace hs := hs.add h5
  obtain ⟨g6, rfl, rfl⟩ := e6
  obtain ⟨g5, rfl, rfl⟩ := e5
  refine s_storeW (i := 1) hs ty23 rfl rfl rfl (by simp) (by simp [Value.oneCell']) (by simp) fun ww hs => ?_
  refine s_storeW (i := 0) hs ty23 rfl rfl rfl (by simp) (by simp [Value.oneCell']) (by simp) fun ww hs => ?_
  refine s_end ?_
  replace hs := hs.sub (F' := [(2, _), (3, _), (4, _), (5, _), (6, _)]) ⟨rfl, rfl, rfl, rfl, rfl, trivial⟩
  refine then_n ?_
  refine wp_seq ?_
  refine wp_reg ?_
  refine s_q hs (c_assign (hs.ev rfl)) rfl fun ac hs => ?_
  refine s_q hs (c_assign (hs.ev rfl)) rfl fun ac hs => ?_
  refine s_end ?_
  refine then_n ?_
  refine wp_seq ?_
  refine wp_seq ?_
  refine wp_reg ?_
  refine s_q hs (c_move (hs.ev rfl)) rfl fun ac hs => ?_
  refine s_end ?_
  refine then_n ?_
  refine wp_block ?_
  refine s_loop hs (X := Nat) (fun k => [(14, I k), (7, .bool (low a b k)), (8, .bool (low b a k))]) [(2, _), (3, _), (5, _), (6, _)] (fun _ => [_, _, _, _]) (fun n k => k ≤ 68 ∧ n = 68 - k) (68) (0) (⟨by omega, rfl⟩) ⟨rfl, rfl, rfl, rfl, rfl, rfl, rfl, trivial⟩ rfl ?_
  rintro n k ac ww hok hs
  simp only [List.cons_append, List.nil_append] at hs
  refine wp_seq ?_
  refine wp_reg ?_
  refine s_q hs (c_lssI (hs.ev rfl) (hs.ev rfl)) rfl fun ac hs => ?_
  refine s_end ?_
  refine then_n ?_
  refine wp_seq ?_
  refine s_cond hs rfl (fun hc => ?_) (fun hc => ?_)
  · try simp only [decide_eq_true_eq, decide_eq_false_iff_not, Bool.not_eq_true', Bool.not_eq_false', Bool.and_eq_true, Bool.or_eq_true, Bool.or_eq_false_iff] at hc
    obtain ⟨hk, rfl⟩ := hok
    have h1 := dgt_le a k
    have h2 := dgt_le b k
    refine wp_skip ?_
    refine then_n ?_
    refine wp_seq ?_
    refine wp_block ?_
    refine wp_seq ?_
    refine wp_reg ?_
    refine s_q hs (c_move (hs.ev rfl)) rfl fun ac hs => ?_
    refine s_q hs (c_assign (hs.ev rfl)) rfl fun ac hs => ?_
    refine s_end ?_
    refine then_n ?_
    refine wp_seq ?_
    refine wp_seq ?_
    refine wp_reg ?_
    refine s_q hs (c_move (hs.ev rfl)) rfl fun ac hs => ?_
    refine s_q hs (c_idxA (j := k) un23 ty5 (hs.ev rfl) (hs.ev rfl) (by omega) (by omega)) rfl fun ac hs => ?_
    refine s_q hs (c_loadS un5 rfl (hs.ev rfl) (hs.seg (i := 1) rfl) (dig_at a (by omega))) rfl fun ac hs => ?_
    refine s_q hs (c_gtrB (hs.ev rfl) (St.ev (v := B 3) hs rfl)) rfl fun ac hs => ?_
    refine s_q hs (c_move (hs.ev rfl)) rfl fun ac hs => ?_
    refine s_g hs rfl rfl (fun hg => c_move (hs.ev rfl)) rfl fun ac hs => ?_
    refine s_g hs rfl rfl (fun hg => c_idxA (j := k) un23 ty5 (hs.ev rfl) (gev (hs.ev rfl) hg) (by omega) (by omega)) rfl fun ac hs => ?_
    refine s_g hs rfl rfl (fun hg => c_loadS un5 rfl (gev (hs.ev rfl) hg) (hs.seg (i := 0) rfl) (dig_at b (by omega))) rfl fun ac hs => ?_
    refine s_g hs rfl rfl (fun hg => c_gtrB (gev (hs.ev rfl) hg) (St.ev (v := B 3) hs rfl)) rfl fun ac hs => ?_
    refine s_q hs (c_or (hs.ev rfl) (hs.ev rfl)) rfl fun ac hs => ?_
    refine s_end ?_
    refine then_n ?_
    refine s_cond hs rfl (fun hc => ?_) (fun hc => ?_)
    · exact absurd hc (by simp; omega)
    · try simp only [decide_eq_true_eq, decide_eq_false_iff_not, Bool.not_eq_true', Bool.not_eq_false', Bool.and_eq_true, Bool.or_eq_true, Bool.or_eq_false_iff] at hc
      refine wp_skip ?_
      refine then_n ?_
      refine wp_seq ?_
      refine wp_region_rg pmix 11 (by kernel_rfl) rfl hs ?_
      simp only [List.take_succ_cons, List.take_zero]
      refine rg_q (fun ac ww h => c_move (h.ev rfl)) rfl ?_
      refine rg_q (fun ac ww h => c_move (h.ev rfl)) rfl ?_
      refine rg_g rfl rfl (fun hg ac ww h => c_move (h.ev rfl)) rfl ?_
      refine rg_g rfl rfl (fun hg ac ww h => c_idxA (j := k) un23 ty5 (h.ev rfl) (gev (h.ev rfl) hg) (by omega) (by omega)) rfl ?_
      refine rg_g rfl rfl (fun hg ac ww h => c_loadS un5 rfl (gev (h.ev rfl) hg) (h.blk (hs.seg (i := 1) rfl)) (dig_at a (by omega))) rfl ?_
      refine rg_g rfl rfl (fun hg ac ww h => c_move (h.ev rfl)) rfl ?_
      refine rg_g rfl rfl (fun hg ac ww h => c_idxA (j := k) un23 ty5 (h.ev rfl) (gev (h.ev rfl) hg) (by omega) (by omega)) rfl ?_
      refine rg_g rfl rfl (fun hg ac ww h => c_loadS un5 rfl (gev (h.ev rfl) hg) (h.blk (hs.seg (i := 0) rfl)) (dig_at b (by omega))) rfl ?_
      refine rg_g rfl rfl (fun hg ac ww h => c_lssB (gev (h.ev rfl) hg) (gev (h.ev rfl) hg)) rfl ?_
      refine rg_q (fun ac ww h => c_or (h.ev rfl) (h.ev rfl)) rfl ?_
      refine rg_q (fun ac ww h => c_assign (h.ev rfl)) rfl ?_
      refine rg_nil fun ac ww L' hf hfe hs => ?_
      simp only [List.drop_succ_cons, List.drop_zero]
      obtain rfl : L' = [] := hfe
      replace hs := hs.toL (List.nil_append _)
      refine s_end ?_
      refine then_n ?_
      refine wp_region_rg pmix 11 (by kernel_rfl) rfl hs ?_
      simp only [List.take_succ_cons, List.take_zero]
      refine rg_q (fun ac ww h => c_move (h.ev rfl)) rfl ?_
      refine rg_q (fun ac ww h => c_move (h.ev rfl)) rfl ?_
      refine rg_g rfl rfl (fun hg ac ww h => c_move (h.ev rfl)) rfl ?_
      refine rg_g rfl rfl (fun hg ac ww h => c_idxA (j := k) un23 ty5 (h.ev rfl) (gev (h.ev rfl) hg) (by omega) (by omega)) rfl ?_
      refine rg_g rfl rfl (fun hg ac ww h => c_loadS un5 rfl (gev (h.ev rfl) hg) (h.blk (hs.seg (i := 0) rfl)) (dig_at b (by omega))) rfl ?_
      refine rg_g rfl rfl (fun hg ac ww h => c_move (h.ev rfl)) rfl ?_
      refine rg_g rfl rfl (fun hg ac ww h => c_idxA (j := k) un23 ty5 (h.ev rfl) (gev (h.ev rfl) hg) (by omega) (by omega)) rfl ?_
      refine rg_g rfl rfl (fun hg ac ww h => c_loadS un5 rfl (gev (h.ev rfl) hg) (h.blk (hs.seg (i := 1) rfl)) (dig_at a (by omega))) rfl ?_
      refine rg_g rfl rfl (fun hg ac ww h => c_lssB (gev (h.ev rfl) hg) (gev (h.ev rfl) hg)) rfl ?_
      refine rg_q (fun ac ww h => c_or (h.ev rfl) (h.ev rfl)) rfl ?_
      refine rg_q (fun ac ww h => c_assign (h.ev rfl)) rfl ?_
      refine rg_nil fun ac ww L' hf hfe hs => ?_
      simp only [List.drop_succ_cons, List.drop_zero]
      obtain rfl : L' = [] := hfe
      replace hs := hs.toL (List.nil_append _)
      refine s_end ?_
      refine blk_n ?_
      refine then_n ?_
      refine wp_reg ?_
      refine s_q hs (c_addI (hs.ev rfl) (hs.ev rfl) (by omega) (by omega)) rfl fun ac hs => ?_
      refine s_q hs (c_move (hs.ev rfl)) rfl fun ac hs => ?_
      refine s_end ?_
      refine then_n ?_
      exact ⟨68 - (k + 1), by omega, k + 1, ⟨by omega, rfl⟩, St.next hs ⟨rfl, (congrArg (fun z => some (Value.bool z)) (low_succ a b k).symm), (congrArg (fun z => some (Value.bool z)) (low_succ b a k).symm), rfl, rfl, rfl, rfl, trivial⟩ rfl⟩
  · try simp only [decide_eq_true_eq, decide_eq_false_iff_not, Bool.not_eq_true', Bool.not_eq_false', Bool.and_eq_true, Bool.or_eq_true, Bool.or_eq_false_iff] at hc
    obtain ⟨hk, rfl⟩ := hok
    obtain rfl : k = 68 := by omega
    refine wp_exit ?_
    refine then_e ?_
    refine then_e ?_
    refine blk_hit ?_
    refine then_n ?_
    refine wp_seq ?_
    refine wp_reg ?_
    refine s_call hs fu37 .nil (law10_awake _) rfl fun ac ww v48 hf hp hs => ?_
    obtain rfl := hp
    replace hs := hs [] (.nil _ _)
    refine s_q hs (c_move (hs.ev rfl)) rfl fun ac hs => ?_
    refine s_yes hs rfl rfl ?_
    refine s_q hs (c_move (hs.ev rfl)) rfl fun ac hs => ?_
    refine s_yes hs rfl rfl ?_
    refine s_q hs (c_loadW ty22 rfl (hs.ev rfl) (hs.seg (i := 3) rfl) (by simpa using ha)) rfl fun ac hs => ?_
    refine s_yes hs rfl rfl ?_
    refine s_q hs (c_loadW ty22 rfl (hs.ev rfl) (hs.seg (i := 2) rfl) (by simpa using hb)) rfl fun ac hs => ?_
    refine s_yes hs rfl rfl ?_
    refine s_q hs (c_neqAB un22 ty5 eg22 (hs.ev rfl) (hs.ev rfl) ha hb) rfl fun ac hs => ?_
    refine s_yes hs rfl rfl ?_
    refine s_q hs (c_tt (c_eqlbool un4 (hs.ev rfl) (hs.ev rfl)) (by rw [low_all a b ha hb]; simp)) rfl fun ac hs => ?_
    refine s_q hs (c_pick (hs.ev rfl) (hs.ev rfl) (hs.ev rfl)) rfl fun ac hs => ?_
    refine s_q hs (c_move (hs.ev rfl)) rfl fun ac hs => ?_
    refine s_yes hs rfl rfl ?_
    refine s_q hs (c_move (hs.ev rfl)) rfl fun ac hs => ?_
    refine s_yes hs rfl rfl ?_
    refine s_q hs (c_loadW ty22 rfl (hs.ev rfl) (hs.seg (i := 3) rfl) (by simpa using ha)) rfl fun ac hs => ?_
    refine s_yes hs rfl rfl ?_
    refine s_q hs (c_loadW ty22 rfl (hs.ev rfl) (hs.seg (i := 2) rfl) (by simpa using hb)) rfl fun ac hs => ?_
    refine s_yes hs rfl rfl ?_
    refine s_q hs (c_neqAB un22 ty5 eg22 (hs.ev rfl) (hs.ev rfl) ha hb) rfl fun ac hs => ?_
    refine s_yes hs rfl rfl ?_
    refine s_q hs (c_tt (c_eqlbool un4 (hs.ev rfl) (hs.ev rfl)) (by rw [low_all b a hb ha]; simp [eq_comm])) rfl fun ac hs => ?_
    refine s_q hs (c_pick (hs.ev rfl) (hs.ev rfl) (hs.ev rfl)) rfl fun ac hs => ?_
    refine s_q hs (c_assign (hs.ev rfl)) rfl fun ac hs => ?_
    refine s_end ?_
    replace hs := hs.sub (F' := [(4, _)]) ⟨rfl, trivial⟩
    refine then_n ?_
    refine wp_ret ?_
    refine s_ret hs rfl (.tmp (hs.tmp rfl) .nil) rfl ⟨_, rfl, hs.fr, ?_⟩
    rfl

end Go.Proofs.Ytmgnnclkjkbmdaa
end

/- Names as bytes, links. -/
section
set_option linter.unusedSimpArgs false
set_option linter.unusedVariables false
set_option maxRecDepth 100000
namespace Go.Proofs.Ytmgnnclkjkbmdaa
open Go Go.Fw

open Sha
/-- The bytes of a name. -/
def headB (d : Int) (i : UInt32) : List UInt8 := i8 d :: be32 i
@[simp] theorem headB_length (d : Int) (i : UInt32) : (headB d i).length = 5 := rfl
/-- The text of a link, and the link. -/
def linkT (d : Int) (i : UInt32) (ch st : Int) (s : List UInt8) : List UInt8 := headB d i ++ [i8 ch, i8 st] ++ s
def link (d : Int) (i : UInt32) (ch st : Int) (s : List UInt8) : List UInt8 := short 87 (linkT d i ch st s)
@[simp] theorem link_length (d : Int) (i : UInt32) (ch st : Int) (s : List UInt8) : (link d i ch st s).length = 16 := rfl
theorem num4 (i : UInt32) : num i.toUInt64 4 4 = be32 i := by
  have h : (be64 i.toUInt64).drop 4 = be32 i := by
    simp only [be64, be32, List.drop_succ_cons, List.drop_zero]
    have e1 : ∀ k : Nat, k < 32 → (i.toUInt64 >>> UInt64.ofNat k).toUInt8 = (i >>> UInt32.ofNat k).toUInt8 := fun k hk => by
      apply UInt8.toNat_inj.1
      rw [UInt64.toNat_toUInt8, UInt32.toNat_toUInt8, UInt64.toNat_shiftRight, UInt32.toNat_shiftRight, UInt32.toNat_toUInt64, UInt64.toNat_ofNat', UInt32.toNat_ofNat']
      rw [show k % 2 ^ 64 % 64 = k from by omega, show k % 2 ^ 32 % 32 = k from by omega]
    have e2 : i.toUInt64.toUInt8 = i.toUInt8 := by
      apply UInt8.toNat_inj.1
      rw [UInt64.toNat_toUInt8, UInt32.toNat_toUInt8, UInt32.toNat_toUInt64]
    exact List.cons_eq_cons.2 ⟨e1 24 (by omega), List.cons_eq_cons.2 ⟨e1 16 (by omega), List.cons_eq_cons.2 ⟨e1 8 (by omega), List.cons_eq_cons.2 ⟨e2, rfl⟩⟩⟩⟩
  rw [← h]
  rfl
theorem flat3 {v1 v2 v3 : Value} {d : Int} {i : UInt32} {ch st : Int} {s : List UInt8} : flat [(v1, headB d i), (v2, [i8 ch, i8 st]), (v3, s)] = linkT d i ch st s := by simp [flat, linkT]
/-- A slice of these bytes, all of its block. -/
def segE (l : List UInt8) : Value → List Ent → World → Prop := fun v L _ => ∃ g, v = .slice (some ⟨g, 0, none⟩) l.length l.length ∧ L = [.seg g (l.map B) 5]
def rowE (l : List UInt8) : Value → List Ent → World → Prop := fun v L _ => L = [.row v l.length (l.map B) 5 1]
def outE (E : Value → List Ent → World → Prop) (w : World) : Value → World → Prop := fun v w' => ∃ L', E v L' w' ∧ Has w.heap.size w' L'

-- ots.Name).head
set_option maxHeartbeats 4000000 in
theorem ots_head (d : Int) (i : UInt32) (w : World)  : Ctr Try.prog 158 [.agg #[I d, U i]] w (fun _ => False) (outE (segE (headB d i)) w) := by
  refine fn_start (N := 22) Try.func158 rfl rfl rfl fun ac hk => ?_
  have hs := St.start hk w
  refine wp_seq ?_
  refine wp_reg ?_
  refine s_box hs rfl rfl rfl fun ac ww g1 hs => ?_
  refine s_q hs (c_assign (hs.ev rfl)) rfl fun ac hs => ?_
  refine s_end ?_
  replace hs := hs.sub (F' := [(1, _), (2, _)]) ⟨rfl, rfl, trivial⟩
  refine then_n ?_
  refine wp_seq ?_
  refine wp_reg ?_
  refine s_q hs (c_fld fl56_0 (hs.ev rfl)) rfl fun ac hs => ?_
  refine s_q hs (c_loadS un3 rfl (hs.ev rfl) (hs.seg (i := 0) rfl) rfl) rfl fun ac hs => ?_
  refine s_q hs (c_cvIB un3 un5 (hs.ev rfl)) rfl fun ac hs => ?_
  refine s_q hs (c_fld fl56_1 (hs.ev rfl)) rfl fun ac hs => ?_
  refine s_q hs (c_loadS un27 rfl (hs.ev rfl) (hs.seg (i := 0) rfl) rfl) rfl fun ac hs => ?_
  refine s_q hs (c_shrU (hs.ev rfl) (hs.ev rfl) (by decide)) rfl fun ac hs => ?_
  refine s_q hs (c_cvUB un27 un5 (hs.ev rfl)) rfl fun ac hs => ?_
  refine s_q hs (c_fld fl56_1 (hs.ev rfl)) rfl fun ac hs => ?_
  refine s_q hs (c_loadS un27 rfl (hs.ev rfl) (hs.seg (i := 0) rfl) rfl) rfl fun ac hs => ?_
  refine s_q hs (c_shrU (hs.ev rfl) (hs.ev rfl) (by decide)) rfl fun ac hs => ?_
  refine s_q hs (c_cvUB un27 un5 (hs.ev rfl)) rfl fun ac hs => ?_
  refine s_q hs (c_fld fl56_1 (hs.ev rfl)) rfl fun ac hs => ?_
  refine s_q hs (c_loadS un27 rfl (hs.ev rfl) (hs.seg (i := 0) rfl) rfl) rfl fun ac hs => ?_
  refine s_q hs (c_shrU (hs.ev rfl) (hs.ev rfl) (by decide)) rfl fun ac hs => ?_
  refine s_q hs (c_cvUB un27 un5 (hs.ev rfl)) rfl fun ac hs => ?_
  refine s_q hs (c_fld fl56_1 (hs.ev rfl)) rfl fun ac hs => ?_
  refine s_q hs (c_loadS un27 rfl (hs.ev rfl) (hs.seg (i := 0) rfl) rfl) rfl fun ac hs => ?_
  refine s_q hs (c_cvUB un27 un5 (hs.ev rfl)) rfl fun ac hs => ?_
  refine s_bslice hs un34 ty5 (.cons (hs.ev rfl) (.cons (hs.ev rfl) (.cons (hs.ev rfl) (.cons (hs.ev rfl) (.cons (hs.ev rfl) .nil))))) rfl (by simp [Value.cells]) (by decide) rfl rfl fun ac ww g21 hs => ?_
  refine s_q hs (c_assign (hs.ev rfl)) rfl fun ac hs => ?_
  refine s_end ?_
  replace hs := hs.sub (F' := [(2, _)]) ⟨rfl, trivial⟩
  refine then_n ?_
  refine wp_ret ?_
  refine s_ret hs rfl (.tmp (hs.tmp rfl) .nil) rfl ⟨_, rfl, hs.fr, ?_⟩
  exact ⟨_, ⟨_, rfl, rfl⟩, (hs.pick (L' := [_]) (.cons_cons _ (.cons _ .slnil))).made⟩

-- fingerpostref10.Head
set_option maxHeartbeats 4000000 in
theorem ref10_Head (d : Int) (i : UInt32) (w : World)  : Ctr Try.prog 160 [.agg #[I d, U i]] w (fun _ => False) (outE (rowE (headB d i)) w) := by
  refine fn_start (N := 12) Try.func160 rfl rfl rfl fun ac hk => ?_
  have hs := St.start hk w
  refine wp_seq ?_
  refine wp_reg ?_
  refine s_box hs rfl rfl rfl fun ac ww g1 hs => ?_
  refine s_q hs (c_assign (hs.ev rfl)) rfl fun ac hs => ?_
  refine s_end ?_
  replace hs := hs.sub (F' := [(1, _), (2, _)]) ⟨rfl, rfl, trivial⟩
  refine then_n ?_
  refine wp_seq ?_
  refine wp_region_rg pmix 8 (by kernel_rfl) rfl hs ?_
  simp only [List.take_succ_cons, List.take_zero]
  refine rg_q (fun ac ww h => c_fld fl29_0 (h.ev rfl)) rfl ?_
  refine rg_q (fun ac ww h => c_loadS un3 rfl (h.ev rfl) (h.blk (hs.seg (i := 0) rfl)) rfl) rfl ?_
  refine rg_q (fun ac ww h => c_cvIB un3 un5 (h.ev rfl)) rfl ?_
  refine rg_bslice un34 ty5 (fun ac ww h => (.cons (h.ev rfl) .nil)) rfl (by simp [Value.cells]) (by decide) rfl rfl ?_
  refine rg_q (fun ac ww h => c_fld fl29_1 (h.ev rfl)) rfl ?_
  refine rg_q (fun ac ww h => c_loadS un27 rfl (h.ev rfl) (h.blk (hs.seg (i := 0) rfl)) rfl) rfl ?_
  refine rg_q (fun ac ww h => c_cvUV un27 un210 (h.ev rfl)) rfl ?_
  refine rg_callE (fun v L _ => ∃ g, v = .slice (some ⟨g, 0, none⟩) 4 4 ∧ L = [.seg g ((num i.toUInt64 4 4).map B) 5]) (fun _ _ _ _ _ h => h) fu173 (fun ac ww h => ?_) rfl ?_
  · exact ⟨_, .cons (h.ev rfl) (.cons (h.ev rfl) .nil), (ref05_Num _ 4 (by omega) _).mono fun v w' _ ⟨g, hv, hh⟩ => ⟨_, ⟨g, hv, rfl⟩, hh⟩⟩
  refine rg_nil fun ac ww L' hf hfe hs => ?_
  simp only [List.drop_succ_cons, List.drop_zero]
  obtain ⟨v10, L10, M10, h10, e10, ⟨v6, L6, M6, h6, e6, rfl, rfl⟩, rfl⟩ := hfe
  replace hs := hs.add h10
  replace hs := hs.add h6
  obtain ⟨g6, rfl, rfl⟩ := e6
  obtain ⟨gn, rfl, rfl⟩ := e10
  replace hs := hs.segrow (i := 1) (n := 1) (sz := 1) rfl rfl (by decide)
  refine s_appB (i := 1) (l := [i8 d]) hs un34 ty5 rfl rfl rfl (RdB.segn (l := num i.toUInt64 4 4) (hs.seg (i := 0) rfl) (by rw [num4]; rfl) (by decide)) (by rw [num4]; simp) rfl fun ac ww v11 hf hnil hs => ?_
  refine s_q hs (c_assign (hs.ev rfl)) rfl fun ac hs => ?_
  refine s_end ?_
  replace hs := hs.sub (F' := [(2, _)]) ⟨rfl, trivial⟩
  refine then_n ?_
  refine wp_ret ?_
  refine s_ret hs rfl (.tmp (hs.tmp rfl) .nil) rfl ⟨_, rfl, hs.fr, ?_⟩
  rw [num4] at hs
  exact ⟨_, rfl, (hs.pick (L' := [_]) (.cons _ (.cons_cons _ (.cons _ .slnil)))).made⟩

-- ots.Link
set_option maxHeartbeats 4000000 in
theorem ots_Link (d : Int) (i : UInt32) (ch st : Int) (s : List UInt8) (hsl : s.length = 16) (w : World)  : Ctr Try.prog 52 [.agg #[I d, U i], I ch, I st, .agg (s.map B).toArray] w (fun _ => False) (fun v _ => v = .agg ((link d i ch st s).map B).toArray) := by
  refine fn_start (N := 19) Try.func52 rfl rfl rfl fun ac hk => ?_
  have hs := St.start hk w
  refine wp_seq ?_
  refine wp_reg ?_
  refine s_box hs rfl rfl rfl fun ac ww g4 hs => ?_
  refine s_box hs rfl rfl rfl fun ac ww g7 hs => ?_
  refine s_alloc hs ty54 rfl fun ac ww g8 hs => ?_
  refine s_end ?_
  replace hs := hs.sub (F' := [(1, _), (2, _), (4, _), (7, _), (8, _)]) ⟨rfl, rfl, rfl, rfl, rfl, trivial⟩
  refine then_n ?_
  refine wp_seq ?_
  refine wp_region_rg pmix 8 (by kernel_rfl) rfl hs ?_
  simp only [List.take_succ_cons, List.take_zero]
  refine rg_q (fun ac ww h => c_loadW ty56 ag56 (h.ev rfl) (h.blk (hs.seg (i := 2) rfl)) (by rfl)) rfl ?_
  refine rg_callE (segE (headB d i)) (fun _ _ _ _ _ h => h) fu158 (fun ac ww h => ?_) rfl ?_
  · exact ⟨_, .cons (h.ev rfl) .nil, ots_head d i _⟩
  refine rg_q (fun ac ww h => c_move (h.ev rfl)) rfl ?_
  refine rg_q (fun ac ww h => c_cvIB un3 un5 (h.ev rfl)) rfl ?_
  refine rg_q (fun ac ww h => c_move (h.ev rfl)) rfl ?_
  refine rg_q (fun ac ww h => c_cvIB un3 un5 (h.ev rfl)) rfl ?_
  refine rg_bslice un34 ty5 (fun ac ww h => (.cons (h.ev rfl) (.cons (h.ev rfl) .nil))) rfl (by simp [Value.cells]) (by decide) rfl rfl ?_
  refine rg_q (fun ac ww h => c_sliceA un54 ty5 (h.ev rfl)) rfl ?_
  refine rg_nil fun ac ww L' hf hfe hs => ?_
  simp only [List.drop_succ_cons, List.drop_zero]
  obtain ⟨v15, L15, M15, h15, e15, ⟨v10, L10, M10, h10, e10, rfl, rfl⟩, rfl⟩ := hfe
  replace hs := hs.add h15
  replace hs := hs.add h10
  obtain ⟨g15, rfl, rfl⟩ := e15
  obtain ⟨g10, rfl, rfl⟩ := e10
  refine s_bslice hs un30 ty34 (.cons (hs.ev rfl) (.cons (hs.ev rfl) (.cons (hs.ev rfl) .nil))) rfl (by simp [Value.cells]) (by decide) rfl rfl fun ac ww g17 hs => ?_
  refine s_call hs fu91 (.cons (hs.ev rfl) (.cons (hs.ev rfl) .nil)) (mac_Short 87 [(_, headB d i), (_, [i8 ch, i8 st]), (_, s)] _ (by simp [flat, hsl]) _ (RdP.seg (ps := [(_, headB d i), (_, [i8 ch, i8 st]), (_, s)]) (hs.seg (i := 0) rfl) (by show 3 ≤ maxLen; decide) (.cons (RdB.seg (hs.seg (i := 2) rfl) (by rw [headB_length]; decide)) (.cons (RdB.seg (l := [i8 ch, i8 st]) (hs.seg (i := 1) rfl) (by show 2 ≤ maxLen; decide)) (.cons (RdB.segn (hs.seg (i := 4) rfl) hsl (by decide)) .nil))))) rfl fun ac ww v18 hf hp hs => ?_
  obtain rfl := hp
  replace hs := hs [] (.nil _ _)
  refine s_storeW (i := 3) hs ty54 rfl rfl rfl (by simp) (all_map_B _) (by simp) fun ww hs => ?_
  refine s_end ?_
  replace hs := hs.sub (F' := [(8, _)]) ⟨rfl, trivial⟩
  refine then_n ?_
  refine wp_ret ?_
  refine s_ret hs rfl (.cell (hs.tmp rfl) (run_loadA ty54 rfl (hs.seg (i := 3) rfl) (List.take_of_length_le (by simp)) (by simp)) .nil) rfl ⟨_, rfl, hs.fr, ?_⟩
  show _ = _
  rw [flat3]
  rfl

-- fingerpostref10.Text
set_option maxHeartbeats 4000000 in
theorem ref10_Text (d : Int) (i : UInt32) (ch st : Int) (s : List UInt8) (hsl : s.length = 16) (w : World)  : Ctr Try.prog 55 [.agg #[I d, U i], I ch, I st, .agg (s.map B).toArray] w (fun _ => False) (outE (rowE (87 :: linkT d i ch st s)) w) := by
  refine fn_start (N := 19) Try.func55 rfl rfl rfl fun ac hk => ?_
  have hs := St.start hk w
  refine wp_seq ?_
  refine wp_reg ?_
  refine s_box hs rfl rfl rfl fun ac ww g4 hs => ?_
  refine s_box hs rfl rfl rfl fun ac ww g7 hs => ?_
  refine s_q hs (c_assign (hs.ev rfl)) rfl fun ac hs => ?_
  refine s_end ?_
  replace hs := hs.sub (F' := [(1, _), (2, _), (4, _), (7, _), (8, _)]) ⟨rfl, rfl, rfl, rfl, rfl, trivial⟩
  refine then_n ?_
  refine wp_seq ?_
  refine wp_region_rg pmix 8 (by kernel_rfl) rfl hs ?_
  simp only [List.take_succ_cons, List.take_zero]
  refine rg_q (fun ac ww h => c_loadW ty29 ag29 (h.ev rfl) (h.blk (hs.seg (i := 1) rfl)) (by rfl)) rfl ?_
  refine rg_callE (rowE (headB d i)) (fun _ _ _ _ _ h => h) fu160 (fun ac ww h => ?_) rfl ?_
  · exact ⟨_, .cons (h.ev rfl) .nil, ref10_Head d i _⟩
  refine rg_q (fun ac ww h => c_move (h.ev rfl)) rfl ?_
  refine rg_q (fun ac ww h => c_cvIB un3 un5 (h.ev rfl)) rfl ?_
  refine rg_q (fun ac ww h => c_move (h.ev rfl)) rfl ?_
  refine rg_q (fun ac ww h => c_cvIB un3 un5 (h.ev rfl)) rfl ?_
  refine rg_bslice un34 ty5 (fun ac ww h => (.cons (h.ev rfl) (.cons (h.ev rfl) .nil))) rfl (by simp [Value.cells]) (by decide) rfl rfl ?_
  refine rg_q (fun ac ww h => c_sliceA un22 ty5 (h.ev rfl)) rfl ?_
  refine rg_nil fun ac ww L' hf hfe hs => ?_
  simp only [List.drop_succ_cons, List.drop_zero]
  obtain ⟨v15, L15, M15, h15, e15, ⟨v10, L10, M10, h10, e10, rfl, rfl⟩, rfl⟩ := hfe
  replace hs := hs.add h15
  replace hs := hs.add h10
  obtain ⟨g15, rfl, rfl⟩ := e15
  obtain rfl := e10
  obtain ⟨ad10, cap10, rfl, _, _⟩ := Rd.sl (RdB.row (hs.get (i := 1) rfl))
  refine s_bslice hs un30 ty34 (.cons (hs.ev rfl) (.cons (hs.ev rfl) (.cons (hs.ev rfl) .nil))) rfl (by simp [Value.cells]) (by decide) rfl rfl fun ac ww g17 hs => ?_
  refine s_call hs fu159 (.cons (hs.ev rfl) (.cons (hs.ev rfl) .nil)) (ref05_Text 87 [(_, headB d i), (_, [i8 ch, i8 st]), (_, s)] _ (by simp [flat, hsl]) _ (RdP.seg (ps := [(_, headB d i), (_, [i8 ch, i8 st]), (_, s)]) (hs.seg (i := 0) rfl) (by show 3 ≤ maxLen; decide) (.cons (RdB.row (hs.get (i := 2) rfl)) (.cons (RdB.seg (l := [i8 ch, i8 st]) (hs.seg (i := 1) rfl) (by show 2 ≤ maxLen; decide)) (.cons (RdB.segn (hs.seg (i := 3) rfl) hsl (by decide)) .nil))))) rfl fun ac ww v18 hf hp hs => ?_
  obtain ⟨qv, rfl, hh⟩ := hp
  rw [flat3] at hh
  replace hs := hs _ hh
  refine s_q hs (c_assign (hs.ev rfl)) rfl fun ac hs => ?_
  refine s_end ?_
  replace hs := hs.sub (F' := [(8, _)]) ⟨rfl, trivial⟩
  refine then_n ?_
  refine wp_ret ?_
  refine s_ret hs rfl (.tmp (hs.tmp rfl) .nil) rfl ⟨_, rfl, hs.fr, ?_⟩
  exact ⟨_, rfl, (hs.pick (L' := [_]) (.cons_cons _ (.cons _ (.cons _ (.cons _ (.cons _ (.cons _ .slnil))))))).made⟩

-- fingerpostlaw10.To
set_option maxHeartbeats 4000000 in
theorem law10_To (d : Int) (i : UInt32) (w : World)  : Ctr Try.prog 53 [.agg #[I d, U i]] w (fun _ => False) (fun v _ => v = .agg #[I d, U i]) := by
  refine fn_start (N := 8) Try.func53 rfl rfl rfl fun ac hk => ?_
  have hs := St.start hk w
  refine wp_seq ?_
  refine wp_reg ?_
  refine s_box hs rfl rfl rfl fun ac ww g1 hs => ?_
  refine s_alloc hs ty56 rfl fun ac ww g2 hs => ?_
  refine s_end ?_
  replace hs := hs.sub (F' := [(1, _), (2, _)]) ⟨rfl, rfl, trivial⟩
  refine then_n ?_
  refine wp_seq ?_
  refine wp_reg ?_
  refine s_q hs (c_fld fl29_0 (hs.ev rfl)) rfl fun ac hs => ?_
  refine s_q hs (c_loadS un3 rfl (hs.ev rfl) (hs.seg (i := 1) rfl) rfl) rfl fun ac hs => ?_
  refine s_q hs (c_fld fl29_1 (hs.ev rfl)) rfl fun ac hs => ?_
  refine s_q hs (c_loadS un27 rfl (hs.ev rfl) (hs.seg (i := 1) rfl) rfl) rfl fun ac hs => ?_
  refine s_q hs (c_buildS ty56 bp56 (.cons (hs.ev rfl) (.cons (hs.ev rfl) .nil)) ⟨rfl, rfl, trivial⟩ (by simp [flatCells, Value.cells]) rfl) rfl fun ac hs => ?_
  refine s_storeW (i := 0) hs ty56 rfl rfl rfl (by rfl) (by rfl) (by simp) fun ww hs => ?_
  refine s_end ?_
  replace hs := hs.sub (F' := [(2, _)]) ⟨rfl, trivial⟩
  refine then_n ?_
  refine wp_ret ?_
  refine s_ret hs rfl (.cell (hs.tmp rfl) (run_loadA ty56 ag56 (hs.seg (i := 0) rfl) rfl (by rfl)) .nil) rfl ⟨_, rfl, hs.fr, ?_⟩
  rfl

-- fingerpostlaw10.OtsLinks
set_option maxHeartbeats 4000000 in
theorem law_OtsLinks (d : Int) (i : UInt32) (ch st : Int) (s : List UInt8) (hsl : s.length = 16) (w : World)  : Ctr Try.prog 9 [.agg #[I d, U i], I ch, I st, .agg (s.map B).toArray] w (fun _ => False) (fun v _ => v = .bool true) := by
  refine fn_start (N := 25) Try.func9 rfl rfl rfl fun ac hk => ?_
  have hs := St.start hk w
  refine wp_seq ?_
  refine wp_reg ?_
  refine s_box hs rfl rfl rfl fun ac ww g4 hs => ?_
  refine s_box hs rfl rfl rfl fun ac ww g7 hs => ?_
  refine s_q hs (c_assign (hs.ev rfl)) rfl fun ac hs => ?_
  refine s_end ?_
  replace hs := hs.sub (F' := [(1, _), (2, _), (4, _), (7, _), (8, _)]) ⟨rfl, rfl, rfl, rfl, rfl, trivial⟩
  refine then_n ?_
  refine wp_seq ?_
  refine wp_region_rg pmix 12 (by kernel_rfl) rfl hs ?_
  simp only [List.take_succ_cons, List.take_zero]
  refine rg_call fu37 (fun ac ww h => .nil) (fun ww hf => law10_awake _) rfl ?_
  refine rg_q (fun ac ww h => c_move (h.ev rfl)) rfl ?_
  refine rg_yes rfl rfl (fun ac ww h => c_loadW ty29 ag29 (h.ev rfl) (h.blk (hs.seg (i := 1) rfl)) (by rfl)) rfl ?_
  refine rg_strip rfl rfl ?_
  refine rg_call fu53 (fun ac ww h => (.cons (h.ev rfl) .nil)) (fun ww hf => law10_To d i ww) rfl ?_
  refine rg_yes rfl rfl (fun ac ww h => c_move (h.ev rfl)) rfl ?_
  refine rg_yes rfl rfl (fun ac ww h => c_move (h.ev rfl)) rfl ?_
  refine rg_yes rfl rfl (fun ac ww h => c_loadW ty22 rfl (h.ev rfl) (h.blk (hs.seg (i := 0) rfl)) (by rw [List.length_map, hsl])) rfl ?_
  refine rg_strip rfl rfl ?_
  refine rg_call fu52 (fun ac ww h => (.cons (h.ev rfl) (.cons (h.ev rfl) (.cons (h.ev rfl) (.cons (h.ev rfl) .nil))))) (fun ww hf => ots_Link d i ch st s hsl ww) rfl ?_
  refine rg_yes rfl rfl (fun ac ww h => c_loadW ty29 ag29 (h.ev rfl) (h.blk (hs.seg (i := 1) rfl)) (by rfl)) rfl ?_
  refine rg_yes rfl rfl (fun ac ww h => c_move (h.ev rfl)) rfl ?_
  refine rg_yes rfl rfl (fun ac ww h => c_move (h.ev rfl)) rfl ?_
  refine rg_yes rfl rfl (fun ac ww h => c_loadW ty22 rfl (h.ev rfl) (h.blk (hs.seg (i := 0) rfl)) (by rw [List.length_map, hsl])) rfl ?_
  refine rg_nil fun ac ww L' hf hfe hs => ?_
  simp only [List.drop_succ_cons, List.drop_zero]
  obtain rfl : L' = [] := hfe
  replace hs := hs.toL (List.nil_append _)
  refine s_yes hs rfl rfl ?_
  refine s_call hs fu55 (.cons (hs.ev rfl) (.cons (hs.ev rfl) (.cons (hs.ev rfl) (.cons (hs.ev rfl) .nil)))) (ref10_Text d i ch st s hsl _) rfl fun ac ww v21 hf hp hs => ?_
  obtain ⟨L', hv, hh⟩ := hp
  subst hv
  replace hs := hs _ hh
  refine s_yes hs rfl rfl ?_
  refine s_call hs fu54 (.cons (hs.ev rfl) .nil) (ref06_Of 87 (linkT d i ch st s) _ (by simp [linkT, hsl]) _ (RdB.row (hs.get (i := 0) rfl))) rfl fun ac ww v22 hf hp hs => ?_
  obtain rfl := hp
  replace hs := hs [] (.nil _ _)
  refine s_yes hs rfl rfl ?_
  refine s_q hs (c_tt (c_eqlAB un54 ty5 eg54 (hs.ev rfl) (hs.ev rfl) (link_length _ _ _ _ _) (link_length d i ch st s)) (by simp [link])) rfl fun ac hs => ?_
  refine s_q hs (c_pick (hs.ev rfl) (hs.ev rfl) (hs.ev rfl)) rfl fun ac hs => ?_
  refine s_q hs (c_assign (hs.ev rfl)) rfl fun ac hs => ?_
  refine s_end ?_
  replace hs := hs.sub (F' := [(8, _)]) ⟨rfl, trivial⟩
  refine then_n ?_
  refine wp_ret ?_
  refine s_ret hs rfl (.tmp (hs.tmp rfl) .nil) rfl ⟨_, rfl, hs.fr, ?_⟩
  rfl

end Go.Proofs.Ytmgnnclkjkbmdaa
end
