/- Own texts of this seat, laid together: LadN, LadO, LadP. -/
import Derived.Test.YtmgnnclkjkbmdaaGa
import Derived.Test.YtmgnnclkjkbmdaaGb
import Derived.Test.YtmgnnclkjkbmdaaGe
import Derived.Test.YtmgnnclkjkbmdaaHb
import Derived.Test.YtmgnnclkjkbmdaaHc
import Derived.Test.YtmgnnclkjkbmdaaJa
import Derived.Test.YtmgnnclkjkbmdaaJc
/- What a node shows and what it rises to, whatever is handed in. -/
section
set_option linter.unusedSimpArgs false
set_option linter.unusedVariables false
set_option maxRecDepth 100000
namespace Go.Proofs.Ytmgnnclkjkbmdaa
open Go Go.Fw

open Sha
def okS (r x id : Int) : Bool := rightB r x && decide (0 ≤ id) && decide (id < x)
theorem okS_spec {r x id : Int} (h : okS r x id = true) : ∃ lv W q : Nat, lv ≤ 3 ∧ W = 2 ^ lv ∧ x = (W : Int) ∧ levels x = lv ∧ id = (q : Int) ∧ q < W ∧ rightB r W = true := by
  unfold okS at h
  simp only [Bool.and_eq_true, decide_eq_true_eq] at h
  obtain ⟨lv, W, h1, h2, rfl, h4⟩ := right_lv h.1.1
  exact ⟨lv, W, id.toNat, h1, h2, rfl, h4, by omega, by omega, h.1.1⟩
theorem xor_beside (q : Nat) : q ^^^ 1 = besideI q := by
  have h1 : (q ^^^ 1) / 2 = q / 2 := by rw [Nat.xor_div_two]; simp
  have h2 : (q ^^^ 1) % 2 = (q + 1) % 2 := by
    have h := Nat.testBit_xor q 1 0
    simp only [Nat.testBit_zero] at h
    have h3 : ((q ^^^ 1) % 2 = 1) ↔ ¬ (q % 2 = 1) := by
      by_cases e : q % 2 = 1 <;> simp [e] at h ⊢ <;> omega
    omega
  unfold besideI
  split <;> omega
theorem beside_in {q n k : Nat} (h : q < 2 ^ n) (hk : k < n) : besideI (q / 2 ^ k) < 2 ^ (n - k) := by
  have h1 : q / 2 ^ k < 2 ^ (n - k) := by
    rw [Nat.div_lt_iff_lt_mul (Nat.two_pow_pos k), ← Nat.pow_add, show n - k + k = n by omega]
    exact h
  obtain ⟨h2, hh⟩ : ∃ h2, 2 ^ (n - k) = 2 * h2 := ⟨2 ^ (n - k - 1), by rw [show n - k = n - k - 1 + 1 by omega, Nat.pow_succ]; simp; omega⟩
  rw [hh] at h1 ⊢
  generalize q / 2 ^ k = z at h1 ⊢
  unfold besideI
  split <;> omega
/-- What is shown, and why not. -/
def shL (d : Int) (ep sq : UInt32) (r : Int) (e : List UInt8) (x id : Int) : List UInt8 := if okS r x id = true then lNode d ep sq r e 0 id.toNat else List.replicate 16 0
def shN (r x id : Int) : Nat := if okS r x id = true then (levels x).toNat else 0
def shW (d : Int) (ep sq : UInt32) (r : Int) (e : List UInt8) (x id : Int) : List UInt8 := if okS r x id = true then showW d ep sq r e id.toNat (levels x).toNat else []
def shE (r x id : Int) : Int := if okS r x id = true then 0 else 1
def rsB (d : Int) (ep sq : UInt32) (r x id : Int) (l ws : List UInt8) (n : Nat) : List UInt8 := if okS r x id = true then riseB d ep sq r id.toNat l ws (levels x).toNat n else List.replicate 16 0
def rsE (r x id : Int) (n : Nat) : Int := if okS r x id = true then riseE (levels x).toNat n else 1
def rsX (d : Int) (ep sq : UInt32) (r x id : Int) (l ws : List UInt8) (n : Nat) : List (List UInt8) := if okS r x id = true then riseX d ep sq r id.toNat l ws (levels x).toNat n else []
theorem shL_length (d : Int) (ep sq : UInt32) (r : Int) (e : List UInt8) (x id : Int) : (shL d ep sq r e x id).length = 16 := by
  unfold shL
  split
  · exact lNode_length _ _ _ _ _ _ _
  · simp
theorem shW_length (d : Int) (ep sq : UInt32) (r : Int) (e : List UInt8) (x id : Int) : (shW d ep sq r e x id).length = shN r x id * 16 := by
  unfold shW shN
  split
  · exact showW_length _ _ _ _ _ _ _
  · rfl
theorem shN_le (r x id : Int) : shN r x id ≤ 3 := by
  unfold shN
  split
  · rename_i h
    obtain ⟨lv, W, q, h1, h2, rfl, h4, _⟩ := okS_spec h
    rw [h4, Int.toNat_natCast]
    exact h1
  · omega
theorem rsB_length {d : Int} {ep sq : UInt32} {r x id : Int} {l ws : List UInt8} (hl : l.length = 16) (n : Nat) : (rsB d ep sq r x id l ws n).length = 16 := by
  unfold rsB
  split
  · exact riseB_length hl _ _
  · simp
/-- What is shown rises to the next element. -/
theorem meets {d : Int} {ep sq : UInt32} {r : Int} {e : List UInt8} {x id : Int} (h : okS r x id = true) : rsB d ep sq r x id (shL d ep sq r e x id) (shW d ep sq r e x id) (shN r x id) = upB d ep sq r e x ∧ rsE r x id (shN r x id) = 0 ∧ upN r x = 0 := by
  obtain ⟨lv, W, q, h1, h2, rfl, h4, rfl, h6, h7⟩ := okS_spec h
  rw [rsB, rsE, shL, shW, shN, if_pos h, if_pos h, if_pos h, if_pos h, if_pos h, h4, Int.toNat_natCast, Int.toNat_natCast, riseB, riseE, if_pos rfl, if_pos rfl, rise_honest, upB, upN, if_pos h7, if_pos h7, h4, Int.toNat_natCast, Nat.div_eq_of_lt (by rw [← h2]; exact h6)]
  exact ⟨rfl, rfl, rfl⟩

-- ladder.Show
set_option maxHeartbeats 4000000 in
theorem ladder_Show (d : Int) (ep sq : UInt32) (r : Int) (e : List UInt8) (W lv q : Nat) (hel : e.length = 16) (hr : rightB r W = true) (hW : W = 2 ^ lv) (hlv : lv ≤ 3) (hxl : levels W = lv) (hqW : q < W) (w : World)  : Ctr Try.prog 114 [.agg #[I d, U ep, U sq], I r, .agg (e.map B).toArray, I W, I q] w (fun _ => False) (outE (tup3E (.agg ((lNode d ep sq r e 0 q).map B).toArray) (I 0) (rowS lv (showW d ep sq r e q lv))) w) := by
  have hW8 : W ≤ 8 := by rw [hW]; exact pow8 hlv
  refine fn_start (N := 64) Try.func114 rfl rfl rfl fun ac hk => ?_
  have hs := St.start hk w
  refine wp_seq ?_
  refine wp_reg ?_
  refine s_box hs rfl rfl rfl fun ac ww g5 hs => ?_
  refine s_box hs rfl rfl rfl fun ac ww g7 hs => ?_
  refine s_alloc hs ty54 rfl fun ac ww g10 hs => ?_
  refine s_q hs (c_assign (hs.ev rfl)) rfl fun ac hs => ?_
  refine s_q hs (c_assign (hs.ev rfl)) rfl fun ac hs => ?_
  refine s_end ?_
  replace hs := hs.sub (F' := [(1, _), (3, _), (4, _), (5, _), (7, _), (10, _), (11, _), (12, _)]) ⟨rfl, rfl, rfl, rfl, rfl, rfl, rfl, rfl, trivial⟩
  refine then_n ?_
  refine wp_seq ?_
  refine wp_seq ?_
  refine wp_reg ?_
  refine s_q hs (c_move (hs.ev rfl)) rfl fun ac hs => ?_
  refine s_q hs (c_move (hs.ev rfl)) rfl fun ac hs => ?_
  refine s_call hs fu165 (.cons (hs.ev rfl) (.cons (hs.ev rfl) .nil)) (ladder_right r W _) rfl fun ac ww v19 hf hp hs => ?_
  obtain rfl := hp
  replace hs := hs [] (.nil _ _)
  refine s_q hs (c_ff (c_not (hs.ev rfl)) (by rw [hr]; rfl)) rfl fun ac hs => ?_
  refine s_q hs (c_move (hs.ev rfl)) rfl fun ac hs => ?_
  refine s_yes hs rfl rfl ?_
  refine s_q hs (c_move (hs.ev rfl)) rfl fun ac hs => ?_
  refine s_yes hs rfl rfl ?_
  refine s_q hs (c_ff (c_lssI (hs.ev rfl) (hs.ev rfl)) (by simp; try omega)) rfl fun ac hs => ?_
  refine s_q hs (c_pick (hs.ev rfl) (hs.ev rfl) (hs.ev rfl)) rfl fun ac hs => ?_
  refine s_q hs (c_move (hs.ev rfl)) rfl fun ac hs => ?_
  refine s_yes hs rfl rfl ?_
  refine s_q hs (c_move (hs.ev rfl)) rfl fun ac hs => ?_
  refine s_yes hs rfl rfl ?_
  refine s_q hs (c_move (hs.ev rfl)) rfl fun ac hs => ?_
  refine s_yes hs rfl rfl ?_
  refine s_q hs (c_ff (c_geqI (hs.ev rfl) (hs.ev rfl)) (by simp; try omega)) rfl fun ac hs => ?_
  refine s_q hs (c_pick (hs.ev rfl) (hs.ev rfl) (hs.ev rfl)) rfl fun ac hs => ?_
  refine s_end ?_
  replace hs := hs.sub (F' := [(1, _), (3, _), (4, _), (5, _), (7, _), (10, _), (11, _), (12, _), (29, _)]) ⟨rfl, rfl, rfl, rfl, rfl, rfl, rfl, rfl, rfl, trivial⟩
  refine then_n ?_
  refine wp_cond_false (hs.ev rfl) ?_
  refine wp_skip ?_
  refine then_n ?_
  refine wp_seq ?_
  refine wp_reg ?_
  refine s_q hs (c_loadW ty84 ag84 (hs.ev rfl) (hs.seg (i := 2) rfl) (by rfl)) rfl fun ac hs => ?_
  refine s_q hs (c_move (hs.ev rfl)) rfl fun ac hs => ?_
  refine s_q hs (c_loadW ty54 rfl (hs.ev rfl) (hs.seg (i := 1) rfl) (by rw [List.length_map, hel])) rfl fun ac hs => ?_
  refine s_q hs (c_move (hs.ev rfl)) rfl fun ac hs => ?_
  refine s_call hs fu166 (.cons (hs.ev rfl) (.cons (hs.ev rfl) (.cons (hs.ev rfl) (.cons (hs.ev rfl) .nil)))) (ladder_tree d ep sq r e W lv hW hlv hel _) rfl fun ac ww v35 hf hp hs => ?_
  obtain ⟨L', ⟨ps, hps, rfl⟩, hh⟩ := hp
  replace hs := hs _ hh
  have hpl : ps.length = lv + 1 := by have := congrArg List.length hps; simpa using this
  obtain ⟨og, ocap, ocur, rfl, hog, hon, hom, hot⟩ := texts_at (hs.get (i := 0) rfl) (by omega)
  refine s_q hs (c_assign (hs.ev rfl)) rfl fun ac hs => ?_
  refine s_end ?_
  replace hs := hs.sub (F' := [(4, _), (10, _), (11, _), (12, _), (13, _)]) ⟨rfl, rfl, rfl, rfl, rfl, trivial⟩
  refine then_n ?_
  refine wp_seq ?_
  refine wp_reg ?_
  refine s_q hs (c_assign (hs.ev rfl)) rfl fun ac hs => ?_
  refine s_end ?_
  replace hs := hs.nilrow 54 16
  refine then_n ?_
  refine wp_seq ?_
  refine wp_seq ?_
  refine wp_reg ?_
  refine s_q hs (c_move (hs.ev rfl)) rfl fun ac hs => ?_
  refine s_q hs (c_assign (hs.ev rfl)) rfl fun ac hs => ?_
  refine s_q hs (c_assign (hs.ev rfl)) rfl fun ac hs => ?_
  refine s_end ?_
  replace hs := hs.sub (F' := [(4, _), (10, _), (11, _), (12, _), (13, _), (14, _), (15, _), (16, _)]) ⟨rfl, rfl, rfl, rfl, rfl, rfl, rfl, rfl, trivial⟩
  refine then_n ?_
  refine wp_block ?_
  refine s_loop hs (X := Nat × Value) (fun x => [(14, x.2), (15, I x.1), (16, I (q / 2 ^ x.1 : Nat))]) [(4, _), (10, _), (11, _), (12, _), (13, _)] (fun x => [.row x.2 x.1 ((showW d ep sq r e q x.1).map B) 54 16, _, _, _, _]) (fun j x => x.1 ≤ lv ∧ j = lv - x.1) (_) ((0, _)) (⟨Nat.zero_le _, rfl⟩) ⟨rfl, rfl, (congrArg (fun z : Nat => some (I z)) (by simp)), rfl, rfl, rfl, rfl, rfl, trivial⟩ rfl ?_
  rintro n ⟨k, v⟩ ac ww hok hs
  simp only [List.cons_append, List.nil_append] at hs
  obtain ⟨hk, rfl⟩ := hok
  simp only at hk hs
  obtain ⟨qk, hqk⟩ : ∃ qk : Nat, q / 2 ^ k = qk := ⟨_, rfl⟩
  have hqle : qk ≤ q := hqk ▸ Nat.div_le_self _ _
  rw [hqk] at hs
  have hsl := showW_length d ep sq r e q k
  refine wp_seq ?_
  refine wp_seq ?_
  refine wp_reg ?_
  refine s_q hs (c_move (hs.ev rfl)) rfl fun ac hs => ?_
  refine s_q hs (c_move (hs.ev rfl)) rfl fun ac hs => ?_
  refine s_q hs (c_lenS un222 (hs.ev rfl)) rfl fun ac hs => ?_
  refine s_q hs (c_to (c_subI (hs.ev rfl) (hs.ev rfl) (by omega) (by omega)) ((congrArg I (show ((ps.length : Int) - 1 = (lv : Int)) by omega)))) rfl fun ac hs => ?_
  refine s_q hs (c_lssI (hs.ev rfl) (hs.ev rfl)) rfl fun ac hs => ?_
  refine s_end ?_
  refine then_n ?_
  refine s_cond hs rfl (fun hc => ?_) (fun hc => ?_)
  · try simp only [decide_eq_true_eq, decide_eq_false_iff_not, Bool.not_eq_true', Bool.not_eq_false', Bool.and_eq_true, Bool.or_eq_true, Bool.or_eq_false_iff] at hc
    have hkl : k < lv := by omega
    have hbl := beside_in (k := k) (by rw [← hW]; exact hqW) hkl
    rw [hqk] at hbl
    obtain ⟨og2, oc2, ocur2, hoe2, hog2, _, _, hot2⟩ := texts_at (hs.get (i := 1) rfl) (by omega)
    cases hoe2
    have hz2 := snd_at hps (show k < lv + 1 by omega) (.nilIface, 0, [])
    have ho2 : ww.ownsRow 0 54 16 (ps.getD k (.nilIface, 0, [])).1 (ps.getD k (.nilIface, 0, [])).2.1 ((ps.getD k (.nilIface, 0, [])).2.2.map B) := texts_part (hs.get (i := 1) rfl) (k := k) (by omega) (.nilIface, 0, [])
    rw [hz2] at ho2
    simp only [lRow] at ho2
    obtain ⟨rg2, rcap2, rcur2, hre2, hrg2, hrn2, hrm2, hrt2⟩ := owns_at ho2 (pow_pos' _)
    refine wp_skip ?_
    refine then_n ?_
    refine wp_seq ?_
    refine wp_block ?_
    refine wp_reg ?_
    refine s_q hs (c_move (hs.ev rfl)) rfl fun ac hs => ?_
    refine s_q hs (c_move (hs.ev rfl)) rfl fun ac hs => ?_
    refine s_q hs (c_move (hs.ev rfl)) rfl fun ac hs => ?_
    refine s_q hs (c_idxS (j := k) un222 ty110 (hs.ev rfl) (hs.ev rfl) (by omega) (by omega)) rfl fun ac hs => ?_
    refine s_q hs (c_loadS un110 rfl (hs.ev rfl) hog2 ((outcell (.nilIface, 0, []) hot2 (by omega)).trans (congrArg some hre2))) rfl fun ac hs => ?_
    refine s_q hs (c_move (hs.ev rfl)) rfl fun ac hs => ?_
    refine s_q hs (c_to (c_xor1I (hs.ev rfl) (hs.ev rfl) (by omega)) ((congrArg (fun z : Nat => I z) (xor_beside qk)))) rfl fun ac hs => ?_
    refine s_q hs (c_idxS (j := besideI qk) un110 ty54 (hs.ev rfl) (hs.ev rfl) (by omega) hbl) rfl fun ac hs => ?_
    refine s_q hs (c_loadA ty54 rfl (hs.ev rfl) hrg2 ((rowpiece (i := besideI qk) hrt2 (by rw [lrows_length]; omega) hbl).trans (by rw [rows_piece (lNode_length d ep sq r e k) hbl])) (by rw [List.length_map]; exact lNode_length _ _ _ _ _ _ _)) rfl fun ac hs => ?_
    refine s_bslice hs un110 ty54 (.cons (hs.ev rfl) .nil) rfl (by intro v hv; simp only [List.mem_singleton] at hv; subst hv; simp [Value.cells, lNode_length]) (by decide) (show _ = (lNode d ep sq r e k (besideI qk)).map B by simp [flatCells, Value.cells]) rfl fun ac ww g55 hs => ?_
    refine s_append (i := 1) hs un110 ty54 (by decide) rfl rfl rfl (Rd.of_seg (n := 1) (hs.seg (i := 0) rfl) (Nat.le_refl _) (by decide) (List.take_of_length_le (by simp))) (by rw [List.length_map, lNode_length]) (all_map_B _) (by unfold maxLen; omega) (by omega) rfl fun ac ww v56 hf hnil hs => ?_
    refine s_q hs (c_assign (hs.ev rfl)) rfl fun ac hs => ?_
    refine s_end ?_
    refine blk_n ?_
    refine then_n ?_
    refine wp_reg ?_
    refine s_q hs (c_move (hs.ev rfl)) rfl fun ac hs => ?_
    refine s_q hs (c_addI (hs.ev rfl) (hs.ev rfl) (by omega) (by omega)) rfl fun ac hs => ?_
    refine s_q hs (c_move (hs.ev rfl)) rfl fun ac hs => ?_
    refine s_q hs (c_quoI (hs.ev rfl) (hs.ev rfl) (by omega) (by omega) (by omega)) rfl fun ac hs => ?_
    refine s_q hs (c_assign (hs.ev rfl)) rfl fun ac hs => ?_
    refine s_q hs (c_assign (hs.ev rfl)) rfl fun ac hs => ?_
    refine s_end ?_
    refine then_n ?_
    replace hs := hs.pick (L' := [_, _, _, _, _]) (.cons _ (.refl _))
    exact ⟨lv - (k + 1), by (try simp only); omega, (k + 1, _), ⟨by (try simp only); omega, rfl⟩, St.next hs ⟨rfl, rfl, (congrArg (fun z => some (I z)) (by rw [half_pow, hqk]; omega)), rfl, rfl, rfl, rfl, rfl, trivial⟩ (by simp only [showW_succ, List.map_append, wayN, hqk])⟩
  · try simp only [decide_eq_true_eq, decide_eq_false_iff_not, Bool.not_eq_true', Bool.not_eq_false', Bool.and_eq_true, Bool.or_eq_true, Bool.or_eq_false_iff] at hc
    obtain rfl : lv = k := by omega
    obtain ⟨og3, oc3, ocur3, hoe3, hog3, _, _, hot3⟩ := texts_at (hs.get (i := 1) rfl) (by omega)
    cases hoe3
    have hz3 := snd_at hps (show 0 < lv + 1 by omega) (.nilIface, 0, [])
    have ho3 : ww.ownsRow 0 54 16 (ps.getD 0 (.nilIface, 0, [])).1 (ps.getD 0 (.nilIface, 0, [])).2.1 ((ps.getD 0 (.nilIface, 0, [])).2.2.map B) := texts_part (hs.get (i := 1) rfl) (k := 0) (by omega) (.nilIface, 0, [])
    rw [hz3] at ho3
    simp only [lRow] at ho3
    obtain ⟨rg3, rcap3, rcur3, hre3, hrg3, hrn3, hrm3, hrt3⟩ := owns_at ho3 (pow_pos' _)
    refine wp_exit ?_
    refine then_e ?_
    refine then_e ?_
    refine blk_hit ?_
    refine then_n ?_
    refine wp_seq ?_
    refine wp_reg ?_
    refine s_q hs (c_move (hs.ev rfl)) rfl fun ac hs => ?_
    refine s_q hs (c_idxS (j := 0) un222 ty110 (hs.ev rfl) (hs.ev rfl) (by omega) (by omega)) rfl fun ac hs => ?_
    refine s_q hs (c_loadS un110 rfl (hs.ev rfl) hog3 ((outcell (.nilIface, 0, []) hot3 (by omega)).trans (congrArg some hre3))) rfl fun ac hs => ?_
    refine s_q hs (c_move (hs.ev rfl)) rfl fun ac hs => ?_
    refine s_q hs (c_idxS (j := q) un110 ty54 (hs.ev rfl) (hs.ev rfl) (by omega) (show q < 2 ^ (lv - 0) by rw [Nat.sub_zero, ← hW]; exact hqW)) rfl fun ac hs => ?_
    refine s_q hs (c_loadA ty54 rfl (hs.ev rfl) hrg3 ((rowpiece (i := q) hrt3 (by rw [lrows_length]; omega) (show q < 2 ^ (lv - 0) by rw [Nat.sub_zero, ← hW]; exact hqW)).trans (by rw [rows_piece (lNode_length d ep sq r e 0) (show q < 2 ^ (lv - 0) by rw [Nat.sub_zero, ← hW]; exact hqW)])) (by rw [List.length_map]; exact lNode_length _ _ _ _ _ _ _)) rfl fun ac hs => ?_
    refine s_q hs (c_move (hs.ev rfl)) rfl fun ac hs => ?_
    refine s_storeW (i := 2) hs ty54 rfl rfl rfl (by rw [List.length_map]; exact lNode_length _ _ _ _ _ _ _) (all_map_B _) rfl fun ww hs => ?_
    refine s_q hs (c_assign (hs.ev rfl)) rfl fun ac hs => ?_
    refine s_q hs (c_assign (hs.ev rfl)) rfl fun ac hs => ?_
    refine s_end ?_
    replace hs := hs.sub (F' := [(10, _), (11, _), (12, _)]) ⟨rfl, rfl, rfl, trivial⟩
    refine then_n ?_
    refine wp_ret ?_
    refine s_ret hs rfl (.cell (hs.tmp rfl) (run_loadA ty54 rfl (hs.seg (i := 2) rfl) (List.take_of_length_le (show (List.map B (lNode d ep sq r e 0 q)).length ≤ 16 by rw [List.length_map, lNode_length]; exact Nat.le_refl _)) (show (List.map B (lNode d ep sq r e 0 q)).length = 16 by rw [List.length_map, lNode_length])) (.tmp (hs.tmp rfl) (.tmp (hs.tmp rfl) .nil))) rfl ⟨_, rfl, hs.fr, ?_⟩
    exact ⟨_, ⟨_, rfl, rfl⟩, (hs.pick (L' := [_]) (.cons_cons _ (List.nil_sublist _))).made⟩

-- ladder.Show
set_option maxHeartbeats 4000000 in
theorem ladder_ShowBad (d : Int) (ep sq : UInt32) (r x id : Int) (e : List UInt8) (hel : e.length = 16) (hno : ¬ okS r x id = true) (w : World)  : Ctr Try.prog 114 [.agg #[I d, U ep, U sq], I r, .agg (e.map B).toArray, I x, I id] w (fun _ => False) (outE (tup3E (.agg ((List.replicate 16 (0 : UInt8)).map B).toArray) (I 1) (rowS 0 [])) w) := by
  refine fn_start (N := 64) Try.func114 rfl rfl rfl fun ac hk => ?_
  have hs := St.start hk w
  refine wp_seq ?_
  refine wp_reg ?_
  refine s_box hs rfl rfl rfl fun ac ww g5 hs => ?_
  refine s_box hs rfl rfl rfl fun ac ww g7 hs => ?_
  refine s_alloc hs ty54 rfl fun ac ww g10 hs => ?_
  refine s_q hs (c_assign (hs.ev rfl)) rfl fun ac hs => ?_
  refine s_q hs (c_assign (hs.ev rfl)) rfl fun ac hs => ?_
  refine s_end ?_
  replace hs := hs.sub (F' := [(1, _), (3, _), (4, _), (5, _), (7, _), (10, _), (11, _), (12, _)]) ⟨rfl, rfl, rfl, rfl, rfl, rfl, rfl, rfl, trivial⟩
  refine then_n ?_
  refine wp_seq ?_
  refine wp_seq ?_
  refine wp_reg ?_
  refine s_q hs (c_move (hs.ev rfl)) rfl fun ac hs => ?_
  refine s_q hs (c_move (hs.ev rfl)) rfl fun ac hs => ?_
  refine s_call hs fu165 (.cons (hs.ev rfl) (.cons (hs.ev rfl) .nil)) (ladder_right r x _) rfl fun ac ww v19 hf hp hs => ?_
  obtain rfl := hp
  replace hs := hs [] (.nil _ _)
  refine s_q hs (c_not (hs.ev rfl)) rfl fun ac hs => ?_
  refine s_q hs (c_move (hs.ev rfl)) rfl fun ac hs => ?_
  refine s_g hs rfl rfl (fun hg => c_move (hs.ev rfl)) rfl fun ac hs => ?_
  refine s_g hs rfl rfl (fun hg => c_lssI (gev (hs.ev rfl) hg) (hs.ev rfl)) rfl fun ac hs => ?_
  refine s_q hs (c_or (hs.ev rfl) (hs.ev rfl)) rfl fun ac hs => ?_
  refine s_q hs (c_move (hs.ev rfl)) rfl fun ac hs => ?_
  refine s_g hs rfl rfl (fun hg => c_move (hs.ev rfl)) rfl fun ac hs => ?_
  refine s_g hs rfl rfl (fun hg => c_move (hs.ev rfl)) rfl fun ac hs => ?_
  refine s_g hs rfl rfl (fun hg => c_geqI (gev (hs.ev rfl) hg) (gev (hs.ev rfl) hg)) rfl fun ac hs => ?_
  refine s_q hs (c_or (hs.ev rfl) (hs.ev rfl)) rfl fun ac hs => ?_
  refine s_end ?_
  replace hs := hs.sub (F' := [(1, _), (3, _), (4, _), (5, _), (7, _), (10, _), (11, _), (12, _), (29, _)]) ⟨rfl, rfl, rfl, rfl, rfl, rfl, rfl, rfl, rfl, trivial⟩
  refine then_n ?_
  refine s_cond hs rfl (fun hc => ?_) (fun hc => ?_)
  · try simp only [decide_eq_true_eq, decide_eq_false_iff_not, Bool.not_eq_true', Bool.not_eq_false', Bool.and_eq_true, Bool.or_eq_true, Bool.or_eq_false_iff] at hc
    refine wp_seq ?_
    refine wp_reg ?_
    refine s_q hs (c_buildA ty54 un54 ty5 (zc := (List.replicate 16 (0 : UInt8)).map B) (vs := []) .nil (by simp) (by simp [flatCells]) rfl) rfl fun ac hs => ?_
    refine s_storeW (i := 0) hs ty54 rfl rfl rfl (by simp) (all_map_B _) rfl fun ww hs => ?_
    refine s_q hs (c_assign (hs.ev rfl)) rfl fun ac hs => ?_
    refine s_q hs (c_assign (hs.ev rfl)) rfl fun ac hs => ?_
    refine s_end ?_
    replace hs := hs.sub (F' := [(1, _), (3, _), (4, _), (5, _), (7, _), (10, _), (11, _), (12, _)]) ⟨rfl, rfl, rfl, rfl, rfl, rfl, rfl, rfl, trivial⟩
    refine then_n ?_
    refine wp_ret ?_
    refine then_r ?_
    
    refine s_ret hs rfl (.cell (hs.tmp rfl) (run_loadA ty54 rfl (hs.seg (i := 0) rfl) (List.take_of_length_le (by simp)) (by simp)) (.tmp (hs.tmp rfl) (.tmp (hs.tmp rfl) .nil))) rfl ⟨_, rfl, hs.fr, ?_⟩
    exact ⟨_, ⟨_, rfl, rfl⟩, ((hs.nilrow 54 16).pick (L' := [_]) (.cons_cons _ (List.nil_sublist _))).made⟩
  · exact absurd (by simp at hc; simp [okS]; omega) hno

-- fingerpostref06.Show
set_option maxHeartbeats 4000000 in
theorem ref06_ShowBad (d : Int) (ep sq : UInt32) (r x id : Int) (e : List UInt8) (hel : e.length = 16) (hno : ¬ okS r x id = true) (w : World)  : Ctr Try.prog 108 [.agg #[I d, U ep, U sq], I r, .agg (e.map B).toArray, I x, I id] w (fun _ => False) (outE (tup3E (.agg ((List.replicate 16 (0 : UInt8)).map B).toArray) (I 1) (rowS' 0 [])) w) := by
  refine fn_start (N := 72) Try.func108 rfl rfl rfl fun ac hk => ?_
  have hs := St.start hk w
  refine wp_seq ?_
  refine wp_reg ?_
  refine s_box hs rfl rfl rfl fun ac ww g5 hs => ?_
  refine s_box hs rfl rfl rfl fun ac ww g7 hs => ?_
  refine s_alloc hs ty22 rfl fun ac ww g10 hs => ?_
  refine s_q hs (c_assign (hs.ev rfl)) rfl fun ac hs => ?_
  refine s_q hs (c_assign (hs.ev rfl)) rfl fun ac hs => ?_
  refine s_end ?_
  replace hs := hs.sub (F' := [(1, _), (3, _), (4, _), (5, _), (7, _), (10, _), (11, _), (12, _)]) ⟨rfl, rfl, rfl, rfl, rfl, rfl, rfl, rfl, trivial⟩
  refine then_n ?_
  refine wp_seq ?_
  refine wp_seq ?_
  refine wp_reg ?_
  refine s_q hs (c_move (hs.ev rfl)) rfl fun ac hs => ?_
  refine s_q hs (c_move (hs.ev rfl)) rfl fun ac hs => ?_
  refine s_call hs fu107 (.cons (hs.ev rfl) (.cons (hs.ev rfl) .nil)) (ref06_Right r x _) rfl fun ac ww v22 hf hp hs => ?_
  obtain rfl := hp
  replace hs := hs [] (.nil _ _)
  refine s_q hs (c_not (hs.ev rfl)) rfl fun ac hs => ?_
  refine s_q hs (c_move (hs.ev rfl)) rfl fun ac hs => ?_
  refine s_g hs rfl rfl (fun hg => c_move (hs.ev rfl)) rfl fun ac hs => ?_
  refine s_g hs rfl rfl (fun hg => c_lssI (gev (hs.ev rfl) hg) (hs.ev rfl)) rfl fun ac hs => ?_
  refine s_q hs (c_or (hs.ev rfl) (hs.ev rfl)) rfl fun ac hs => ?_
  refine s_q hs (c_move (hs.ev rfl)) rfl fun ac hs => ?_
  refine s_g hs rfl rfl (fun hg => c_move (hs.ev rfl)) rfl fun ac hs => ?_
  refine s_g hs rfl rfl (fun hg => c_move (hs.ev rfl)) rfl fun ac hs => ?_
  refine s_g hs rfl rfl (fun hg => c_geqI (gev (hs.ev rfl) hg) (gev (hs.ev rfl) hg)) rfl fun ac hs => ?_
  refine s_q hs (c_or (hs.ev rfl) (hs.ev rfl)) rfl fun ac hs => ?_
  refine s_end ?_
  replace hs := hs.sub (F' := [(1, _), (3, _), (4, _), (5, _), (7, _), (10, _), (11, _), (12, _), (32, _)]) ⟨rfl, rfl, rfl, rfl, rfl, rfl, rfl, rfl, rfl, trivial⟩
  refine then_n ?_
  refine s_cond hs rfl (fun hc => ?_) (fun hc => ?_)
  · try simp only [decide_eq_true_eq, decide_eq_false_iff_not, Bool.not_eq_true', Bool.not_eq_false', Bool.and_eq_true, Bool.or_eq_true, Bool.or_eq_false_iff] at hc
    refine wp_seq ?_
    refine wp_reg ?_
    refine s_q hs (c_buildA ty22 un22 ty5 (zc := (List.replicate 16 (0 : UInt8)).map B) (vs := []) .nil (by simp) (by simp [flatCells]) rfl) rfl fun ac hs => ?_
    refine s_storeW (i := 0) hs ty22 rfl rfl rfl (by simp) (all_map_B _) rfl fun ww hs => ?_
    refine s_q hs (c_assign (hs.ev rfl)) rfl fun ac hs => ?_
    refine s_q hs (c_assign (hs.ev rfl)) rfl fun ac hs => ?_
    refine s_end ?_
    replace hs := hs.sub (F' := [(1, _), (3, _), (4, _), (5, _), (7, _), (10, _), (11, _), (12, _)]) ⟨rfl, rfl, rfl, rfl, rfl, rfl, rfl, rfl, trivial⟩
    refine then_n ?_
    refine wp_ret ?_
    refine then_r ?_
    
    refine s_ret hs rfl (.cell (hs.tmp rfl) (run_loadA ty22 rfl (hs.seg (i := 0) rfl) (List.take_of_length_le (by simp)) (by simp)) (.tmp (hs.tmp rfl) (.tmp (hs.tmp rfl) .nil))) rfl ⟨_, rfl, hs.fr, ?_⟩
    exact ⟨_, ⟨_, rfl, rfl⟩, ((hs.nilrow 22 16).pick (L' := [_]) (.cons_cons _ (List.nil_sublist _))).made⟩
  · exact absurd (by simp at hc; simp [okS]; omega) hno

-- ladder.Rise
set_option maxHeartbeats 4000000 in
theorem ladder_RiseBad (d : Int) (ep sq : UInt32) (r x id : Int) (l : List UInt8) (hll : l.length = 16) (wv : Value) (hno : ¬ okS r x id = true) (w : World)  : Ctr Try.prog 109 [.agg #[I d, U ep, U sq], I r, I x, I id, .agg (l.map B).toArray, wv] w (fun _ => False) (fun v _ => v = .tuple #[(.agg ((List.replicate 16 (0 : UInt8)).map B).toArray), I 1]) := by
  refine fn_start (N := 61) Try.func109 rfl rfl rfl fun ac hk => ?_
  have hs := St.start hk w
  refine wp_seq ?_
  refine wp_reg ?_
  refine s_box hs rfl rfl rfl fun ac ww g6 hs => ?_
  refine s_box hs rfl rfl rfl fun ac ww g10 hs => ?_
  refine s_alloc hs ty54 rfl fun ac ww g12 hs => ?_
  refine s_q hs (c_assign (hs.ev rfl)) rfl fun ac hs => ?_
  refine s_end ?_
  replace hs := hs.sub (F' := [(1, _), (2, _), (3, _), (5, _), (6, _), (10, _), (12, _), (13, _)]) ⟨rfl, rfl, rfl, rfl, rfl, rfl, rfl, rfl, trivial⟩
  refine then_n ?_
  refine wp_seq ?_
  refine wp_block ?_
  refine wp_seq ?_
  refine wp_reg ?_
  refine s_q hs (c_move (hs.ev rfl)) rfl fun ac hs => ?_
  refine s_q hs (c_move (hs.ev rfl)) rfl fun ac hs => ?_
  refine s_call hs fu165 (.cons (hs.ev rfl) (.cons (hs.ev rfl) .nil)) (ladder_right r x _) rfl fun ac ww v19 hf hp hs => ?_
  obtain rfl := hp
  replace hs := hs [] (.nil _ _)
  refine s_q hs (c_not (hs.ev rfl)) rfl fun ac hs => ?_
  refine s_q hs (c_move (hs.ev rfl)) rfl fun ac hs => ?_
  refine s_g hs rfl rfl (fun hg => c_move (hs.ev rfl)) rfl fun ac hs => ?_
  refine s_g hs rfl rfl (fun hg => c_lssI (gev (hs.ev rfl) hg) (hs.ev rfl)) rfl fun ac hs => ?_
  refine s_q hs (c_or (hs.ev rfl) (hs.ev rfl)) rfl fun ac hs => ?_
  refine s_q hs (c_move (hs.ev rfl)) rfl fun ac hs => ?_
  refine s_g hs rfl rfl (fun hg => c_move (hs.ev rfl)) rfl fun ac hs => ?_
  refine s_g hs rfl rfl (fun hg => c_move (hs.ev rfl)) rfl fun ac hs => ?_
  refine s_g hs rfl rfl (fun hg => c_geqI (gev (hs.ev rfl) hg) (gev (hs.ev rfl) hg)) rfl fun ac hs => ?_
  refine s_q hs (c_or (hs.ev rfl) (hs.ev rfl)) rfl fun ac hs => ?_
  refine s_q hs (c_assign (hs.ev rfl)) rfl fun ac hs => ?_
  refine s_end ?_
  replace hs := hs.sub (F' := [(1, _), (2, _), (3, _), (5, _), (6, _), (10, _), (12, _), (13, _), (16, _)]) ⟨rfl, rfl, rfl, rfl, rfl, rfl, rfl, rfl, rfl, trivial⟩
  refine then_n ?_
  refine s_cond hs rfl (fun hc => ?_) (fun hc => ?_)
  · try simp only [decide_eq_true_eq, decide_eq_false_iff_not, Bool.not_eq_true', Bool.not_eq_false', Bool.and_eq_true, Bool.or_eq_true, Bool.or_eq_false_iff] at hc
    refine wp_seq ?_
    refine wp_reg ?_
    refine s_q hs (c_buildA ty54 un54 ty5 (zc := (List.replicate 16 (0 : UInt8)).map B) (vs := []) .nil (by simp) (by simp [flatCells]) rfl) rfl fun ac hs => ?_
    refine s_storeW (i := 0) hs ty54 rfl rfl rfl (by simp) (all_map_B _) rfl fun ww hs => ?_
    refine s_q hs (c_assign (hs.ev rfl)) rfl fun ac hs => ?_
    refine s_end ?_
    replace hs := hs.sub (F' := [(1, _), (2, _), (3, _), (5, _), (6, _), (10, _), (12, _), (13, _)]) ⟨rfl, rfl, rfl, rfl, rfl, rfl, rfl, rfl, trivial⟩
    refine then_n ?_
    refine wp_ret ?_
    refine blk_r ?_
    refine then_r ?_
    
    refine s_ret hs rfl (.cell (hs.tmp rfl) (run_loadA ty54 rfl (hs.seg (i := 0) rfl) (List.take_of_length_le (by simp)) (by simp)) (.tmp (hs.tmp rfl) .nil)) rfl ⟨_, rfl, hs.fr, ?_⟩
    rfl
  · exact absurd (by simp at hc; simp [okS]; omega) hno

-- fingerpostref06.Rise
set_option maxHeartbeats 4000000 in
theorem ref06_RiseBad (d : Int) (ep sq : UInt32) (r x id : Int) (l : List UInt8) (hll : l.length = 16) (wv : Value) (hno : ¬ okS r x id = true) (w : World)  : Ctr Try.prog 110 [.agg #[I d, U ep, U sq], I r, I x, I id, .agg (l.map B).toArray, wv] w (fun _ => False) (outE (tup3E (.agg ((List.replicate 16 (0 : UInt8)).map B).toArray) (I 1) (textsE 34 5 [])) w) := by
  refine fn_start (N := 73) Try.func110 rfl rfl rfl fun ac hk => ?_
  have hs := St.start hk w
  refine wp_seq ?_
  refine wp_reg ?_
  refine s_box hs rfl rfl rfl fun ac ww g6 hs => ?_
  refine s_box hs rfl rfl rfl fun ac ww g10 hs => ?_
  refine s_alloc hs ty22 rfl fun ac ww g12 hs => ?_
  refine s_q hs (c_assign (hs.ev rfl)) rfl fun ac hs => ?_
  refine s_q hs (c_assign (hs.ev rfl)) rfl fun ac hs => ?_
  refine s_end ?_
  replace hs := hs.sub (F' := [(1, _), (2, _), (3, _), (5, _), (6, _), (10, _), (12, _), (13, _), (14, _)]) ⟨rfl, rfl, rfl, rfl, rfl, rfl, rfl, rfl, rfl, trivial⟩
  refine then_n ?_
  refine wp_seq ?_
  refine wp_seq ?_
  refine wp_reg ?_
  refine s_q hs (c_move (hs.ev rfl)) rfl fun ac hs => ?_
  refine s_q hs (c_move (hs.ev rfl)) rfl fun ac hs => ?_
  refine s_call hs fu107 (.cons (hs.ev rfl) (.cons (hs.ev rfl) .nil)) (ref06_Right r x _) rfl fun ac ww v20 hf hp hs => ?_
  obtain rfl := hp
  replace hs := hs [] (.nil _ _)
  refine s_q hs (c_not (hs.ev rfl)) rfl fun ac hs => ?_
  refine s_q hs (c_move (hs.ev rfl)) rfl fun ac hs => ?_
  refine s_g hs rfl rfl (fun hg => c_move (hs.ev rfl)) rfl fun ac hs => ?_
  refine s_g hs rfl rfl (fun hg => c_lssI (gev (hs.ev rfl) hg) (hs.ev rfl)) rfl fun ac hs => ?_
  refine s_q hs (c_or (hs.ev rfl) (hs.ev rfl)) rfl fun ac hs => ?_
  refine s_q hs (c_move (hs.ev rfl)) rfl fun ac hs => ?_
  refine s_g hs rfl rfl (fun hg => c_move (hs.ev rfl)) rfl fun ac hs => ?_
  refine s_g hs rfl rfl (fun hg => c_move (hs.ev rfl)) rfl fun ac hs => ?_
  refine s_g hs rfl rfl (fun hg => c_geqI (gev (hs.ev rfl) hg) (gev (hs.ev rfl) hg)) rfl fun ac hs => ?_
  refine s_q hs (c_or (hs.ev rfl) (hs.ev rfl)) rfl fun ac hs => ?_
  refine s_end ?_
  replace hs := hs.sub (F' := [(1, _), (2, _), (3, _), (5, _), (6, _), (10, _), (12, _), (13, _), (14, _), (30, _)]) ⟨rfl, rfl, rfl, rfl, rfl, rfl, rfl, rfl, rfl, rfl, trivial⟩
  refine then_n ?_
  refine s_cond hs rfl (fun hc => ?_) (fun hc => ?_)
  · try simp only [decide_eq_true_eq, decide_eq_false_iff_not, Bool.not_eq_true', Bool.not_eq_false', Bool.and_eq_true, Bool.or_eq_true, Bool.or_eq_false_iff] at hc
    refine wp_seq ?_
    refine wp_reg ?_
    refine s_q hs (c_buildA ty22 un22 ty5 (zc := (List.replicate 16 (0 : UInt8)).map B) (vs := []) .nil (by simp) (by simp [flatCells]) rfl) rfl fun ac hs => ?_
    refine s_storeW (i := 0) hs ty22 rfl rfl rfl (by simp) (all_map_B _) rfl fun ww hs => ?_
    refine s_q hs (c_assign (hs.ev rfl)) rfl fun ac hs => ?_
    refine s_q hs (c_assign (hs.ev rfl)) rfl fun ac hs => ?_
    refine s_end ?_
    replace hs := hs.sub (F' := [(1, _), (2, _), (3, _), (5, _), (6, _), (10, _), (12, _), (13, _), (14, _)]) ⟨rfl, rfl, rfl, rfl, rfl, rfl, rfl, rfl, rfl, trivial⟩
    refine then_n ?_
    refine wp_ret ?_
    refine then_r ?_
    
    refine s_ret hs rfl (.cell (hs.tmp rfl) (run_loadA ty22 rfl (hs.seg (i := 0) rfl) (List.take_of_length_le (by simp)) (by simp)) (.tmp (hs.tmp rfl) (.tmp (hs.tmp rfl) .nil))) rfl ⟨_, rfl, hs.fr, ?_⟩
    exact ⟨_, ⟨_, rfl, [], rfl, rfl⟩, ((hs.texts0 34 (Ent.part 5)).pick (L' := [_]) (.cons_cons _ (List.nil_sublist _))).made⟩
  · exact absurd (by simp at hc; simp [okS]; omega) hno

end Go.Proofs.Ytmgnnclkjkbmdaa
end

/- Laws of ladders: what is shown rises. -/
section
set_option linter.unusedSimpArgs false
set_option linter.unusedVariables false
set_option maxRecDepth 100000
namespace Go.Proofs.Ytmgnnclkjkbmdaa
open Go Go.Fw

open Sha

theorem ladder_ShowA (d : Int) (ep sq : UInt32) (r : Int) (e : List UInt8) (x id : Int) (hel : e.length = 16) (w : World)  : Ctr Try.prog 114 [.agg #[I d, U ep, U sq], I r, .agg (e.map B).toArray, I x, I id] w (fun _ => False) (outE (tup3E (.agg ((shL d ep sq r e x id).map B).toArray) (I (shE r x id)) (rowS (shN r x id) (shW d ep sq r e x id))) w) := by
  by_cases h : okS r x id = true
  · obtain ⟨lv, W, q, h1, h2, rfl, h4, rfl, h6, h7⟩ := okS_spec h
    have h8 := ladder_Show d ep sq r e W lv q hel h7 h2 h1 h4 h6 w
    simp only [shL, shE, shN, shW, if_pos h, h4, Int.toNat_natCast]
    exact h8
  · have h8 := ladder_ShowBad d ep sq r x id e hel h w
    simp only [shL, shE, shN, shW, if_neg h]
    exact h8

theorem ref06_ShowA (d : Int) (ep sq : UInt32) (r : Int) (e : List UInt8) (x id : Int) (hel : e.length = 16) (w : World)  : Ctr Try.prog 108 [.agg #[I d, U ep, U sq], I r, .agg (e.map B).toArray, I x, I id] w (fun _ => False) (outE (tup3E (.agg ((shL d ep sq r e x id).map B).toArray) (I (shE r x id)) (rowS' (shN r x id) (shW d ep sq r e x id))) w) := by
  by_cases h : okS r x id = true
  · obtain ⟨lv, W, q, h1, h2, rfl, h4, rfl, h6, h7⟩ := okS_spec h
    have h8 := ref06_Show d ep sq r e W lv q hel h7 h2 h1 h4 h6 w
    simp only [shL, shE, shN, shW, if_pos h, h4, Int.toNat_natCast]
    exact h8
  · have h8 := ref06_ShowBad d ep sq r x id e hel h w
    simp only [shL, shE, shN, shW, if_neg h]
    exact h8

theorem ladder_RiseA (d : Int) (ep sq : UInt32) (r x id : Int) (l ws : List UInt8) (n : Nat) (wv : Value) (hll : l.length = 16) (hwl : ws.length = n * 16) (w : World) (hqw : Rd w wv n (ws.map B)) : Ctr Try.prog 109 [.agg #[I d, U ep, U sq], I r, I x, I id, .agg (l.map B).toArray, wv] w (fun _ => False) (fun v _ => v = .tuple #[.agg ((rsB d ep sq r x id l ws n).map B).toArray, I (rsE r x id n)]) := by
  by_cases h : okS r x id = true
  · obtain ⟨lv, W, q, h1, h2, rfl, h4, rfl, h6, h7⟩ := okS_spec h
    have h8 := ladder_Rise d ep sq r W lv q n l ws wv h7 h2 h1 h4 h6 hll hwl w hqw
    simp only [rsB, rsE, if_pos h, h4, Int.toNat_natCast]
    exact h8
  · have h8 := ladder_RiseBad d ep sq r x id l hll wv h w
    simp only [rsB, rsE, if_neg h]
    exact h8

theorem ref06_RiseA (d : Int) (ep sq : UInt32) (r x id : Int) (l ws : List UInt8) (n : Nat) (wv : Value) (hll : l.length = 16) (hwl : ws.length = n * 16) (hn6 : n ≤ 1000000) (w : World) (hqw : Rd w wv n (ws.map B)) : Ctr Try.prog 110 [.agg #[I d, U ep, U sq], I r, I x, I id, .agg (l.map B).toArray, wv] w (fun _ => False) (outE (tup3E (.agg ((rsB d ep sq r x id l ws n).map B).toArray) (I (rsE r x id n)) (textsE 34 5 (rsX d ep sq r x id l ws n))) w) := by
  by_cases h : okS r x id = true
  · obtain ⟨lv, W, q, h1, h2, rfl, h4, rfl, h6, h7⟩ := okS_spec h
    have h8 := ref06_Rise d ep sq r W lv q n l ws wv h7 h2 h1 h4 h6 hll hwl hn6 w hqw
    simp only [rsB, rsE, rsX, if_pos h, h4, Int.toNat_natCast]
    exact h8
  · have h8 := ref06_RiseBad d ep sq r x id l hll wv h w
    simp only [rsB, rsE, rsX, if_neg h]
    exact h8

-- fingerpostlaw06.LadderMeets
set_option maxHeartbeats 4000000 in
theorem law_LadderMeets (d : Int) (ep sq : UInt32) (r x id : Int) (e : List UInt8) (hel : e.length = 16) (w : World)  : Ctr Try.prog 25 [.agg #[I d, U ep, U sq], I r, I x, I id, .agg (e.map B).toArray] w (fun _ => False) (fun v _ => v = .bool true) := by
  refine fn_start (N := 76) Try.func25 rfl rfl rfl fun ac hk => ?_
  have hs := St.start hk w
  refine wp_seq ?_
  refine wp_reg ?_
  refine s_box hs rfl rfl rfl fun ac ww g5 hs => ?_
  refine s_box hs rfl rfl rfl fun ac ww g9 hs => ?_
  refine s_q hs (c_assign (hs.ev rfl)) rfl fun ac hs => ?_
  refine s_end ?_
  replace hs := hs.sub (F' := [(1, _), (2, _), (3, _), (5, _), (9, _), (10, _)]) ⟨rfl, rfl, rfl, rfl, rfl, rfl, trivial⟩
  refine then_n ?_
  refine wp_seq ?_
  refine wp_region_rgX (J := [9, 10]) pmix 12 (by kernel_rfl) (by kernel_rfl) rfl rfl hs ?_
  simp only [List.take_succ_cons, List.take_zero]
  refine rg_q (fun ac ww h => c_loadW ty81 ag81 (h.ev rfl) (h.blk (hs.seg (i := 1) rfl)) (by rfl)) rfl ?_
  refine rg_call fu68 (fun ac ww h => (.cons (h.ev rfl) .nil)) (fun ww hf => law06_To d ep sq ww) rfl ?_
  refine rg_q (fun ac ww h => c_move (h.ev rfl)) rfl ?_
  refine rg_q (fun ac ww h => c_loadW ty22 rfl (h.ev rfl) (h.blk (hs.seg (i := 0) rfl)) (by rw [List.length_map, hel])) rfl ?_
  refine rg_q (fun ac ww h => c_move (h.ev rfl)) rfl ?_
  refine rg_q (fun ac ww h => c_move (h.ev rfl)) rfl ?_
  refine rg_callE (tupG [.agg ((shL d ep sq r e x id).map B).toArray] [I (shE r x id)] (rowS (shN r x id) (shW d ep sq r e x id))) (fun _ _ _ _ _ h => h) fu114 (fun ac ww h => ?_) rfl ?_
  · exact ⟨_, .cons (h.ev rfl) (.cons (h.ev rfl) (.cons (h.ev rfl) (.cons (h.ev rfl) (.cons (h.ev rfl) (.nil))))), ladder_ShowA d ep sq r e x id hel _⟩
  refine rg_moveG rfl rfl rfl ?_
  refine rg_extGc rfl rfl rfl (fun _ => rfl) ?_
  refine rg_extGe rfl rfl rfl rfl ?_
  refine rg_extGc rfl rfl rfl (fun _ => rfl) ?_
  refine rg_alloc ty54 rfl ?_
  refine rg_nil fun ac ww L' hf hfe hs hlk => ?_
  simp only [List.drop_succ_cons, List.drop_zero]
  obtain ⟨v11, L11, M11, h11, e11, ⟨v27, L27, M27, h27, e27, ⟨v18, L18, M18, h18, e18, ⟨v25, L25, M25, h25, e25, rfl, rfl⟩, rfl⟩, rfl⟩, rfl⟩ := hfe
  replace hs := hs.add h11
  replace hs := hs.add h27
  replace hs := hs.add h18
  replace hs := hs.add h25
  obtain ⟨g11, rfl, rfl⟩ := e11
  obtain ⟨tv25, rfl, e25⟩ := e25
  obtain ⟨-, rfl⟩ := e18
  obtain rfl := lk_move (j := 7) hlk (by decide) rfl (by kernel_rfl) h18 h25
  obtain ⟨-, rfl⟩ := e27
  obtain rfl := lk_ext (j := 9) hlk (by decide) rfl (by kernel_rfl) h27 h18 rfl
  obtain rfl := e25
  refine sk_storeW (i := 0) hs ty54 rfl rfl rfl (by rw [List.length_map, shL_length]) (all_map_B _) rfl fun ww hs => ?_
  refine s_q hs (c_assign (hs.ev rfl)) rfl fun ac hs => ?_
  refine s_q hs (c_assign (hs.ev rfl)) rfl fun ac hs => ?_
  refine s_end ?_
  have hq2 := Rd.of_row (hs.get (i := 1) rfl)
  obtain ⟨wad, wcap, rfl, hwc, hwm⟩ := Rd.sl hq2
  replace hs := hs.sub (F' := [(1, _), (2, _), (3, _), (5, _), (9, _), (10, _), (11, _), (12, _), (13, _)]) ⟨rfl, rfl, rfl, rfl, rfl, rfl, rfl, rfl, rfl, trivial⟩
  refine then_n ?_
  refine wp_seq ?_
  refine wp_seq ?_
  refine wp_reg ?_
  refine s_q hs (c_move (hs.ev rfl)) rfl fun ac hs => ?_
  refine s_q hs (c_neqI (hs.ev rfl) (hs.ev rfl)) rfl fun ac hs => ?_
  refine s_end ?_
  replace hs := hs.sub (F' := [(1, _), (2, _), (3, _), (5, _), (9, _), (10, _), (11, _), (12, _), (30, _)]) ⟨rfl, rfl, rfl, rfl, rfl, rfl, rfl, rfl, rfl, trivial⟩
  refine then_n ?_
  refine s_cond hs rfl (fun hc => ?_) (fun hc => ?_)
  · try simp only [decide_eq_true_eq, decide_eq_false_iff_not, Bool.not_eq_true', Bool.not_eq_false', Bool.and_eq_true, Bool.or_eq_true, Bool.or_eq_false_iff] at hc
    have hno : ¬ okS r x id = true := fun h => hc (if_pos h)
    refine wp_seq ?_
    refine wp_reg ?_
    refine s_call hs fu70 .nil (law06_awake _) rfl fun ac ww v31 hf hp hs => ?_
    obtain rfl := hp
    replace hs := hs [] (.nil _ _)
    refine s_q hs (c_move (hs.ev rfl)) rfl fun ac hs => ?_
    refine s_yes hs rfl rfl ?_
    refine s_q hs (c_move (hs.ev rfl)) rfl fun ac hs => ?_
    refine s_yes hs rfl rfl ?_
    refine s_q hs (c_lenS un110 (hs.ev rfl)) rfl fun ac hs => ?_
    refine s_yes hs rfl rfl ?_
    refine s_q hs (c_tt (c_eqlI (hs.ev rfl) (hs.ev rfl)) (by rw [shN, if_neg hno]; rfl)) rfl fun ac hs => ?_
    refine s_q hs (c_pick (hs.ev rfl) (hs.ev rfl) (hs.ev rfl)) rfl fun ac hs => ?_
    refine s_q hs (c_move (hs.ev rfl)) rfl fun ac hs => ?_
    refine s_yes hs rfl rfl ?_
    refine s_q hs (c_loadW ty54 rfl (hs.ev rfl) (hs.seg (i := 0) rfl) (by rw [List.length_map, shL_length])) rfl fun ac hs => ?_
    refine s_yes hs rfl rfl ?_
    refine s_q hs (c_buildA ty54 un54 ty5 (zc := (List.replicate 16 (0 : UInt8)).map B) (vs := []) .nil (by simp) (by simp [flatCells]) rfl) rfl fun ac hs => ?_
    refine s_yes hs rfl rfl ?_
    refine s_q hs (c_tt (c_eqlAB un54 ty5 eg54 (hs.ev rfl) (hs.ev rfl) (shL_length _ _ _ _ _ _ _) (by simp)) (by rw [shL, if_neg hno]; simp)) rfl fun ac hs => ?_
    refine s_q hs (c_pick (hs.ev rfl) (hs.ev rfl) (hs.ev rfl)) rfl fun ac hs => ?_
    refine s_q hs (c_assign (hs.ev rfl)) rfl fun ac hs => ?_
    refine s_end ?_
    replace hs := hs.sub (F' := [(1, _), (2, _), (3, _), (5, _), (9, _), (10, _), (11, _), (12, _)]) ⟨rfl, rfl, rfl, rfl, rfl, rfl, rfl, rfl, trivial⟩
    refine then_n ?_
    refine wp_ret ?_
    refine then_r ?_
    refine s_ret hs rfl (.tmp (hs.tmp rfl) .nil) rfl ⟨_, rfl, hs.fr, ?_⟩
    rfl
  · try simp only [decide_eq_true_eq, decide_eq_false_iff_not, Bool.not_eq_true', Bool.not_eq_false', Bool.and_eq_true, Bool.or_eq_true, Bool.or_eq_false_iff] at hc
    have hyes : okS r x id = true := Classical.byContradiction fun h => by rw [shE, if_neg h] at hc; exact absurd hc (by decide)
    have hm := meets (d := d) (ep := ep) (sq := sq) (e := e) hyes
    refine wp_skip ?_
    refine then_n ?_
    refine wp_seq ?_
    refine wp_region_rgX (J := [10]) pmix 12 (by kernel_rfl) (by kernel_rfl) rfl rfl hs ?_
    simp only [List.take_succ_cons, List.take_zero]
    refine rg_q (fun ac ww h => c_loadW ty81 ag81 (h.ev rfl) (h.blk (hs.seg (i := 3) rfl)) (by rfl)) rfl ?_
    refine rg_call fu68 (fun ac ww h => (.cons (h.ev rfl) .nil)) (fun ww hf => law06_To d ep sq ww) rfl ?_
    refine rg_q (fun ac ww h => c_move (h.ev rfl)) rfl ?_
    refine rg_q (fun ac ww h => c_move (h.ev rfl)) rfl ?_
    refine rg_q (fun ac ww h => c_move (h.ev rfl)) rfl ?_
    refine rg_q (fun ac ww h => c_loadW ty54 rfl (h.ev rfl) (h.blk (hs.seg (i := 0) rfl)) (by rw [List.length_map, shL_length])) rfl ?_
    refine rg_q (fun ac ww h => c_move (h.ev rfl)) rfl ?_
    refine rg_call fu109 (fun ac ww h => (.cons (h.ev rfl) (.cons (h.ev rfl) (.cons (h.ev rfl) (.cons (h.ev rfl) (.cons (h.ev rfl) (.cons (h.ev rfl) .nil))))))) (fun ww hf => ladder_RiseA d ep sq r x id (shL d ep sq r e x id) (shW d ep sq r e x id) (shN r x id) _ (shL_length _ _ _ _ _ _ _) (shW_length _ _ _ _ _ _ _) ww (hq2.fr0 hf)) rfl ?_
    refine rg_q (fun ac ww h => c_move (h.ev rfl)) rfl ?_
    refine rg_q (fun ac ww h => c_extract (h.ev rfl) rfl) rfl ?_
    refine rg_q (fun ac ww h => c_extract (h.ev rfl) rfl) rfl ?_
    refine rg_alloc ty54 rfl ?_
    refine rg_nil fun ac ww L' hf hfe hs hlk => ?_
    simp only [List.drop_succ_cons, List.drop_zero]
    obtain ⟨v14, L14, M14, h14, e14, rfl, rfl⟩ := hfe
    replace hs := hs.add h14
    obtain ⟨g14, rfl, rfl⟩ := e14
    refine sk_storeW (i := 0) hs ty54 rfl rfl rfl (by rw [List.length_map, rsB_length (shL_length _ _ _ _ _ _ _)]) (all_map_B _) rfl fun ww hs => ?_
    refine s_q hs (c_assign (hs.ev rfl)) rfl fun ac hs => ?_
    refine s_end ?_
    replace hs := hs.sub (F' := [(1, _), (2, _), (5, _), (9, _), (10, _), (14, _), (15, _)]) ⟨rfl, rfl, rfl, rfl, rfl, rfl, rfl, trivial⟩
    refine then_n ?_
    refine wp_seq ?_
    refine wp_region_rgX (J := [8]) pmix 10 (by kernel_rfl) (by kernel_rfl) rfl rfl hs ?_
    simp only [List.take_succ_cons, List.take_zero]
    refine rg_q (fun ac ww h => c_loadW ty81 ag81 (h.ev rfl) (h.blk (hs.seg (i := 4) rfl)) (by rfl)) rfl ?_
    refine rg_call fu68 (fun ac ww h => (.cons (h.ev rfl) .nil)) (fun ww hf => law06_To d ep sq ww) rfl ?_
    refine rg_q (fun ac ww h => c_move (h.ev rfl)) rfl ?_
    refine rg_q (fun ac ww h => c_loadW ty22 rfl (h.ev rfl) (h.blk (hs.seg (i := 3) rfl)) (by rw [List.length_map, hel])) rfl ?_
    refine rg_q (fun ac ww h => c_move (h.ev rfl)) rfl ?_
    refine rg_call fu67 (fun ac ww h => (.cons (h.ev rfl) (.cons (h.ev rfl) (.cons (h.ev rfl) (.cons (h.ev rfl) .nil))))) (fun ww hf => ladder_Up d ep sq r e x hel ww) rfl ?_
    refine rg_q (fun ac ww h => c_move (h.ev rfl)) rfl ?_
    refine rg_q (fun ac ww h => c_extract (h.ev rfl) rfl) rfl ?_
    refine rg_q (fun ac ww h => c_extract (h.ev rfl) rfl) rfl ?_
    refine rg_alloc ty54 rfl ?_
    refine rg_nil fun ac ww L' hf hfe hs hlk => ?_
    simp only [List.drop_succ_cons, List.drop_zero]
    obtain ⟨v16, L16, M16, h16, e16, rfl, rfl⟩ := hfe
    replace hs := hs.add h16
    obtain ⟨g16, rfl, rfl⟩ := e16
    refine sk_storeW (i := 0) hs ty54 rfl rfl rfl (by rw [List.length_map, upB_length]) (all_map_B _) rfl fun ww hs => ?_
    refine s_q hs (c_assign (hs.ev rfl)) rfl fun ac hs => ?_
    refine s_end ?_
    replace hs := hs.sub (F' := [(10, _), (14, _), (15, _), (16, _), (17, _)]) ⟨rfl, rfl, rfl, rfl, rfl, trivial⟩
    refine then_n ?_
    refine wp_seq ?_
    refine wp_reg ?_
    refine s_call hs fu70 .nil (law06_awake _) rfl fun ac ww v62 hf hp hs => ?_
    obtain rfl := hp
    replace hs := hs [] (.nil _ _)
    refine s_q hs (c_move (hs.ev rfl)) rfl fun ac hs => ?_
    refine s_yes hs rfl rfl ?_
    refine s_q hs (c_move (hs.ev rfl)) rfl fun ac hs => ?_
    refine s_yes hs rfl rfl ?_
    refine s_q hs (c_tt (c_eqlI (hs.ev rfl) (hs.ev rfl)) (by rw [hm.2.1]; rfl)) rfl fun ac hs => ?_
    refine s_q hs (c_pick (hs.ev rfl) (hs.ev rfl) (hs.ev rfl)) rfl fun ac hs => ?_
    refine s_q hs (c_move (hs.ev rfl)) rfl fun ac hs => ?_
    refine s_yes hs rfl rfl ?_
    refine s_q hs (c_move (hs.ev rfl)) rfl fun ac hs => ?_
    refine s_yes hs rfl rfl ?_
    refine s_q hs (c_tt (c_eqlI (hs.ev rfl) (hs.ev rfl)) (by rw [hm.2.2]; rfl)) rfl fun ac hs => ?_
    refine s_q hs (c_pick (hs.ev rfl) (hs.ev rfl) (hs.ev rfl)) rfl fun ac hs => ?_
    refine s_q hs (c_move (hs.ev rfl)) rfl fun ac hs => ?_
    refine s_yes hs rfl rfl ?_
    refine s_q hs (c_loadW ty54 rfl (hs.ev rfl) (hs.seg (i := 1) rfl) (by rw [List.length_map, rsB_length (shL_length _ _ _ _ _ _ _)])) rfl fun ac hs => ?_
    refine s_yes hs rfl rfl ?_
    refine s_q hs (c_loadW ty54 rfl (hs.ev rfl) (hs.seg (i := 0) rfl) (by rw [List.length_map, upB_length])) rfl fun ac hs => ?_
    refine s_yes hs rfl rfl ?_
    refine s_q hs (c_tt (c_eqlAB un54 ty5 eg54 (hs.ev rfl) (hs.ev rfl) (rsB_length (shL_length _ _ _ _ _ _ _) _) (upB_length _ _ _ _ _ _)) (by rw [hm.1]; simp)) rfl fun ac hs => ?_
    refine s_q hs (c_pick (hs.ev rfl) (hs.ev rfl) (hs.ev rfl)) rfl fun ac hs => ?_
    refine s_q hs (c_assign (hs.ev rfl)) rfl fun ac hs => ?_
    refine s_end ?_
    replace hs := hs.sub (F' := [(10, _)]) ⟨rfl, trivial⟩
    refine then_n ?_
    refine wp_ret ?_
    refine s_ret hs rfl (.tmp (hs.tmp rfl) .nil) rfl ⟨_, rfl, hs.fr, ?_⟩
    rfl

end Go.Proofs.Ytmgnnclkjkbmdaa
end

/- The law of what is shown and what rises. -/
section
set_option linter.unusedSimpArgs false
set_option linter.unusedVariables false
set_option maxRecDepth 100000
namespace Go.Proofs.Ytmgnnclkjkbmdaa
open Go Go.Fw

open Sha
-- fingerpostlaw06.LadderShows
set_option maxHeartbeats 4000000 in
theorem law_LadderShows (d : Int) (ep sq : UInt32) (r x id : Int) (e l : List UInt8) (n : Nat) (ws : List UInt8) (wv : Value) (hel : e.length = 16) (hll : l.length = 16) (hwl : ws.length = n * 16) (w : World) (hqw : Rd w wv n (ws.map B)) : Ctr Try.prog 24 [.agg #[I d, U ep, U sq], I r, I x, I id, .agg (e.map B).toArray, .agg (l.map B).toArray, wv] w (fun _ => False) (fun v _ => v = .bool true) := by
  have hnl := hqw.le
  obtain ⟨wad, wcap, rfl, hwc, hwm⟩ := Rd.sl hqw
  refine fn_start (N := 102) Try.func24 rfl rfl rfl fun ac hk => ?_
  have hs := St.start hk w
  refine wp_seq ?_
  refine wp_reg ?_
  refine s_box hs rfl rfl rfl fun ac ww g7 hs => ?_
  refine s_box hs rfl rfl rfl fun ac ww g11 hs => ?_
  refine s_box hs rfl rfl rfl fun ac ww g12 hs => ?_
  refine s_q hs (c_assign (hs.ev rfl)) rfl fun ac hs => ?_
  refine s_end ?_
  replace hs := hs.sub (F' := [(1, _), (2, _), (3, _), (6, _), (7, _), (11, _), (12, _), (14, _)]) ⟨rfl, rfl, rfl, rfl, rfl, rfl, rfl, rfl, trivial⟩
  refine then_n ?_
  refine wp_seq ?_
  refine wp_seq ?_
  refine wp_reg ?_
  refine s_q hs (c_move (hs.ev rfl)) rfl fun ac hs => ?_
  refine s_q hs (c_lenS un109 (hs.ev rfl)) rfl fun ac hs => ?_
  refine s_q hs (c_gtrI (hs.ev rfl) (hs.ev rfl)) rfl fun ac hs => ?_
  refine s_end ?_
  replace hs := hs.sub (F' := [(1, _), (2, _), (3, _), (6, _), (7, _), (11, _), (12, _), (14, _), (28, _)]) ⟨rfl, rfl, rfl, rfl, rfl, rfl, rfl, rfl, rfl, trivial⟩
  refine then_n ?_
  refine s_cond hs rfl (fun hc => ?_) (fun hc => ?_)
  · try simp only [decide_eq_true_eq, decide_eq_false_iff_not, Bool.not_eq_true', Bool.not_eq_false', Bool.and_eq_true, Bool.or_eq_true, Bool.or_eq_false_iff] at hc
    obtain ⟨n1, ws1, hn1, hn1l, hwl1, hq1⟩ : ∃ (n1 : Nat) (ws1 : List UInt8), n1 = 20 ∧ n1 ≤ 1000000 ∧ ws1.length = n1 * 16 ∧ Rd w (.slice wad 20 wcap) n1 (ws1.map B) := ⟨20, ws.take (16 * 20), rfl, by decide, by rw [List.length_take]; omega, Rd.head hqw hwl (by omega) (by decide)⟩
    refine wp_reg ?_
    refine s_q hs (c_move (hs.ev rfl)) rfl fun ac hs => ?_
    refine s_q hs (c_to (c_sliceH (j := 20) un109 ty22 (hs.ev rfl) (hs.ev rfl) rfl (by omega)) ((show Value.slice _ 20 wcap = Value.slice wad 20 wcap from by rw [if_neg (by omega)]; cases wad <;> simp [Addr.add]))) rfl fun ac hs => ?_
    refine s_q hs (c_assign (hs.ev rfl)) rfl fun ac hs => ?_
    refine s_end ?_
    replace hs := hs.sub (F' := [(1, _), (2, _), (3, _), (6, _), (7, _), (11, _), (12, _), (14, _)]) ⟨rfl, rfl, rfl, rfl, rfl, rfl, rfl, rfl, trivial⟩
    refine then_n ?_
    refine wp_seq ?_
    refine wp_region_rgX (J := [9, 10]) pmix 12 (by kernel_rfl) (by kernel_rfl) rfl rfl hs ?_
    simp only [List.take_succ_cons, List.take_zero]
    refine rg_q (fun ac ww h => c_loadW ty81 ag81 (h.ev rfl) (h.blk (hs.seg (i := 2) rfl)) (by rfl)) rfl ?_
    refine rg_call fu68 (fun ac ww h => (.cons (h.ev rfl) .nil)) (fun ww hf => law06_To d ep sq ww) rfl ?_
    refine rg_q (fun ac ww h => c_move (h.ev rfl)) rfl ?_
    refine rg_q (fun ac ww h => c_loadW ty22 rfl (h.ev rfl) (h.blk (hs.seg (i := 1) rfl)) (by rw [List.length_map, hel])) rfl ?_
    refine rg_q (fun ac ww h => c_move (h.ev rfl)) rfl ?_
    refine rg_q (fun ac ww h => c_move (h.ev rfl)) rfl ?_
    refine rg_callE (tupG [.agg ((shL d ep sq r e x id).map B).toArray] [I (shE r x id)] (rowS (shN r x id) (shW d ep sq r e x id))) (fun _ _ _ _ _ h => h) fu114 (fun ac ww h => ?_) rfl ?_
    · exact ⟨_, .cons (h.ev rfl) (.cons (h.ev rfl) (.cons (h.ev rfl) (.cons (h.ev rfl) (.cons (h.ev rfl) (.nil))))), ladder_ShowA d ep sq r e x id hel _⟩
    refine rg_moveG rfl rfl rfl ?_
    refine rg_extGc rfl rfl rfl (fun _ => rfl) ?_
    refine rg_extGe rfl rfl rfl rfl ?_
    refine rg_extGc rfl rfl rfl (fun _ => rfl) ?_
    refine rg_alloc ty54 rfl ?_
    refine rg_nil fun ac ww L' hf hfe hs hlk => ?_
    simp only [List.drop_succ_cons, List.drop_zero]
    obtain ⟨v15, L15, M15, h15, e15, ⟨v40, L40, M40, h40, e40, ⟨v31, L31, M31, h31, e31, ⟨v38, L38, M38, h38, e38, rfl, rfl⟩, rfl⟩, rfl⟩, rfl⟩ := hfe
    replace hs := hs.add h15
    replace hs := hs.add h40
    replace hs := hs.add h31
    replace hs := hs.add h38
    obtain ⟨g15, rfl, rfl⟩ := e15
    obtain ⟨tv38, rfl, e38⟩ := e38
    obtain ⟨-, rfl⟩ := e31
    obtain rfl := lk_move (j := 7) hlk (by decide) rfl (by kernel_rfl) h31 h38
    obtain ⟨-, rfl⟩ := e40
    obtain rfl := lk_ext (j := 9) hlk (by decide) rfl (by kernel_rfl) h40 h31 rfl
    obtain rfl := e38
    refine sk_storeW (i := 0) hs ty54 rfl rfl rfl (by rw [List.length_map, shL_length]) (all_map_B _) rfl fun ww hs => ?_
    refine s_q hs (c_assign (hs.ev rfl)) rfl fun ac hs => ?_
    refine s_q hs (c_assign (hs.ev rfl)) rfl fun ac hs => ?_
    refine s_end ?_
    have hq2 := Rd.of_row (hs.get (i := 1) rfl)
    obtain ⟨sad, scap, rfl, hsc, hsm⟩ := Rd.sl hq2
    replace hs := hs.sub (F' := [(1, _), (2, _), (3, _), (6, _), (7, _), (11, _), (12, _), (14, _), (15, _), (16, _), (17, _)]) ⟨rfl, rfl, rfl, rfl, rfl, rfl, rfl, rfl, rfl, rfl, rfl, trivial⟩
    refine then_n ?_
    refine wp_seq ?_
    refine wp_reg ?_
    refine s_q hs (c_loadW ty81 ag81 (hs.ev rfl) (hs.seg (i := 4) rfl) (by rfl)) rfl fun ac hs => ?_
    refine s_q hs (c_move (hs.ev rfl)) rfl fun ac hs => ?_
    refine s_q hs (c_loadW ty22 rfl (hs.ev rfl) (hs.seg (i := 3) rfl) (by rw [List.length_map, hel])) rfl fun ac hs => ?_
    refine s_q hs (c_move (hs.ev rfl)) rfl fun ac hs => ?_
    refine s_q hs (c_move (hs.ev rfl)) rfl fun ac hs => ?_
    refine s_call hs fu108 (.cons (hs.ev rfl) (.cons (hs.ev rfl) (.cons (hs.ev rfl) (.cons (hs.ev rfl) (.cons (hs.ev rfl) .nil))))) (ref06_ShowA d ep sq r e x id hel _) rfl fun ac ww v48 hf hp hs => ?_
    obtain ⟨L', ⟨tv1, rfl, rfl⟩, hh⟩ := hp
    replace hs := hs _ hh
    obtain ⟨vad, vcap, rfl, hvc, hvm⟩ := Rd.sl (Rd.of_row (hs.get (i := 0) rfl))
    refine s_q hs (c_move (hs.ev rfl)) rfl fun ac hs => ?_
    refine s_q hs (c_extract (hs.ev rfl) rfl) rfl fun ac hs => ?_
    refine s_q hs (c_extract (hs.ev rfl) rfl) rfl fun ac hs => ?_
    refine s_q hs (c_extract (hs.ev rfl) rfl) rfl fun ac hs => ?_
    refine s_alloc hs ty22 rfl fun ac ww g18 hs => ?_
    refine s_storeW (i := 0) hs ty22 rfl rfl rfl (by rw [List.length_map, shL_length]) (all_map_B _) rfl fun ww hs => ?_
    refine s_q hs (c_assign (hs.ev rfl)) rfl fun ac hs => ?_
    refine s_q hs (c_assign (hs.ev rfl)) rfl fun ac hs => ?_
    refine s_end ?_
    replace hs := hs.sub (F' := [(1, _), (2, _), (3, _), (6, _), (7, _), (12, _), (14, _), (15, _), (16, _), (17, _), (18, _), (19, _), (20, _)]) ⟨rfl, rfl, rfl, rfl, rfl, rfl, rfl, rfl, rfl, rfl, rfl, rfl, rfl, trivial⟩
    refine then_n ?_
    refine wp_seq ?_
    refine wp_region_rgX (J := [11]) pmix 13 (by kernel_rfl) (by kernel_rfl) rfl rfl hs ?_
    simp only [List.take_succ_cons, List.take_zero]
    refine rg_q (fun ac ww h => c_loadW ty81 ag81 (h.ev rfl) (h.blk (hs.seg (i := 6) rfl)) (by rfl)) rfl ?_
    refine rg_call fu68 (fun ac ww h => (.cons (h.ev rfl) .nil)) (fun ww hf => law06_To d ep sq ww) rfl ?_
    refine rg_q (fun ac ww h => c_move (h.ev rfl)) rfl ?_
    refine rg_q (fun ac ww h => c_move (h.ev rfl)) rfl ?_
    refine rg_q (fun ac ww h => c_move (h.ev rfl)) rfl ?_
    refine rg_q (fun ac ww h => c_loadW ty22 rfl (h.ev rfl) (h.blk (hs.seg (i := 4) rfl)) (by rw [List.length_map, hll])) rfl ?_
    refine rg_q (fun ac ww h => c_move (h.ev rfl)) rfl ?_
    refine rg_callE (rowS n1 ws1) (fun _ _ _ _ _ h => h) fu93 (fun ac ww h => ?_) rfl ?_
    · exact ⟨_, .cons (h.ev rfl) .nil, law03_To n1 ws1 _ hwl1 hn1l _ ((hq1.fr0 hs.fr).fr0 h.fr)⟩
    refine rg_callV (c := .tuple #[.agg ((rsB d ep sq r x id l ws1 n1).map B).toArray, I (rsE r x id n1)]) fu109 (fun ac ww h => ?_) rfl ?_
    · obtain ⟨u60, L60, he60, hee, hh60⟩ := h.ent (n := 60) rfl rfl
      obtain rfl := hee
      exact ⟨_, .cons (h.ev rfl) (.cons (h.ev rfl) (.cons (h.ev rfl) (.cons (h.ev rfl) (.cons (h.ev rfl) (.cons he60 .nil))))), ladder_RiseA d ep sq r x id l ws1 n1 _ hll hwl1 ww (Rd.of_row (hh60.holds _ (List.mem_singleton.2 rfl)))⟩
    refine rg_q (fun ac ww h => c_move (h.ev rfl)) rfl ?_
    refine rg_q (fun ac ww h => c_extract (h.ev rfl) rfl) rfl ?_
    refine rg_q (fun ac ww h => c_extract (h.ev rfl) rfl) rfl ?_
    refine rg_alloc ty54 rfl ?_
    refine rg_nil fun ac ww L' hf hfe hs hlk => ?_
    simp only [List.drop_succ_cons, List.drop_zero]
    obtain ⟨v21, L21, M21, h21, e21, ⟨v60, L60, M60, h60, e60, rfl, rfl⟩, rfl⟩ := hfe
    replace hs := hs.add h21
    replace hs := hs.add h60
    obtain ⟨g21, rfl, rfl⟩ := e21
    obtain rfl := e60
    refine sk_storeW (i := 0) hs ty54 rfl rfl rfl (by rw [List.length_map, rsB_length hll]) (all_map_B _) rfl fun ww hs => ?_
    refine s_q hs (c_assign (hs.ev rfl)) rfl fun ac hs => ?_
    refine s_end ?_
    replace hs := hs.sub (F' := [(1, _), (2, _), (3, _), (6, _), (7, _), (12, _), (14, _), (15, _), (16, _), (17, _), (18, _), (19, _), (20, _), (21, _), (22, _)]) ⟨rfl, rfl, rfl, rfl, rfl, rfl, rfl, rfl, rfl, rfl, rfl, rfl, rfl, rfl, rfl, trivial⟩
    refine then_n ?_
    refine wp_seq ?_
    refine wp_reg ?_
    refine s_q hs (c_loadW ty81 ag81 (hs.ev rfl) (hs.seg (i := 8) rfl) (by rfl)) rfl fun ac hs => ?_
    refine s_q hs (c_move (hs.ev rfl)) rfl fun ac hs => ?_
    refine s_q hs (c_move (hs.ev rfl)) rfl fun ac hs => ?_
    refine s_q hs (c_move (hs.ev rfl)) rfl fun ac hs => ?_
    refine s_q hs (c_loadW ty22 rfl (hs.ev rfl) (hs.seg (i := 6) rfl) (by rw [List.length_map, hll])) rfl fun ac hs => ?_
    refine s_q hs (c_move (hs.ev rfl)) rfl fun ac hs => ?_
    refine s_call hs fu110 (.cons (hs.ev rfl) (.cons (hs.ev rfl) (.cons (hs.ev rfl) (.cons (hs.ev rfl) (.cons (hs.ev rfl) (.cons (hs.ev rfl) .nil)))))) (ref06_RiseA d ep sq r x id l ws1 n1 _ hll hwl1 hn1l _ (hq1.fr0 hs.fr)) rfl fun ac ww v71 hf hp hs => ?_
    obtain ⟨L', ⟨tv2, rfl, ps2, hps2, rfl⟩, hh⟩ := hp
    replace hs := hs _ hh
    refine s_q hs (c_move (hs.ev rfl)) rfl fun ac hs => ?_
    refine s_q hs (c_extract (hs.ev rfl) rfl) rfl fun ac hs => ?_
    refine s_q hs (c_extract (hs.ev rfl) rfl) rfl fun ac hs => ?_
    refine s_q hs (c_extract (hs.ev rfl) rfl) rfl fun ac hs => ?_
    refine s_alloc hs ty22 rfl fun ac ww g23 hs => ?_
    refine s_storeW (i := 0) hs ty22 rfl rfl rfl (by rw [List.length_map, rsB_length hll]) (all_map_B _) rfl fun ww hs => ?_
    refine s_q hs (c_assign (hs.ev rfl)) rfl fun ac hs => ?_
    refine s_q hs (c_assign (hs.ev rfl)) rfl fun ac hs => ?_
    refine s_end ?_
    replace hs := hs.sub (F' := [(14, _), (15, _), (16, _), (17, _), (18, _), (19, _), (20, _), (21, _), (22, _), (23, _), (25, _)]) ⟨rfl, rfl, rfl, rfl, rfl, rfl, rfl, rfl, rfl, rfl, rfl, trivial⟩
    refine then_n ?_
    refine wp_seq ?_
    refine wp_reg ?_
    refine s_call hs fu70 .nil (law06_awake _) rfl fun ac ww v75 hf hp hs => ?_
    obtain rfl := hp
    replace hs := hs [] (.nil _ _)
    refine s_q hs (c_move (hs.ev rfl)) rfl fun ac hs => ?_
    refine s_yes hs rfl rfl ?_
    refine s_q hs (c_move (hs.ev rfl)) rfl fun ac hs => ?_
    refine s_yes hs rfl rfl ?_
    refine s_q hs (c_move (hs.ev rfl)) rfl fun ac hs => ?_
    refine s_yes hs rfl rfl ?_
    refine s_q hs (c_tt (c_eqlI (hs.ev rfl) (hs.ev rfl)) (by simp)) rfl fun ac hs => ?_
    refine s_q hs (c_pick (hs.ev rfl) (hs.ev rfl) (hs.ev rfl)) rfl fun ac hs => ?_
    refine s_q hs (c_move (hs.ev rfl)) rfl fun ac hs => ?_
    refine s_yes hs rfl rfl ?_
    refine s_q hs (c_loadW ty54 rfl (hs.ev rfl) (hs.seg (i := 6) rfl) (by rw [List.length_map, shL_length])) rfl fun ac hs => ?_
    refine s_yes hs rfl rfl ?_
    refine s_q hs (c_loadW ty22 rfl (hs.ev rfl) (hs.seg (i := 4) rfl) (by rw [List.length_map, shL_length])) rfl fun ac hs => ?_
    refine s_yes hs rfl rfl ?_
    refine s_q hs (c_tt (c_eqlAB un54 ty5 eg54 (hs.ev rfl) (hs.ev rfl) (shL_length _ _ _ _ _ _ _) (shL_length _ _ _ _ _ _ _)) (by simp)) rfl fun ac hs => ?_
    refine s_q hs (c_pick (hs.ev rfl) (hs.ev rfl) (hs.ev rfl)) rfl fun ac hs => ?_
    refine s_q hs (c_move (hs.ev rfl)) rfl fun ac hs => ?_
    refine s_yes hs rfl rfl ?_
    refine s_q hs (c_move (hs.ev rfl)) rfl fun ac hs => ?_
    refine s_yes hs rfl rfl ?_
    refine s_call hs fu103 (.cons (hs.ev rfl) .nil) (law03_From (shN r x id) (shW d ep sq r e x id) _ (shW_length _ _ _ _ _ _ _) (by have := shN_le r x id; omega) _ (Rd.of_row (hs.get (i := 7) rfl))) rfl fun ac ww v88 hf hp hs => ?_
    obtain ⟨L', hv, hh⟩ := hp
    subst hv
    replace hs := hs _ hh
    obtain ⟨fad, fcap, rfl, _, _⟩ := Rd.sl (Rd.of_row (hs.get (i := 0) rfl))
    refine s_yes hs rfl rfl ?_
    refine s_q hs (c_move (hs.ev rfl)) rfl fun ac hs => ?_
    refine s_yes hs rfl rfl ?_
    refine s_call hs fu102 (.cons (hs.ev rfl) (.cons (hs.ev rfl) .nil)) (ref03_SameSums (shN r x id) (shN r x id) (shW d ep sq r e x id) (shW d ep sq r e x id) _ _ (shW_length _ _ _ _ _ _ _) (shW_length _ _ _ _ _ _ _) _ (Rd.of_row (hs.get (i := 0) rfl)) (Rd.of_row (hs.get (i := 6) rfl))) rfl fun ac ww v90 hf hp hs => ?_
    rw [decide_eq_true rfl] at hp
    obtain rfl := hp
    replace hs := hs [] (.nil _ _)
    refine s_q hs (c_pick (hs.ev rfl) (hs.ev rfl) (hs.ev rfl)) rfl fun ac hs => ?_
    refine s_q hs (c_move (hs.ev rfl)) rfl fun ac hs => ?_
    refine s_yes hs rfl rfl ?_
    refine s_q hs (c_move (hs.ev rfl)) rfl fun ac hs => ?_
    refine s_yes hs rfl rfl ?_
    refine s_q hs (c_move (hs.ev rfl)) rfl fun ac hs => ?_
    refine s_yes hs rfl rfl ?_
    refine s_q hs (c_tt (c_eqlI (hs.ev rfl) (hs.ev rfl)) (by simp)) rfl fun ac hs => ?_
    refine s_q hs (c_pick (hs.ev rfl) (hs.ev rfl) (hs.ev rfl)) rfl fun ac hs => ?_
    refine s_q hs (c_move (hs.ev rfl)) rfl fun ac hs => ?_
    refine s_yes hs rfl rfl ?_
    refine s_q hs (c_loadW ty54 rfl (hs.ev rfl) (hs.seg (i := 3) rfl) (by rw [List.length_map, rsB_length hll])) rfl fun ac hs => ?_
    refine s_yes hs rfl rfl ?_
    refine s_q hs (c_loadW ty22 rfl (hs.ev rfl) (hs.seg (i := 1) rfl) (by rw [List.length_map, rsB_length hll])) rfl fun ac hs => ?_
    refine s_yes hs rfl rfl ?_
    refine s_q hs (c_tt (c_eqlAB un54 ty5 eg54 (hs.ev rfl) (hs.ev rfl) (rsB_length hll _) (rsB_length hll _)) (by simp)) rfl fun ac hs => ?_
    refine s_q hs (c_pick (hs.ev rfl) (hs.ev rfl) (hs.ev rfl)) rfl fun ac hs => ?_
    refine s_q hs (c_assign (hs.ev rfl)) rfl fun ac hs => ?_
    refine s_end ?_
    replace hs := hs.sub (F' := [(14, _)]) ⟨rfl, trivial⟩
    refine then_n ?_
    refine wp_ret ?_
    refine s_ret hs rfl (.tmp (hs.tmp rfl) .nil) rfl ⟨_, rfl, hs.fr, ?_⟩
    rfl
  · try simp only [decide_eq_true_eq, decide_eq_false_iff_not, Bool.not_eq_true', Bool.not_eq_false', Bool.and_eq_true, Bool.or_eq_true, Bool.or_eq_false_iff] at hc
    obtain ⟨n1, ws1, hn1, hn1l, hwl1, hq1⟩ : ∃ (n1 : Nat) (ws1 : List UInt8), n1 = n ∧ n1 ≤ 1000000 ∧ ws1.length = n1 * 16 ∧ Rd w (.slice wad n wcap) n1 (ws1.map B) := ⟨n, ws, rfl, by omega, hwl, hqw⟩
    refine wp_skip ?_
    refine then_n ?_
    refine wp_seq ?_
    refine wp_region_rgX (J := [9, 10]) pmix 12 (by kernel_rfl) (by kernel_rfl) rfl rfl hs ?_
    simp only [List.take_succ_cons, List.take_zero]
    refine rg_q (fun ac ww h => c_loadW ty81 ag81 (h.ev rfl) (h.blk (hs.seg (i := 2) rfl)) (by rfl)) rfl ?_
    refine rg_call fu68 (fun ac ww h => (.cons (h.ev rfl) .nil)) (fun ww hf => law06_To d ep sq ww) rfl ?_
    refine rg_q (fun ac ww h => c_move (h.ev rfl)) rfl ?_
    refine rg_q (fun ac ww h => c_loadW ty22 rfl (h.ev rfl) (h.blk (hs.seg (i := 1) rfl)) (by rw [List.length_map, hel])) rfl ?_
    refine rg_q (fun ac ww h => c_move (h.ev rfl)) rfl ?_
    refine rg_q (fun ac ww h => c_move (h.ev rfl)) rfl ?_
    refine rg_callE (tupG [.agg ((shL d ep sq r e x id).map B).toArray] [I (shE r x id)] (rowS (shN r x id) (shW d ep sq r e x id))) (fun _ _ _ _ _ h => h) fu114 (fun ac ww h => ?_) rfl ?_
    · exact ⟨_, .cons (h.ev rfl) (.cons (h.ev rfl) (.cons (h.ev rfl) (.cons (h.ev rfl) (.cons (h.ev rfl) (.nil))))), ladder_ShowA d ep sq r e x id hel _⟩
    refine rg_moveG rfl rfl rfl ?_
    refine rg_extGc rfl rfl rfl (fun _ => rfl) ?_
    refine rg_extGe rfl rfl rfl rfl ?_
    refine rg_extGc rfl rfl rfl (fun _ => rfl) ?_
    refine rg_alloc ty54 rfl ?_
    refine rg_nil fun ac ww L' hf hfe hs hlk => ?_
    simp only [List.drop_succ_cons, List.drop_zero]
    obtain ⟨v15, L15, M15, h15, e15, ⟨v40, L40, M40, h40, e40, ⟨v31, L31, M31, h31, e31, ⟨v38, L38, M38, h38, e38, rfl, rfl⟩, rfl⟩, rfl⟩, rfl⟩ := hfe
    replace hs := hs.add h15
    replace hs := hs.add h40
    replace hs := hs.add h31
    replace hs := hs.add h38
    obtain ⟨g15, rfl, rfl⟩ := e15
    obtain ⟨tv38, rfl, e38⟩ := e38
    obtain ⟨-, rfl⟩ := e31
    obtain rfl := lk_move (j := 7) hlk (by decide) rfl (by kernel_rfl) h31 h38
    obtain ⟨-, rfl⟩ := e40
    obtain rfl := lk_ext (j := 9) hlk (by decide) rfl (by kernel_rfl) h40 h31 rfl
    obtain rfl := e38
    refine sk_storeW (i := 0) hs ty54 rfl rfl rfl (by rw [List.length_map, shL_length]) (all_map_B _) rfl fun ww hs => ?_
    refine s_q hs (c_assign (hs.ev rfl)) rfl fun ac hs => ?_
    refine s_q hs (c_assign (hs.ev rfl)) rfl fun ac hs => ?_
    refine s_end ?_
    have hq2 := Rd.of_row (hs.get (i := 1) rfl)
    obtain ⟨sad, scap, rfl, hsc, hsm⟩ := Rd.sl hq2
    replace hs := hs.sub (F' := [(1, _), (2, _), (3, _), (6, _), (7, _), (11, _), (12, _), (14, _), (15, _), (16, _), (17, _)]) ⟨rfl, rfl, rfl, rfl, rfl, rfl, rfl, rfl, rfl, rfl, rfl, trivial⟩
    refine then_n ?_
    refine wp_seq ?_
    refine wp_reg ?_
    refine s_q hs (c_loadW ty81 ag81 (hs.ev rfl) (hs.seg (i := 4) rfl) (by rfl)) rfl fun ac hs => ?_
    refine s_q hs (c_move (hs.ev rfl)) rfl fun ac hs => ?_
    refine s_q hs (c_loadW ty22 rfl (hs.ev rfl) (hs.seg (i := 3) rfl) (by rw [List.length_map, hel])) rfl fun ac hs => ?_
    refine s_q hs (c_move (hs.ev rfl)) rfl fun ac hs => ?_
    refine s_q hs (c_move (hs.ev rfl)) rfl fun ac hs => ?_
    refine s_call hs fu108 (.cons (hs.ev rfl) (.cons (hs.ev rfl) (.cons (hs.ev rfl) (.cons (hs.ev rfl) (.cons (hs.ev rfl) .nil))))) (ref06_ShowA d ep sq r e x id hel _) rfl fun ac ww v48 hf hp hs => ?_
    obtain ⟨L', ⟨tv1, rfl, rfl⟩, hh⟩ := hp
    replace hs := hs _ hh
    obtain ⟨vad, vcap, rfl, hvc, hvm⟩ := Rd.sl (Rd.of_row (hs.get (i := 0) rfl))
    refine s_q hs (c_move (hs.ev rfl)) rfl fun ac hs => ?_
    refine s_q hs (c_extract (hs.ev rfl) rfl) rfl fun ac hs => ?_
    refine s_q hs (c_extract (hs.ev rfl) rfl) rfl fun ac hs => ?_
    refine s_q hs (c_extract (hs.ev rfl) rfl) rfl fun ac hs => ?_
    refine s_alloc hs ty22 rfl fun ac ww g18 hs => ?_
    refine s_storeW (i := 0) hs ty22 rfl rfl rfl (by rw [List.length_map, shL_length]) (all_map_B _) rfl fun ww hs => ?_
    refine s_q hs (c_assign (hs.ev rfl)) rfl fun ac hs => ?_
    refine s_q hs (c_assign (hs.ev rfl)) rfl fun ac hs => ?_
    refine s_end ?_
    replace hs := hs.sub (F' := [(1, _), (2, _), (3, _), (6, _), (7, _), (12, _), (14, _), (15, _), (16, _), (17, _), (18, _), (19, _), (20, _)]) ⟨rfl, rfl, rfl, rfl, rfl, rfl, rfl, rfl, rfl, rfl, rfl, rfl, rfl, trivial⟩
    refine then_n ?_
    refine wp_seq ?_
    refine wp_region_rgX (J := [11]) pmix 13 (by kernel_rfl) (by kernel_rfl) rfl rfl hs ?_
    simp only [List.take_succ_cons, List.take_zero]
    refine rg_q (fun ac ww h => c_loadW ty81 ag81 (h.ev rfl) (h.blk (hs.seg (i := 6) rfl)) (by rfl)) rfl ?_
    refine rg_call fu68 (fun ac ww h => (.cons (h.ev rfl) .nil)) (fun ww hf => law06_To d ep sq ww) rfl ?_
    refine rg_q (fun ac ww h => c_move (h.ev rfl)) rfl ?_
    refine rg_q (fun ac ww h => c_move (h.ev rfl)) rfl ?_
    refine rg_q (fun ac ww h => c_move (h.ev rfl)) rfl ?_
    refine rg_q (fun ac ww h => c_loadW ty22 rfl (h.ev rfl) (h.blk (hs.seg (i := 4) rfl)) (by rw [List.length_map, hll])) rfl ?_
    refine rg_q (fun ac ww h => c_move (h.ev rfl)) rfl ?_
    refine rg_callE (rowS n1 ws1) (fun _ _ _ _ _ h => h) fu93 (fun ac ww h => ?_) rfl ?_
    · exact ⟨_, .cons (h.ev rfl) .nil, law03_To n1 ws1 _ hwl1 hn1l _ ((hq1.fr0 hs.fr).fr0 h.fr)⟩
    refine rg_callV (c := .tuple #[.agg ((rsB d ep sq r x id l ws1 n1).map B).toArray, I (rsE r x id n1)]) fu109 (fun ac ww h => ?_) rfl ?_
    · obtain ⟨u60, L60, he60, hee, hh60⟩ := h.ent (n := 60) rfl rfl
      obtain rfl := hee
      exact ⟨_, .cons (h.ev rfl) (.cons (h.ev rfl) (.cons (h.ev rfl) (.cons (h.ev rfl) (.cons (h.ev rfl) (.cons he60 .nil))))), ladder_RiseA d ep sq r x id l ws1 n1 _ hll hwl1 ww (Rd.of_row (hh60.holds _ (List.mem_singleton.2 rfl)))⟩
    refine rg_q (fun ac ww h => c_move (h.ev rfl)) rfl ?_
    refine rg_q (fun ac ww h => c_extract (h.ev rfl) rfl) rfl ?_
    refine rg_q (fun ac ww h => c_extract (h.ev rfl) rfl) rfl ?_
    refine rg_alloc ty54 rfl ?_
    refine rg_nil fun ac ww L' hf hfe hs hlk => ?_
    simp only [List.drop_succ_cons, List.drop_zero]
    obtain ⟨v21, L21, M21, h21, e21, ⟨v60, L60, M60, h60, e60, rfl, rfl⟩, rfl⟩ := hfe
    replace hs := hs.add h21
    replace hs := hs.add h60
    obtain ⟨g21, rfl, rfl⟩ := e21
    obtain rfl := e60
    refine sk_storeW (i := 0) hs ty54 rfl rfl rfl (by rw [List.length_map, rsB_length hll]) (all_map_B _) rfl fun ww hs => ?_
    refine s_q hs (c_assign (hs.ev rfl)) rfl fun ac hs => ?_
    refine s_end ?_
    replace hs := hs.sub (F' := [(1, _), (2, _), (3, _), (6, _), (7, _), (12, _), (14, _), (15, _), (16, _), (17, _), (18, _), (19, _), (20, _), (21, _), (22, _)]) ⟨rfl, rfl, rfl, rfl, rfl, rfl, rfl, rfl, rfl, rfl, rfl, rfl, rfl, rfl, rfl, trivial⟩
    refine then_n ?_
    refine wp_seq ?_
    refine wp_reg ?_
    refine s_q hs (c_loadW ty81 ag81 (hs.ev rfl) (hs.seg (i := 8) rfl) (by rfl)) rfl fun ac hs => ?_
    refine s_q hs (c_move (hs.ev rfl)) rfl fun ac hs => ?_
    refine s_q hs (c_move (hs.ev rfl)) rfl fun ac hs => ?_
    refine s_q hs (c_move (hs.ev rfl)) rfl fun ac hs => ?_
    refine s_q hs (c_loadW ty22 rfl (hs.ev rfl) (hs.seg (i := 6) rfl) (by rw [List.length_map, hll])) rfl fun ac hs => ?_
    refine s_q hs (c_move (hs.ev rfl)) rfl fun ac hs => ?_
    refine s_call hs fu110 (.cons (hs.ev rfl) (.cons (hs.ev rfl) (.cons (hs.ev rfl) (.cons (hs.ev rfl) (.cons (hs.ev rfl) (.cons (hs.ev rfl) .nil)))))) (ref06_RiseA d ep sq r x id l ws1 n1 _ hll hwl1 hn1l _ (hq1.fr0 hs.fr)) rfl fun ac ww v71 hf hp hs => ?_
    obtain ⟨L', ⟨tv2, rfl, ps2, hps2, rfl⟩, hh⟩ := hp
    replace hs := hs _ hh
    refine s_q hs (c_move (hs.ev rfl)) rfl fun ac hs => ?_
    refine s_q hs (c_extract (hs.ev rfl) rfl) rfl fun ac hs => ?_
    refine s_q hs (c_extract (hs.ev rfl) rfl) rfl fun ac hs => ?_
    refine s_q hs (c_extract (hs.ev rfl) rfl) rfl fun ac hs => ?_
    refine s_alloc hs ty22 rfl fun ac ww g23 hs => ?_
    refine s_storeW (i := 0) hs ty22 rfl rfl rfl (by rw [List.length_map, rsB_length hll]) (all_map_B _) rfl fun ww hs => ?_
    refine s_q hs (c_assign (hs.ev rfl)) rfl fun ac hs => ?_
    refine s_q hs (c_assign (hs.ev rfl)) rfl fun ac hs => ?_
    refine s_end ?_
    replace hs := hs.sub (F' := [(14, _), (15, _), (16, _), (17, _), (18, _), (19, _), (20, _), (21, _), (22, _), (23, _), (25, _)]) ⟨rfl, rfl, rfl, rfl, rfl, rfl, rfl, rfl, rfl, rfl, rfl, trivial⟩
    refine then_n ?_
    refine wp_seq ?_
    refine wp_reg ?_
    refine s_call hs fu70 .nil (law06_awake _) rfl fun ac ww v75 hf hp hs => ?_
    obtain rfl := hp
    replace hs := hs [] (.nil _ _)
    refine s_q hs (c_move (hs.ev rfl)) rfl fun ac hs => ?_
    refine s_yes hs rfl rfl ?_
    refine s_q hs (c_move (hs.ev rfl)) rfl fun ac hs => ?_
    refine s_yes hs rfl rfl ?_
    refine s_q hs (c_move (hs.ev rfl)) rfl fun ac hs => ?_
    refine s_yes hs rfl rfl ?_
    refine s_q hs (c_tt (c_eqlI (hs.ev rfl) (hs.ev rfl)) (by simp)) rfl fun ac hs => ?_
    refine s_q hs (c_pick (hs.ev rfl) (hs.ev rfl) (hs.ev rfl)) rfl fun ac hs => ?_
    refine s_q hs (c_move (hs.ev rfl)) rfl fun ac hs => ?_
    refine s_yes hs rfl rfl ?_
    refine s_q hs (c_loadW ty54 rfl (hs.ev rfl) (hs.seg (i := 6) rfl) (by rw [List.length_map, shL_length])) rfl fun ac hs => ?_
    refine s_yes hs rfl rfl ?_
    refine s_q hs (c_loadW ty22 rfl (hs.ev rfl) (hs.seg (i := 4) rfl) (by rw [List.length_map, shL_length])) rfl fun ac hs => ?_
    refine s_yes hs rfl rfl ?_
    refine s_q hs (c_tt (c_eqlAB un54 ty5 eg54 (hs.ev rfl) (hs.ev rfl) (shL_length _ _ _ _ _ _ _) (shL_length _ _ _ _ _ _ _)) (by simp)) rfl fun ac hs => ?_
    refine s_q hs (c_pick (hs.ev rfl) (hs.ev rfl) (hs.ev rfl)) rfl fun ac hs => ?_
    refine s_q hs (c_move (hs.ev rfl)) rfl fun ac hs => ?_
    refine s_yes hs rfl rfl ?_
    refine s_q hs (c_move (hs.ev rfl)) rfl fun ac hs => ?_
    refine s_yes hs rfl rfl ?_
    refine s_call hs fu103 (.cons (hs.ev rfl) .nil) (law03_From (shN r x id) (shW d ep sq r e x id) _ (shW_length _ _ _ _ _ _ _) (by have := shN_le r x id; omega) _ (Rd.of_row (hs.get (i := 7) rfl))) rfl fun ac ww v88 hf hp hs => ?_
    obtain ⟨L', hv, hh⟩ := hp
    subst hv
    replace hs := hs _ hh
    obtain ⟨fad, fcap, rfl, _, _⟩ := Rd.sl (Rd.of_row (hs.get (i := 0) rfl))
    refine s_yes hs rfl rfl ?_
    refine s_q hs (c_move (hs.ev rfl)) rfl fun ac hs => ?_
    refine s_yes hs rfl rfl ?_
    refine s_call hs fu102 (.cons (hs.ev rfl) (.cons (hs.ev rfl) .nil)) (ref03_SameSums (shN r x id) (shN r x id) (shW d ep sq r e x id) (shW d ep sq r e x id) _ _ (shW_length _ _ _ _ _ _ _) (shW_length _ _ _ _ _ _ _) _ (Rd.of_row (hs.get (i := 0) rfl)) (Rd.of_row (hs.get (i := 6) rfl))) rfl fun ac ww v90 hf hp hs => ?_
    rw [decide_eq_true rfl] at hp
    obtain rfl := hp
    replace hs := hs [] (.nil _ _)
    refine s_q hs (c_pick (hs.ev rfl) (hs.ev rfl) (hs.ev rfl)) rfl fun ac hs => ?_
    refine s_q hs (c_move (hs.ev rfl)) rfl fun ac hs => ?_
    refine s_yes hs rfl rfl ?_
    refine s_q hs (c_move (hs.ev rfl)) rfl fun ac hs => ?_
    refine s_yes hs rfl rfl ?_
    refine s_q hs (c_move (hs.ev rfl)) rfl fun ac hs => ?_
    refine s_yes hs rfl rfl ?_
    refine s_q hs (c_tt (c_eqlI (hs.ev rfl) (hs.ev rfl)) (by simp)) rfl fun ac hs => ?_
    refine s_q hs (c_pick (hs.ev rfl) (hs.ev rfl) (hs.ev rfl)) rfl fun ac hs => ?_
    refine s_q hs (c_move (hs.ev rfl)) rfl fun ac hs => ?_
    refine s_yes hs rfl rfl ?_
    refine s_q hs (c_loadW ty54 rfl (hs.ev rfl) (hs.seg (i := 3) rfl) (by rw [List.length_map, rsB_length hll])) rfl fun ac hs => ?_
    refine s_yes hs rfl rfl ?_
    refine s_q hs (c_loadW ty22 rfl (hs.ev rfl) (hs.seg (i := 1) rfl) (by rw [List.length_map, rsB_length hll])) rfl fun ac hs => ?_
    refine s_yes hs rfl rfl ?_
    refine s_q hs (c_tt (c_eqlAB un54 ty5 eg54 (hs.ev rfl) (hs.ev rfl) (rsB_length hll _) (rsB_length hll _)) (by simp)) rfl fun ac hs => ?_
    refine s_q hs (c_pick (hs.ev rfl) (hs.ev rfl) (hs.ev rfl)) rfl fun ac hs => ?_
    refine s_q hs (c_assign (hs.ev rfl)) rfl fun ac hs => ?_
    refine s_end ?_
    replace hs := hs.sub (F' := [(14, _)]) ⟨rfl, trivial⟩
    refine then_n ?_
    refine wp_ret ?_
    refine s_ret hs rfl (.tmp (hs.tmp rfl) .nil) rfl ⟨_, rfl, hs.fr, ?_⟩
    rfl

end Go.Proofs.Ytmgnnclkjkbmdaa
end
