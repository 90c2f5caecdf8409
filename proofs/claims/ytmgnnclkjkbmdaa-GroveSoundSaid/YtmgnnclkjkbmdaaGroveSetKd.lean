/- Own texts of this seat, laid together for one claim (with what its proof uses alone). -/
import Derived.Test.YtmgnnclkjkbmdaaGroveSetKc
section
/- The law of new groves. -/
set_option linter.unusedSimpArgs false
set_option linter.unusedVariables false
set_option maxRecDepth 100000
namespace Go.Proofs.Ytmgnnclkjkbmdaa
open Go Go.Fw
open Sha
set_option maxHeartbeats 4000000 in
theorem law_GroveNews (d : Int) (ep : UInt32) (n : Nat) (ws : List UInt8) (wv : Value) (i : Int) (hwl : ws.length = n * 16) (w : World) (hqw : Rd w wv n (ws.map B)) : Ctr Try.prog 19 [I d, U ep, wv, I i] w (fun _ => False) (fun v _ => v = .bool true) := by
  have hnl := hqw.le
  obtain ⟨wad, wcap, rfl, hwc, hwm⟩ := Rd.sl hqw
  refine fn_start (N := 135) Try.func19 rfl rfl rfl fun ac hk => ?_
  have hs := St.start hk w
  refine wp_seq ?_
  refine wp_reg ?_
  refine s_q hs (c_assign (hs.ev rfl)) rfl fun ac hs => ?_
  refine s_end ?_
  refine then_n ?_
  refine wp_seq ?_
  refine wp_seq ?_
  refine wp_reg ?_
  refine s_q hs (c_move (hs.ev rfl)) rfl fun ac hs => ?_
  refine s_q hs (c_lenS un109 (hs.ev rfl)) rfl fun ac hs => ?_
  refine s_q hs (c_gtrI (hs.ev rfl) (hs.ev rfl)) rfl fun ac hs => ?_
  refine s_end ?_
  replace hs := hs.sub (F' := [(0, _), (1, _), (2, _), (3, _), (8, _), (19, _)]) ⟨rfl, rfl, rfl, rfl, rfl, rfl, trivial⟩
  refine then_n ?_
  refine s_cond hs rfl (fun hc => ?_) (fun hc => ?_)
  · try simp only [decide_eq_true_eq, decide_eq_false_iff_not, Bool.not_eq_true', Bool.not_eq_false', Bool.and_eq_true, Bool.or_eq_true, Bool.or_eq_false_iff] at hc
    obtain ⟨n1, ls1, hn1, hn1l, hls, hq1⟩ : ∃ (n1 : Nat) (ls1 : List UInt8), n1 = 70 ∧ n1 ≤ 70 ∧ ls1.length = n1 * 16 ∧ Rd w (.slice wad n1 wcap) n1 (ls1.map B) := ⟨70, ws.take (16 * 70), rfl, by decide, by rw [List.length_take]; omega, Rd.head hqw hwl (by omega) (by decide)⟩
    refine wp_reg ?_
    refine s_q hs (c_move (hs.ev rfl)) rfl fun ac hs => ?_
    refine s_q hs (c_to (c_sliceH (j := 70) un109 ty22 (hs.ev rfl) (hs.ev rfl) rfl (by omega)) ((show Value.slice _ 70 wcap = Value.slice wad n1 wcap from by rw [hn1, if_neg (by omega)]; cases wad <;> simp [Addr.add]))) rfl fun ac hs => ?_
    refine s_q hs (c_assign (hs.ev rfl)) rfl fun ac hs => ?_
    refine s_end ?_
    replace hs := hs.sub (F' := [(0, _), (1, _), (2, _), (3, _), (8, _)]) ⟨rfl, rfl, rfl, rfl, rfl, trivial⟩
    refine then_n ?_
    refine wp_seq ?_
    refine wp_reg ?_
    refine s_q hs (c_move (hs.ev rfl)) rfl fun ac hs => ?_
    refine s_call hs fu93 (.cons (hs.ev rfl) .nil) (law03_To n1 ls1 _ hls (by omega) _ (hq1.fr0 hs.fr)) rfl fun ac ww v23 hf hp hs => ?_
    obtain ⟨L', hv, hh⟩ := hp
    subst hv
    replace hs := hs _ hh
    obtain ⟨tad, tcap, rfl, _, _⟩ := Rd.sl (Rd.of_row (hs.get (i := 0) rfl))
    refine s_q hs (c_assign (hs.ev rfl)) rfl fun ac hs => ?_
    refine s_end ?_
    replace hs := hs.sub (F' := [(0, _), (1, _), (2, _), (3, _), (8, _), (9, _)]) ⟨rfl, rfl, rfl, rfl, rfl, rfl, trivial⟩
    refine then_n ?_
    refine wp_seq ?_
    refine wp_reg ?_
    refine s_q hs (c_move (hs.ev rfl)) rfl fun ac hs => ?_
    refine s_q hs (c_move (hs.ev rfl)) rfl fun ac hs => ?_
    refine s_q hs (c_move (hs.ev rfl)) rfl fun ac hs => ?_
    rcases height_lv (n := (n1 : Int)) with ⟨hxl, hno⟩ | ⟨lv, W, hlv, hW, hWn, hxl⟩
    · refine s_call hs fu94 (.cons (hs.ev rfl) (.cons (hs.ev rfl) (.cons (hs.ev rfl) .nil))) (grove_NewBad d ep n1 ls1 _ hxl _ (Rd.of_row (hs.get (i := 0) rfl))) rfl fun ac ww v28 hf hp hs => ?_
      obtain rfl := hp
      replace hs := hs [] (.nil _ _)
      refine s_q hs (c_move (hs.ev rfl)) rfl fun ac hs => ?_
      refine s_q hs (c_extract (hs.ev rfl) rfl) rfl fun ac hs => ?_
      refine s_q hs (c_extract (hs.ev rfl) rfl) rfl fun ac hs => ?_
      refine s_q hs (c_assign (hs.ev rfl)) rfl fun ac hs => ?_
      refine s_q hs (c_assign (hs.ev rfl)) rfl fun ac hs => ?_
      refine s_end ?_
      replace hs := hs.sub (F' := [(0, _), (1, _), (2, _), (3, _), (8, _), (9, _), (10, _), (11, _)]) ⟨rfl, rfl, rfl, rfl, rfl, rfl, rfl, rfl, trivial⟩
      refine then_n ?_
      refine wp_seq ?_
      refine wp_seq ?_
      refine wp_reg ?_
      refine s_q hs (c_move (hs.ev rfl)) rfl fun ac hs => ?_
      refine s_q hs (c_lenS un110 (hs.ev rfl)) rfl fun ac hs => ?_
      refine s_q hs (c_move (hs.ev rfl)) rfl fun ac hs => ?_
      refine s_end ?_
      replace hs := hs.sub (F' := [(0, _), (1, _), (2, _), (3, _), (8, _), (9, _), (10, _), (11, _), (32, _), (33, _)]) ⟨rfl, rfl, rfl, rfl, rfl, rfl, rfl, rfl, rfl, rfl, trivial⟩
      refine then_n ?_
      refine wp_block ?_
      refine s_loop hs (X := Nat × List Value) (fun x => [(33, I x.1)]) [(0, _), (1, _), (2, _), (3, _), (8, _), (9, _), (10, _), (11, _), (32, _)] (fun x => [.row (.slice tad n1 tcap) n1 x.2 54 16]) (fun j x => x.1 ≤ n1 ∧ j = n1 - x.1) (_) ((0, _)) (⟨Nat.zero_le _, rfl⟩) ⟨rfl, rfl, rfl, rfl, rfl, rfl, rfl, rfl, rfl, rfl, trivial⟩ rfl ?_
      rintro n ⟨q, zs⟩ ac ww hok hs
      simp only [List.cons_append, List.nil_append] at hs
      obtain ⟨hq, rfl⟩ := hok
      simp only at hq hs
      refine wp_seq ?_
      refine wp_reg ?_
      refine s_q hs (c_lssI (hs.ev rfl) (hs.ev rfl)) rfl fun ac hs => ?_
      refine s_end ?_
      refine then_n ?_
      refine wp_seq ?_
      refine s_cond hs rfl (fun hc => ?_) (fun hc => ?_)
      · try simp only [decide_eq_true_eq, decide_eq_false_iff_not, Bool.not_eq_true', Bool.not_eq_false', Bool.and_eq_true, Bool.or_eq_true, Bool.or_eq_false_iff] at hc
        have hqn : q < n1 := by omega
        obtain ⟨tg, tcap2, tcur, htv, htg, _⟩ := owns_at (hs.get (i := 0) rfl) (by omega)
        cases htv
        refine wp_skip ?_
        refine then_n ?_
        refine wp_seq ?_
        refine wp_block ?_
        refine wp_seq ?_
        refine wp_reg ?_
        refine s_q hs (c_move (hs.ev rfl)) rfl fun ac hs => ?_
        refine s_q hs (c_assign (hs.ev rfl)) rfl fun ac hs => ?_
        refine s_end ?_
        refine then_n ?_
        refine wp_reg ?_
        refine s_q hs (c_move (hs.ev rfl)) rfl fun ac hs => ?_
        refine s_q hs (c_move (hs.ev rfl)) rfl fun ac hs => ?_
        refine s_q hs (c_buildA ty54 un54 ty5 (zc := (List.replicate 16 (0 : UInt8)).map B) (vs := []) .nil (by simp) (by simp [flatCells]) rfl) rfl fun ac hs => ?_
        refine s_q hs (c_idxS (j := q) un110 ty54 (hs.ev rfl) (hs.ev rfl) (by omega) (by omega)) rfl fun ac hs => ?_
        refine s_storeRk (i := 0) (j := q) hs ty54 rfl (by omega) rfl rfl (by rfl) (all_map_B _) rfl (by omega) fun ww xs2 hs => ?_
        refine s_end ?_
        refine blk_n ?_
        refine then_n ?_
        refine wp_reg ?_
        refine s_q hs (c_addI (hs.ev rfl) (hs.ev rfl) (by omega) (by omega)) rfl fun ac hs => ?_
        refine s_q hs (c_move (hs.ev rfl)) rfl fun ac hs => ?_
        refine s_end ?_
        refine then_n ?_
        exact ⟨n1 - (q + 1), by (try simp only); omega, (q + 1, xs2), ⟨by (try simp only); omega, rfl⟩, St.next hs ⟨rfl, rfl, rfl, rfl, rfl, rfl, rfl, rfl, rfl, rfl, trivial⟩ rfl⟩
      · try simp only [decide_eq_true_eq, decide_eq_false_iff_not, Bool.not_eq_true', Bool.not_eq_false', Bool.and_eq_true, Bool.or_eq_true, Bool.or_eq_false_iff] at hc
        refine wp_exit ?_
        refine then_e ?_
        refine then_e ?_
        refine blk_hit ?_
        refine then_n ?_
        refine wp_seq ?_
        refine wp_seq ?_
        refine wp_reg ?_
        refine s_q hs (c_move (hs.ev rfl)) rfl fun ac hs => ?_
        refine s_q hs (c_lenS un109 (hs.ev rfl)) rfl fun ac hs => ?_
        refine s_call hs fu95 (.cons (hs.ev rfl) .nil) (grove_Height (n1 : Int) _) rfl fun ac ww v43 hf hp hs => ?_
        obtain rfl := hp
        replace hs := hs [] (.nil _ _)
        refine s_q hs (c_move (hs.ev rfl)) rfl fun ac hs => ?_
        refine s_q hs (c_lenS un109 (hs.ev rfl)) rfl fun ac hs => ?_
        refine s_call hs fu96 (.cons (hs.ev rfl) .nil) (ref07_Height (n1 : Int) _) rfl fun ac ww v46 hf hp hs => ?_
        obtain rfl := hp
        replace hs := hs [] (.nil _ _)
        refine s_q hs (c_ff (c_neqI (hs.ev rfl) (hs.ev rfl)) (by simp)) rfl fun ac hs => ?_
        refine s_end ?_
        replace hs := hs.sub (F' := [(0, _), (1, _), (2, _), (3, _), (8, _), (10, _), (11, _), (47, _)]) ⟨rfl, rfl, rfl, rfl, rfl, rfl, rfl, rfl, trivial⟩
        refine then_n ?_
        refine wp_cond_false (hs.ev rfl) ?_
        refine wp_skip ?_
        refine then_n ?_
        refine wp_seq ?_
        refine wp_seq ?_
        refine wp_reg ?_
        refine s_q hs (c_move (hs.ev rfl)) rfl fun ac hs => ?_
        refine s_q hs (c_lenS un109 (hs.ev rfl)) rfl fun ac hs => ?_
        refine s_call hs fu96 (.cons (hs.ev rfl) .nil) (ref07_Height (n1 : Int) _) rfl fun ac ww v50 hf hp hs => ?_
        obtain rfl := hp
        replace hs := hs [] (.nil _ _)
        refine s_q hs (c_tt (c_lssI (hs.ev rfl) (hs.ev rfl)) (by rw [hxl]; rfl)) rfl fun ac hs => ?_
        refine s_end ?_
        replace hs := hs.sub (F' := [(0, _), (1, _), (2, _), (3, _), (8, _), (10, _), (11, _), (51, _)]) ⟨rfl, rfl, rfl, rfl, rfl, rfl, rfl, rfl, trivial⟩
        refine then_n ?_
        refine wp_cond_true (hs.ev rfl) ?_
        refine wp_seq ?_
        refine wp_reg ?_
        refine s_call hs fu97 .nil (law07_awake _) rfl fun ac ww v52 hf hp hs => ?_
        obtain rfl := hp
        replace hs := hs [] (.nil _ _)
        refine s_q hs (c_move (hs.ev rfl)) rfl fun ac hs => ?_
        refine s_yes hs rfl rfl ?_
        refine s_q hs (c_move (hs.ev rfl)) rfl fun ac hs => ?_
        refine s_yes hs rfl rfl ?_
        refine s_q hs (c_eqlNil0 un112 (hs.ev rfl) (hs.ev rfl)) rfl fun ac hs => ?_
        refine s_q hs (c_pick (hs.ev rfl) (hs.ev rfl) (hs.ev rfl)) rfl fun ac hs => ?_
        refine s_q hs (c_move (hs.ev rfl)) rfl fun ac hs => ?_
        refine s_yes hs rfl rfl ?_
        refine s_q hs (c_move (hs.ev rfl)) rfl fun ac hs => ?_
        refine s_yes hs rfl rfl ?_
        refine s_q hs (c_tt (c_eqlI (hs.ev rfl) (hs.ev rfl)) (by rfl)) rfl fun ac hs => ?_
        refine s_q hs (c_pick (hs.ev rfl) (hs.ev rfl) (hs.ev rfl)) rfl fun ac hs => ?_
        refine s_q hs (c_assign (hs.ev rfl)) rfl fun ac hs => ?_
        refine s_end ?_
        replace hs := hs.sub (F' := [(0, _), (1, _), (2, _), (3, _), (8, _), (10, _), (11, _)]) ⟨rfl, rfl, rfl, rfl, rfl, rfl, rfl, trivial⟩
        refine then_n ?_
        refine wp_ret ?_
        refine then_r ?_
        refine s_ret hs rfl (.tmp (hs.tmp rfl) .nil) rfl ⟨_, rfl, hs.fr, ?_⟩
        rfl
    · obtain rfl : n1 = W := by omega
      have hls16 : ls1.length = 16 * n1 := by omega
      have hls2 : ls1.length = 16 * 2 ^ lv := by rw [← hW]; exact hls16
      refine s_call hs fu94 (.cons (hs.ev rfl) (.cons (hs.ev rfl) (.cons (hs.ev rfl) .nil))) (grove_New d ep ls1 n1 lv _ hls hlv hW hxl _ (Rd.of_row (hs.get (i := 0) rfl))) rfl fun ac ww v28 hf hp hs => ?_
      obtain ⟨L', ⟨tv, rfl, g0, v0, ps0, rfl, hps0, rfl⟩, hh⟩ := hp
      replace hs := hs _ hh
      refine s_q hs (c_move (hs.ev rfl)) rfl fun ac hs => ?_
      refine s_q hs (c_extract (hs.ev rfl) rfl) rfl fun ac hs => ?_
      refine s_q hs (c_extract (hs.ev rfl) rfl) rfl fun ac hs => ?_
      refine s_q hs (c_assign (hs.ev rfl)) rfl fun ac hs => ?_
      refine s_q hs (c_assign (hs.ev rfl)) rfl fun ac hs => ?_
      refine s_end ?_
      replace hs := hs.sub (F' := [(0, _), (1, _), (2, _), (3, _), (8, _), (9, _), (10, _), (11, _)]) ⟨rfl, rfl, rfl, rfl, rfl, rfl, rfl, rfl, trivial⟩
      refine then_n ?_
      refine wp_seq ?_
      refine wp_seq ?_
      refine wp_reg ?_
      refine s_q hs (c_move (hs.ev rfl)) rfl fun ac hs => ?_
      refine s_q hs (c_lenS un110 (hs.ev rfl)) rfl fun ac hs => ?_
      refine s_q hs (c_move (hs.ev rfl)) rfl fun ac hs => ?_
      refine s_end ?_
      replace hs := hs.sub (F' := [(0, _), (1, _), (2, _), (3, _), (8, _), (9, _), (10, _), (11, _), (32, _), (33, _)]) ⟨rfl, rfl, rfl, rfl, rfl, rfl, rfl, rfl, rfl, rfl, trivial⟩
      refine then_n ?_
      refine wp_block ?_
      refine s_loop hs (X := Nat × List Value) (fun x => [(33, I x.1)]) [(0, _), (1, _), (2, _), (3, _), (8, _), (9, _), (10, _), (11, _), (32, _)] (fun x => [_, _, .row (.slice tad n1 tcap) n1 x.2 54 16]) (fun j x => x.1 ≤ n1 ∧ j = n1 - x.1) (_) ((0, _)) (⟨Nat.zero_le _, rfl⟩) ⟨rfl, rfl, rfl, rfl, rfl, rfl, rfl, rfl, rfl, rfl, trivial⟩ rfl ?_
      rintro n ⟨q, zs⟩ ac ww hok hs
      simp only [List.cons_append, List.nil_append] at hs
      obtain ⟨hq, rfl⟩ := hok
      simp only at hq hs
      refine wp_seq ?_
      refine wp_reg ?_
      refine s_q hs (c_lssI (hs.ev rfl) (hs.ev rfl)) rfl fun ac hs => ?_
      refine s_end ?_
      refine then_n ?_
      refine wp_seq ?_
      refine s_cond hs rfl (fun hc => ?_) (fun hc => ?_)
      · try simp only [decide_eq_true_eq, decide_eq_false_iff_not, Bool.not_eq_true', Bool.not_eq_false', Bool.and_eq_true, Bool.or_eq_true, Bool.or_eq_false_iff] at hc
        have hqn : q < n1 := by omega
        obtain ⟨tg, tcap2, tcur, htv, htg, _⟩ := owns_at (hs.get (i := 2) rfl) (by omega)
        cases htv
        refine wp_skip ?_
        refine then_n ?_
        refine wp_seq ?_
        refine wp_block ?_
        refine wp_seq ?_
        refine wp_reg ?_
        refine s_q hs (c_move (hs.ev rfl)) rfl fun ac hs => ?_
        refine s_q hs (c_assign (hs.ev rfl)) rfl fun ac hs => ?_
        refine s_end ?_
        refine then_n ?_
        refine wp_reg ?_
        refine s_q hs (c_move (hs.ev rfl)) rfl fun ac hs => ?_
        refine s_q hs (c_move (hs.ev rfl)) rfl fun ac hs => ?_
        refine s_q hs (c_buildA ty54 un54 ty5 (zc := (List.replicate 16 (0 : UInt8)).map B) (vs := []) .nil (by simp) (by simp [flatCells]) rfl) rfl fun ac hs => ?_
        refine s_q hs (c_idxS (j := q) un110 ty54 (hs.ev rfl) (hs.ev rfl) (by omega) (by omega)) rfl fun ac hs => ?_
        refine s_storeRk (i := 2) (j := q) hs ty54 rfl (by omega) rfl rfl (by rfl) (all_map_B _) rfl (by omega) fun ww xs2 hs => ?_
        refine s_end ?_
        refine blk_n ?_
        refine then_n ?_
        refine wp_reg ?_
        refine s_q hs (c_addI (hs.ev rfl) (hs.ev rfl) (by omega) (by omega)) rfl fun ac hs => ?_
        refine s_q hs (c_move (hs.ev rfl)) rfl fun ac hs => ?_
        refine s_end ?_
        refine then_n ?_
        exact ⟨n1 - (q + 1), by (try simp only); omega, (q + 1, xs2), ⟨by (try simp only); omega, rfl⟩, St.next hs ⟨rfl, rfl, rfl, rfl, rfl, rfl, rfl, rfl, rfl, rfl, trivial⟩ rfl⟩
      · try simp only [decide_eq_true_eq, decide_eq_false_iff_not, Bool.not_eq_true', Bool.not_eq_false', Bool.and_eq_true, Bool.or_eq_true, Bool.or_eq_false_iff] at hc
        refine wp_exit ?_
        refine then_e ?_
        refine then_e ?_
        refine blk_hit ?_
        refine then_n ?_
        refine wp_seq ?_
        refine wp_seq ?_
        refine wp_reg ?_
        refine s_q hs (c_move (hs.ev rfl)) rfl fun ac hs => ?_
        refine s_q hs (c_lenS un109 (hs.ev rfl)) rfl fun ac hs => ?_
        refine s_call hs fu95 (.cons (hs.ev rfl) .nil) (grove_Height (n1 : Int) _) rfl fun ac ww v43 hf hp hs => ?_
        obtain rfl := hp
        replace hs := hs [] (.nil _ _)
        refine s_q hs (c_move (hs.ev rfl)) rfl fun ac hs => ?_
        refine s_q hs (c_lenS un109 (hs.ev rfl)) rfl fun ac hs => ?_
        refine s_call hs fu96 (.cons (hs.ev rfl) .nil) (ref07_Height (n1 : Int) _) rfl fun ac ww v46 hf hp hs => ?_
        obtain rfl := hp
        replace hs := hs [] (.nil _ _)
        refine s_q hs (c_ff (c_neqI (hs.ev rfl) (hs.ev rfl)) (by simp)) rfl fun ac hs => ?_
        refine s_end ?_
        replace hs := hs.sub (F' := [(0, _), (1, _), (2, _), (3, _), (8, _), (10, _), (11, _), (47, _)]) ⟨rfl, rfl, rfl, rfl, rfl, rfl, rfl, rfl, trivial⟩
        refine then_n ?_
        refine wp_cond_false (hs.ev rfl) ?_
        refine wp_skip ?_
        refine then_n ?_
        refine wp_seq ?_
        refine wp_seq ?_
        refine wp_reg ?_
        refine s_q hs (c_move (hs.ev rfl)) rfl fun ac hs => ?_
        refine s_q hs (c_lenS un109 (hs.ev rfl)) rfl fun ac hs => ?_
        refine s_call hs fu96 (.cons (hs.ev rfl) .nil) (ref07_Height (n1 : Int) _) rfl fun ac ww v50 hf hp hs => ?_
        obtain rfl := hp
        replace hs := hs [] (.nil _ _)
        refine s_q hs (c_ff (c_lssI (hs.ev rfl) (hs.ev rfl)) (by rw [hxl]; simp)) rfl fun ac hs => ?_
        refine s_end ?_
        replace hs := hs.sub (F' := [(0, _), (1, _), (2, _), (3, _), (8, _), (10, _), (11, _), (51, _)]) ⟨rfl, rfl, rfl, rfl, rfl, rfl, rfl, rfl, trivial⟩
        refine then_n ?_
        refine wp_cond_false (hs.ev rfl) ?_
        refine wp_skip ?_
        refine then_n ?_
        refine wp_seq ?_
        refine wp_seq ?_
        refine wp_reg ?_
        refine s_call hs fu97 .nil (law07_awake _) rfl fun ac ww v61 hf hp hs => ?_
        obtain rfl := hp
        replace hs := hs [] (.nil _ _)
        refine s_q hs (c_ff (c_not (hs.ev rfl)) (by rfl)) rfl fun ac hs => ?_
        refine s_q hs (c_move (hs.ev rfl)) rfl fun ac hs => ?_
        refine s_yes hs rfl rfl ?_
        refine s_q hs (c_move (hs.ev rfl)) rfl fun ac hs => ?_
        refine s_yes hs rfl rfl ?_
        refine s_q hs (c_ff (c_eqlNil un112 (hs.ev rfl) (hs.ev rfl)) (by rfl)) rfl fun ac hs => ?_
        refine s_q hs (c_pick (hs.ev rfl) (hs.ev rfl) (hs.ev rfl)) rfl fun ac hs => ?_
        refine s_q hs (c_move (hs.ev rfl)) rfl fun ac hs => ?_
        refine s_yes hs rfl rfl ?_
        refine s_q hs (c_move (hs.ev rfl)) rfl fun ac hs => ?_
        refine s_yes hs rfl rfl ?_
        refine s_q hs (c_ff (c_neqI (hs.ev rfl) (hs.ev rfl)) (by rfl)) rfl fun ac hs => ?_
        refine s_q hs (c_pick (hs.ev rfl) (hs.ev rfl) (hs.ev rfl)) rfl fun ac hs => ?_
        refine s_q hs (c_move (hs.ev rfl)) rfl fun ac hs => ?_
        refine s_yes hs rfl rfl ?_
        refine s_q hs (c_move (hs.ev rfl)) rfl fun ac hs => ?_
        refine s_yes hs rfl rfl ?_
        refine s_call hs fu98 (.cons (hs.ev rfl) .nil) (grove_Root d ep ls1 n1 lv _ hls hlv hW _ ⟨g0, v0, ps0, rfl, hps0, hs.has.pick (L' := groveL d ep g0 v0 ps0) (by simp only [groveL]; exact .cons_cons _ (.cons_cons _ (List.nil_sublist _)))⟩) rfl fun ac ww v73 hf hp hs => ?_
        obtain rfl := hp
        replace hs := hs [] (.nil _ _)
        refine s_yes hs rfl rfl ?_
        refine s_q hs (c_move (hs.ev rfl)) rfl fun ac hs => ?_
        refine s_yes hs rfl rfl ?_
        refine s_q hs (c_move (hs.ev rfl)) rfl fun ac hs => ?_
        refine s_yes hs rfl rfl ?_
        refine s_q hs (c_move (hs.ev rfl)) rfl fun ac hs => ?_
        refine s_yes hs rfl rfl ?_
        refine s_call hs fu99 (.cons (hs.ev rfl) (.cons (hs.ev rfl) (.cons (hs.ev rfl) .nil))) (ref07_Root d ep ls1 n1 lv _ hls hlv hW hxl _ (hq1.fr0 hs.fr)) rfl fun ac ww v77 hf hp hs => ?_
        obtain rfl := hp
        replace hs := hs [] (.nil _ _)
        have hrl : (gNode d ep ls1 lv 0).length = 16 := gNode_length hls16 lv 0 (by rw [hW]; omega)
        refine s_yes hs rfl rfl ?_
        refine s_q hs (c_ff (c_neqAB un54 ty5 eg54 (hs.ev rfl) (hs.ev rfl) hrl hrl) (by simp)) rfl fun ac hs => ?_
        refine s_q hs (c_pick (hs.ev rfl) (hs.ev rfl) (hs.ev rfl)) rfl fun ac hs => ?_
        refine s_end ?_
        replace hs := hs.sub (F' := [(0, _), (1, _), (2, _), (3, _), (8, _), (10, _), (79, _)]) ⟨rfl, rfl, rfl, rfl, rfl, rfl, rfl, trivial⟩
        refine then_n ?_
        refine wp_cond_false (hs.ev rfl) ?_
        refine wp_skip ?_
        refine then_n ?_
        refine wp_seq ?_
        refine wp_reg ?_
        refine s_q hs (c_move (hs.ev rfl)) rfl fun ac hs => ?_
        refine s_q hs (c_move (hs.ev rfl)) rfl fun ac hs => ?_
        refine s_call hs fu100 (.cons (hs.ev rfl) (.cons (hs.ev rfl) .nil)) (grove_Leaf d ep ls1 n1 lv _ hls hlv hW i _ ⟨g0, v0, ps0, rfl, hps0, hs.has.pick (L' := groveL d ep g0 v0 ps0) (by simp only [groveL]; exact .cons_cons _ (.cons_cons _ (List.nil_sublist _)))⟩) rfl fun ac ww v83 hf hp hs => ?_
        obtain rfl := hp
        replace hs := hs [] (.nil _ _)
        refine s_q hs (c_move (hs.ev rfl)) rfl fun ac hs => ?_
        refine s_q hs (c_extract (hs.ev rfl) rfl) rfl fun ac hs => ?_
        refine s_q hs (c_extract (hs.ev rfl) rfl) rfl fun ac hs => ?_
        refine s_alloc hs ty54 rfl fun ac ww g13 hs => ?_
        refine s_storeW (i := 0) hs ty54 rfl rfl rfl (by rw [List.length_map, lfB_length hls]) (all_map_B _) rfl fun ww hs => ?_
        refine s_q hs (c_assign (hs.ev rfl)) rfl fun ac hs => ?_
        refine s_end ?_
        replace hs := hs.sub (F' := [(0, _), (1, _), (2, _), (3, _), (8, _), (10, _), (13, _), (14, _)]) ⟨rfl, rfl, rfl, rfl, rfl, rfl, rfl, rfl, trivial⟩
        refine then_n ?_
        refine wp_seq ?_
        refine wp_reg ?_
        refine s_q hs (c_move (hs.ev rfl)) rfl fun ac hs => ?_
        refine s_q hs (c_move (hs.ev rfl)) rfl fun ac hs => ?_
        refine s_call hs fu101 (.cons (hs.ev rfl) (.cons (hs.ev rfl) .nil)) (grove_Path d ep ls1 n1 lv _ hls hlv hW i _ ⟨g0, v0, ps0, rfl, hps0, hs.has.pick (L' := groveL d ep g0 v0 ps0) (by simp only [groveL]; exact .cons _ (.cons_cons _ (.cons_cons _ (List.nil_sublist _))))⟩) rfl fun ac ww v89 hf hp hs => ?_
        obtain ⟨L', ⟨tv1, rfl, rfl⟩, hh⟩ := hp
        replace hs := hs _ hh
        have hpl := pW_length (d := d) (ep := ep) (i := i) hls16 hW
        obtain ⟨pad, pcap, rfl, _, _⟩ := Rd.sl (Rd.of_row (hs.get (i := 0) rfl))
        refine s_q hs (c_move (hs.ev rfl)) rfl fun ac hs => ?_
        refine s_q hs (c_extract (hs.ev rfl) rfl) rfl fun ac hs => ?_
        refine s_q hs (c_extract (hs.ev rfl) rfl) rfl fun ac hs => ?_
        refine s_q hs (c_assign (hs.ev rfl)) rfl fun ac hs => ?_
        refine s_q hs (c_assign (hs.ev rfl)) rfl fun ac hs => ?_
        refine s_end ?_
        replace hs := hs.sub (F' := [(0, _), (1, _), (2, _), (3, _), (8, _), (13, _), (14, _), (15, _), (16, _)]) ⟨rfl, rfl, rfl, rfl, rfl, rfl, rfl, rfl, rfl, trivial⟩
        refine then_n ?_
        refine wp_seq ?_
        refine wp_seq ?_
        refine wp_reg ?_
        refine s_q hs (c_move (hs.ev rfl)) rfl fun ac hs => ?_
        refine s_q hs (c_lssI (hs.ev rfl) (hs.ev rfl)) rfl fun ac hs => ?_
        refine s_q hs (c_move (hs.ev rfl)) rfl fun ac hs => ?_
        refine s_g hs rfl rfl (fun hg => c_move (hs.ev rfl)) rfl fun ac hs => ?_
        refine s_g hs rfl rfl (fun hg => c_move (hs.ev rfl)) rfl fun ac hs => ?_
        refine s_g hs rfl rfl (fun hg => c_lenS un109 (gev (hs.ev rfl) hg)) rfl fun ac hs => ?_
        refine s_g hs rfl rfl (fun hg => c_geqI (gev (hs.ev rfl) hg) (gev (hs.ev rfl) hg)) rfl fun ac hs => ?_
        refine s_q hs (c_or (hs.ev rfl) (hs.ev rfl)) rfl fun ac hs => ?_
        refine s_end ?_
        replace hs := hs.sub (F' := [(0, _), (1, _), (2, _), (3, _), (8, _), (13, _), (14, _), (15, _), (16, _), (99, _)]) ⟨rfl, rfl, rfl, rfl, rfl, rfl, rfl, rfl, rfl, rfl, trivial⟩
        refine then_n ?_
        refine s_cond hs rfl (fun hc => ?_) (fun hc => ?_)
        · try simp only [decide_eq_true_eq, decide_eq_false_iff_not, Bool.not_eq_true', Bool.not_eq_false', Bool.and_eq_true, Bool.or_eq_true, Bool.or_eq_false_iff] at hc
          have hno : ¬ lfOk n1 i = true := lf_bad (by omega)
          refine wp_seq ?_
          refine wp_reg ?_
          refine s_q hs (c_move (hs.ev rfl)) rfl fun ac hs => ?_
          refine s_q hs (c_tt (c_eqlI (hs.ev rfl) (hs.ev rfl)) (by rw [lfE, if_neg hno]; rfl)) rfl fun ac hs => ?_
          refine s_q hs (c_move (hs.ev rfl)) rfl fun ac hs => ?_
          refine s_yes hs rfl rfl ?_
          refine s_q hs (c_move (hs.ev rfl)) rfl fun ac hs => ?_
          refine s_yes hs rfl rfl ?_
          refine s_q hs (c_tt (c_eqlI (hs.ev rfl) (hs.ev rfl)) (by rw [lfE, if_neg hno]; rfl)) rfl fun ac hs => ?_
          refine s_q hs (c_pick (hs.ev rfl) (hs.ev rfl) (hs.ev rfl)) rfl fun ac hs => ?_
          refine s_q hs (c_move (hs.ev rfl)) rfl fun ac hs => ?_
          refine s_yes hs rfl rfl ?_
          refine s_q hs (c_move (hs.ev rfl)) rfl fun ac hs => ?_
          refine s_yes hs rfl rfl ?_
          refine s_q hs (c_lenS un110 (hs.ev rfl)) rfl fun ac hs => ?_
          refine s_yes hs rfl rfl ?_
          refine s_q hs (c_tt (c_eqlI (hs.ev rfl) (hs.ev rfl)) (by rw [pN, if_neg hno]; rfl)) rfl fun ac hs => ?_
          refine s_q hs (c_pick (hs.ev rfl) (hs.ev rfl) (hs.ev rfl)) rfl fun ac hs => ?_
          refine s_q hs (c_assign (hs.ev rfl)) rfl fun ac hs => ?_
          refine s_end ?_
          replace hs := hs.sub (F' := [(0, _), (1, _), (2, _), (3, _), (8, _), (13, _), (14, _), (15, _), (16, _)]) ⟨rfl, rfl, rfl, rfl, rfl, rfl, rfl, rfl, rfl, trivial⟩
          refine then_n ?_
          refine wp_ret ?_
          refine then_r ?_
          refine s_ret hs rfl (.tmp (hs.tmp rfl) .nil) rfl ⟨_, rfl, hs.fr, ?_⟩
          rfl
        · try simp only [decide_eq_true_eq, decide_eq_false_iff_not, Bool.not_eq_true', Bool.not_eq_false', Bool.and_eq_true, Bool.or_eq_true, Bool.or_eq_false_iff] at hc
          have hok1 : lfOk n1 i = true := lf_good (by omega) (by omega)
          obtain ⟨q, rfl, hqn⟩ := lf_spec hok1
          rw [lfE, if_pos hok1] at hs
          rw [pW, if_pos hok1, Int.toNat_natCast, pN, if_pos hok1] at hs hpl
          rw [lfB, if_pos hok1, Int.toNat_natCast] at hs
          have hcl := chunk_l hls hqn
          refine wp_skip ?_
          refine then_n ?_
          refine wp_seq ?_
          obtain ⟨cb, co, cT, cf, call_, rfl, hcb, hcs⟩ := Rd.bytes_at (hq1.fr0 hs.fr) hls (by omega)
          refine wp_region_rg pmix 21 (by kernel_rfl) rfl hs ?_
          simp only [List.take_succ_cons, List.take_zero]
          refine rg_q (fun ac ww h => c_move (h.ev rfl)) rfl ?_
          refine rg_q (fun ac ww h => c_tt (c_eqlI (h.ev rfl) (h.ev rfl)) (by rfl)) rfl ?_
          refine rg_q (fun ac ww h => c_move (h.ev rfl)) rfl ?_
          refine rg_yes rfl rfl (fun ac ww h => c_move (h.ev rfl)) rfl ?_
          refine rg_yes rfl rfl (fun ac ww h => c_tt (c_eqlI (h.ev rfl) (h.ev rfl)) (by rfl)) rfl ?_
          refine rg_q (fun ac ww h => c_pick (h.ev rfl) (h.ev rfl) (h.ev rfl)) rfl ?_
          refine rg_q (fun ac ww h => c_move (h.ev rfl)) rfl ?_
          refine rg_yes rfl rfl (fun ac ww h => c_loadW ty54 rfl (h.ev rfl) (h.blk (hs.seg (i := 1) rfl)) (by rw [List.length_map, hcl])) rfl ?_
          refine rg_yes rfl rfl (fun ac ww h => c_move (h.ev rfl)) rfl ?_
          refine rg_yes rfl rfl (fun ac ww h => c_move (h.ev rfl)) rfl ?_
          refine rg_yes rfl rfl (fun ac ww h => c_idxS (j := q) un109 ty22 (h.ev rfl) (h.ev rfl) (by omega) (by omega)) rfl ?_
          refine rg_yes rfl rfl (fun ac ww h => c_loadA ty22 rfl (h.ev rfl) (h.blk hcb) (rdpiece hcs hls hqn) (by rw [List.length_map, hcl])) rfl ?_
          refine rg_yes rfl rfl (fun ac ww h => c_tt (c_eqlAB un54 ty5 eg54 (h.ev rfl) (h.ev rfl) hcl hcl) (by simp)) rfl ?_
          refine rg_q (fun ac ww h => c_pick (h.ev rfl) (h.ev rfl) (h.ev rfl)) rfl ?_
          refine rg_q (fun ac ww h => c_move (h.ev rfl)) rfl ?_
          refine rg_yes rfl rfl (fun ac ww h => c_move (h.ev rfl)) rfl ?_
          refine rg_strip rfl rfl ?_
          refine rg_callE (rowS' lv (gPath d ep ls1 q lv)) (fun _ _ _ _ _ h => h) fu103 (fun ac ww h => ?_) rfl ?_
          · exact ⟨_, .cons (h.ev rfl) .nil, law03_From lv (gPath d ep ls1 q lv) _ hpl (by omega) _ ((Rd.of_row (hs.get (i := 0) rfl)).fr0 h.fr)⟩
          refine rg_yes rfl rfl (fun ac ww h => c_move (h.ev rfl)) rfl ?_
          refine rg_yes rfl rfl (fun ac ww h => c_move (h.ev rfl)) rfl ?_
          refine rg_yes rfl rfl (fun ac ww h => c_move (h.ev rfl)) rfl ?_
          refine rg_yes rfl rfl (fun ac ww h => c_move (h.ev rfl)) rfl ?_
          refine rg_nil fun ac ww L' hf hfe hs => ?_
          simp only [List.drop_succ_cons, List.drop_zero]
          obtain ⟨v127, L127, M127, h127, e127, rfl, rfl⟩ := hfe
          replace hs := hs.add h127
          obtain rfl := e127
          refine s_yes hs rfl rfl ?_
          refine s_call hs fu104 (.cons (hs.ev rfl) (.cons (hs.ev rfl) (.cons (hs.ev rfl) (.cons (hs.ev rfl) .nil)))) (ref07_Path d ep ls1 n1 lv q _ hls hlv hW hxl hqn _ (hq1.fr0 hs.fr)) rfl fun ac ww v132 hf hp hs => ?_
          obtain ⟨L', hv, hh⟩ := hp
          subst hv
          replace hs := hs _ hh
          refine s_yes hs rfl rfl ?_
          refine s_call hs fu102 (.cons (hs.ev rfl) (.cons (hs.ev rfl) .nil)) (ref03_SameSums lv lv (gPath d ep ls1 q lv) (gPath d ep ls1 q lv) _ _ hpl hpl _ (Rd.of_row (hs.get (i := 1) rfl)) (Rd.of_row (hs.get (i := 0) rfl))) rfl fun ac ww v133 hf hp hs => ?_
          rw [decide_eq_true rfl] at hp
          obtain rfl := hp
          replace hs := hs [] (.nil _ _)
          refine s_q hs (c_pick (hs.ev rfl) (hs.ev rfl) (hs.ev rfl)) rfl fun ac hs => ?_
          refine s_q hs (c_assign (hs.ev rfl)) rfl fun ac hs => ?_
          refine s_end ?_
          replace hs := hs.sub (F' := [(8, _)]) ⟨rfl, trivial⟩
          refine then_n ?_
          refine wp_ret ?_
          refine s_ret hs rfl (.tmp (hs.tmp rfl) .nil) rfl ⟨_, rfl, hs.fr, ?_⟩
          rfl
  · try simp only [decide_eq_true_eq, decide_eq_false_iff_not, Bool.not_eq_true', Bool.not_eq_false', Bool.and_eq_true, Bool.or_eq_true, Bool.or_eq_false_iff] at hc
    obtain ⟨n1, ls1, hn1, hn1l, hls, hq1⟩ : ∃ (n1 : Nat) (ls1 : List UInt8), n1 = n ∧ n1 ≤ 70 ∧ ls1.length = n1 * 16 ∧ Rd w (.slice wad n1 wcap) n1 (ls1.map B) := ⟨n, ws, rfl, by omega, hwl, hqw⟩
    subst hn1
    refine wp_skip ?_
    refine then_n ?_
    refine wp_seq ?_
    refine wp_reg ?_
    refine s_q hs (c_move (hs.ev rfl)) rfl fun ac hs => ?_
    refine s_call hs fu93 (.cons (hs.ev rfl) .nil) (law03_To n1 ls1 _ hls (by omega) _ (hq1.fr0 hs.fr)) rfl fun ac ww v23 hf hp hs => ?_
    obtain ⟨L', hv, hh⟩ := hp
    subst hv
    replace hs := hs _ hh
    obtain ⟨tad, tcap, rfl, _, _⟩ := Rd.sl (Rd.of_row (hs.get (i := 0) rfl))
    refine s_q hs (c_assign (hs.ev rfl)) rfl fun ac hs => ?_
    refine s_end ?_
    replace hs := hs.sub (F' := [(0, _), (1, _), (2, _), (3, _), (8, _), (9, _)]) ⟨rfl, rfl, rfl, rfl, rfl, rfl, trivial⟩
    refine then_n ?_
    refine wp_seq ?_
    refine wp_reg ?_
    refine s_q hs (c_move (hs.ev rfl)) rfl fun ac hs => ?_
    refine s_q hs (c_move (hs.ev rfl)) rfl fun ac hs => ?_
    refine s_q hs (c_move (hs.ev rfl)) rfl fun ac hs => ?_
    rcases height_lv (n := (n1 : Int)) with ⟨hxl, hno⟩ | ⟨lv, W, hlv, hW, hWn, hxl⟩
    · refine s_call hs fu94 (.cons (hs.ev rfl) (.cons (hs.ev rfl) (.cons (hs.ev rfl) .nil))) (grove_NewBad d ep n1 ls1 _ hxl _ (Rd.of_row (hs.get (i := 0) rfl))) rfl fun ac ww v28 hf hp hs => ?_
      obtain rfl := hp
      replace hs := hs [] (.nil _ _)
      refine s_q hs (c_move (hs.ev rfl)) rfl fun ac hs => ?_
      refine s_q hs (c_extract (hs.ev rfl) rfl) rfl fun ac hs => ?_
      refine s_q hs (c_extract (hs.ev rfl) rfl) rfl fun ac hs => ?_
      refine s_q hs (c_assign (hs.ev rfl)) rfl fun ac hs => ?_
      refine s_q hs (c_assign (hs.ev rfl)) rfl fun ac hs => ?_
      refine s_end ?_
      replace hs := hs.sub (F' := [(0, _), (1, _), (2, _), (3, _), (8, _), (9, _), (10, _), (11, _)]) ⟨rfl, rfl, rfl, rfl, rfl, rfl, rfl, rfl, trivial⟩
      refine then_n ?_
      refine wp_seq ?_
      refine wp_seq ?_
      refine wp_reg ?_
      refine s_q hs (c_move (hs.ev rfl)) rfl fun ac hs => ?_
      refine s_q hs (c_lenS un110 (hs.ev rfl)) rfl fun ac hs => ?_
      refine s_q hs (c_move (hs.ev rfl)) rfl fun ac hs => ?_
      refine s_end ?_
      replace hs := hs.sub (F' := [(0, _), (1, _), (2, _), (3, _), (8, _), (9, _), (10, _), (11, _), (32, _), (33, _)]) ⟨rfl, rfl, rfl, rfl, rfl, rfl, rfl, rfl, rfl, rfl, trivial⟩
      refine then_n ?_
      refine wp_block ?_
      refine s_loop hs (X := Nat × List Value) (fun x => [(33, I x.1)]) [(0, _), (1, _), (2, _), (3, _), (8, _), (9, _), (10, _), (11, _), (32, _)] (fun x => [.row (.slice tad n1 tcap) n1 x.2 54 16]) (fun j x => x.1 ≤ n1 ∧ j = n1 - x.1) (_) ((0, _)) (⟨Nat.zero_le _, rfl⟩) ⟨rfl, rfl, rfl, rfl, rfl, rfl, rfl, rfl, rfl, rfl, trivial⟩ rfl ?_
      rintro n ⟨q, zs⟩ ac ww hok hs
      simp only [List.cons_append, List.nil_append] at hs
      obtain ⟨hq, rfl⟩ := hok
      simp only at hq hs
      refine wp_seq ?_
      refine wp_reg ?_
      refine s_q hs (c_lssI (hs.ev rfl) (hs.ev rfl)) rfl fun ac hs => ?_
      refine s_end ?_
      refine then_n ?_
      refine wp_seq ?_
      refine s_cond hs rfl (fun hc => ?_) (fun hc => ?_)
      · try simp only [decide_eq_true_eq, decide_eq_false_iff_not, Bool.not_eq_true', Bool.not_eq_false', Bool.and_eq_true, Bool.or_eq_true, Bool.or_eq_false_iff] at hc
        have hqn : q < n1 := by omega
        obtain ⟨tg, tcap2, tcur, htv, htg, _⟩ := owns_at (hs.get (i := 0) rfl) (by omega)
        cases htv
        refine wp_skip ?_
        refine then_n ?_
        refine wp_seq ?_
        refine wp_block ?_
        refine wp_seq ?_
        refine wp_reg ?_
        refine s_q hs (c_move (hs.ev rfl)) rfl fun ac hs => ?_
        refine s_q hs (c_assign (hs.ev rfl)) rfl fun ac hs => ?_
        refine s_end ?_
        refine then_n ?_
        refine wp_reg ?_
        refine s_q hs (c_move (hs.ev rfl)) rfl fun ac hs => ?_
        refine s_q hs (c_move (hs.ev rfl)) rfl fun ac hs => ?_
        refine s_q hs (c_buildA ty54 un54 ty5 (zc := (List.replicate 16 (0 : UInt8)).map B) (vs := []) .nil (by simp) (by simp [flatCells]) rfl) rfl fun ac hs => ?_
        refine s_q hs (c_idxS (j := q) un110 ty54 (hs.ev rfl) (hs.ev rfl) (by omega) (by omega)) rfl fun ac hs => ?_
        refine s_storeRk (i := 0) (j := q) hs ty54 rfl (by omega) rfl rfl (by rfl) (all_map_B _) rfl (by omega) fun ww xs2 hs => ?_
        refine s_end ?_
        refine blk_n ?_
        refine then_n ?_
        refine wp_reg ?_
        refine s_q hs (c_addI (hs.ev rfl) (hs.ev rfl) (by omega) (by omega)) rfl fun ac hs => ?_
        refine s_q hs (c_move (hs.ev rfl)) rfl fun ac hs => ?_
        refine s_end ?_
        refine then_n ?_
        exact ⟨n1 - (q + 1), by (try simp only); omega, (q + 1, xs2), ⟨by (try simp only); omega, rfl⟩, St.next hs ⟨rfl, rfl, rfl, rfl, rfl, rfl, rfl, rfl, rfl, rfl, trivial⟩ rfl⟩
      · try simp only [decide_eq_true_eq, decide_eq_false_iff_not, Bool.not_eq_true', Bool.not_eq_false', Bool.and_eq_true, Bool.or_eq_true, Bool.or_eq_false_iff] at hc
        refine wp_exit ?_
        refine then_e ?_
        refine then_e ?_
        refine blk_hit ?_
        refine then_n ?_
        refine wp_seq ?_
        refine wp_seq ?_
        refine wp_reg ?_
        refine s_q hs (c_move (hs.ev rfl)) rfl fun ac hs => ?_
        refine s_q hs (c_lenS un109 (hs.ev rfl)) rfl fun ac hs => ?_
        refine s_call hs fu95 (.cons (hs.ev rfl) .nil) (grove_Height (n1 : Int) _) rfl fun ac ww v43 hf hp hs => ?_
        obtain rfl := hp
        replace hs := hs [] (.nil _ _)
        refine s_q hs (c_move (hs.ev rfl)) rfl fun ac hs => ?_
        refine s_q hs (c_lenS un109 (hs.ev rfl)) rfl fun ac hs => ?_
        refine s_call hs fu96 (.cons (hs.ev rfl) .nil) (ref07_Height (n1 : Int) _) rfl fun ac ww v46 hf hp hs => ?_
        obtain rfl := hp
        replace hs := hs [] (.nil _ _)
        refine s_q hs (c_ff (c_neqI (hs.ev rfl) (hs.ev rfl)) (by simp)) rfl fun ac hs => ?_
        refine s_end ?_
        replace hs := hs.sub (F' := [(0, _), (1, _), (2, _), (3, _), (8, _), (10, _), (11, _), (47, _)]) ⟨rfl, rfl, rfl, rfl, rfl, rfl, rfl, rfl, trivial⟩
        refine then_n ?_
        refine wp_cond_false (hs.ev rfl) ?_
        refine wp_skip ?_
        refine then_n ?_
        refine wp_seq ?_
        refine wp_seq ?_
        refine wp_reg ?_
        refine s_q hs (c_move (hs.ev rfl)) rfl fun ac hs => ?_
        refine s_q hs (c_lenS un109 (hs.ev rfl)) rfl fun ac hs => ?_
        refine s_call hs fu96 (.cons (hs.ev rfl) .nil) (ref07_Height (n1 : Int) _) rfl fun ac ww v50 hf hp hs => ?_
        obtain rfl := hp
        replace hs := hs [] (.nil _ _)
        refine s_q hs (c_tt (c_lssI (hs.ev rfl) (hs.ev rfl)) (by rw [hxl]; rfl)) rfl fun ac hs => ?_
        refine s_end ?_
        replace hs := hs.sub (F' := [(0, _), (1, _), (2, _), (3, _), (8, _), (10, _), (11, _), (51, _)]) ⟨rfl, rfl, rfl, rfl, rfl, rfl, rfl, rfl, trivial⟩
        refine then_n ?_
        refine wp_cond_true (hs.ev rfl) ?_
        refine wp_seq ?_
        refine wp_reg ?_
        refine s_call hs fu97 .nil (law07_awake _) rfl fun ac ww v52 hf hp hs => ?_
        obtain rfl := hp
        replace hs := hs [] (.nil _ _)
        refine s_q hs (c_move (hs.ev rfl)) rfl fun ac hs => ?_
        refine s_yes hs rfl rfl ?_
        refine s_q hs (c_move (hs.ev rfl)) rfl fun ac hs => ?_
        refine s_yes hs rfl rfl ?_
        refine s_q hs (c_eqlNil0 un112 (hs.ev rfl) (hs.ev rfl)) rfl fun ac hs => ?_
        refine s_q hs (c_pick (hs.ev rfl) (hs.ev rfl) (hs.ev rfl)) rfl fun ac hs => ?_
        refine s_q hs (c_move (hs.ev rfl)) rfl fun ac hs => ?_
        refine s_yes hs rfl rfl ?_
        refine s_q hs (c_move (hs.ev rfl)) rfl fun ac hs => ?_
        refine s_yes hs rfl rfl ?_
        refine s_q hs (c_tt (c_eqlI (hs.ev rfl) (hs.ev rfl)) (by rfl)) rfl fun ac hs => ?_
        refine s_q hs (c_pick (hs.ev rfl) (hs.ev rfl) (hs.ev rfl)) rfl fun ac hs => ?_
        refine s_q hs (c_assign (hs.ev rfl)) rfl fun ac hs => ?_
        refine s_end ?_
        replace hs := hs.sub (F' := [(0, _), (1, _), (2, _), (3, _), (8, _), (10, _), (11, _)]) ⟨rfl, rfl, rfl, rfl, rfl, rfl, rfl, trivial⟩
        refine then_n ?_
        refine wp_ret ?_
        refine then_r ?_
        refine s_ret hs rfl (.tmp (hs.tmp rfl) .nil) rfl ⟨_, rfl, hs.fr, ?_⟩
        rfl
    · obtain rfl : n1 = W := by omega
      have hls16 : ls1.length = 16 * n1 := by omega
      have hls2 : ls1.length = 16 * 2 ^ lv := by rw [← hW]; exact hls16
      refine s_call hs fu94 (.cons (hs.ev rfl) (.cons (hs.ev rfl) (.cons (hs.ev rfl) .nil))) (grove_New d ep ls1 n1 lv _ hls hlv hW hxl _ (Rd.of_row (hs.get (i := 0) rfl))) rfl fun ac ww v28 hf hp hs => ?_
      obtain ⟨L', ⟨tv, rfl, g0, v0, ps0, rfl, hps0, rfl⟩, hh⟩ := hp
      replace hs := hs _ hh
      refine s_q hs (c_move (hs.ev rfl)) rfl fun ac hs => ?_
      refine s_q hs (c_extract (hs.ev rfl) rfl) rfl fun ac hs => ?_
      refine s_q hs (c_extract (hs.ev rfl) rfl) rfl fun ac hs => ?_
      refine s_q hs (c_assign (hs.ev rfl)) rfl fun ac hs => ?_
      refine s_q hs (c_assign (hs.ev rfl)) rfl fun ac hs => ?_
      refine s_end ?_
      replace hs := hs.sub (F' := [(0, _), (1, _), (2, _), (3, _), (8, _), (9, _), (10, _), (11, _)]) ⟨rfl, rfl, rfl, rfl, rfl, rfl, rfl, rfl, trivial⟩
      refine then_n ?_
      refine wp_seq ?_
      refine wp_seq ?_
      refine wp_reg ?_
      refine s_q hs (c_move (hs.ev rfl)) rfl fun ac hs => ?_
      refine s_q hs (c_lenS un110 (hs.ev rfl)) rfl fun ac hs => ?_
      refine s_q hs (c_move (hs.ev rfl)) rfl fun ac hs => ?_
      refine s_end ?_
      replace hs := hs.sub (F' := [(0, _), (1, _), (2, _), (3, _), (8, _), (9, _), (10, _), (11, _), (32, _), (33, _)]) ⟨rfl, rfl, rfl, rfl, rfl, rfl, rfl, rfl, rfl, rfl, trivial⟩
      refine then_n ?_
      refine wp_block ?_
      refine s_loop hs (X := Nat × List Value) (fun x => [(33, I x.1)]) [(0, _), (1, _), (2, _), (3, _), (8, _), (9, _), (10, _), (11, _), (32, _)] (fun x => [_, _, .row (.slice tad n1 tcap) n1 x.2 54 16]) (fun j x => x.1 ≤ n1 ∧ j = n1 - x.1) (_) ((0, _)) (⟨Nat.zero_le _, rfl⟩) ⟨rfl, rfl, rfl, rfl, rfl, rfl, rfl, rfl, rfl, rfl, trivial⟩ rfl ?_
      rintro n ⟨q, zs⟩ ac ww hok hs
      simp only [List.cons_append, List.nil_append] at hs
      obtain ⟨hq, rfl⟩ := hok
      simp only at hq hs
      refine wp_seq ?_
      refine wp_reg ?_
      refine s_q hs (c_lssI (hs.ev rfl) (hs.ev rfl)) rfl fun ac hs => ?_
      refine s_end ?_
      refine then_n ?_
      refine wp_seq ?_
      refine s_cond hs rfl (fun hc => ?_) (fun hc => ?_)
      · try simp only [decide_eq_true_eq, decide_eq_false_iff_not, Bool.not_eq_true', Bool.not_eq_false', Bool.and_eq_true, Bool.or_eq_true, Bool.or_eq_false_iff] at hc
        have hqn : q < n1 := by omega
        obtain ⟨tg, tcap2, tcur, htv, htg, _⟩ := owns_at (hs.get (i := 2) rfl) (by omega)
        cases htv
        refine wp_skip ?_
        refine then_n ?_
        refine wp_seq ?_
        refine wp_block ?_
        refine wp_seq ?_
        refine wp_reg ?_
        refine s_q hs (c_move (hs.ev rfl)) rfl fun ac hs => ?_
        refine s_q hs (c_assign (hs.ev rfl)) rfl fun ac hs => ?_
        refine s_end ?_
        refine then_n ?_
        refine wp_reg ?_
        refine s_q hs (c_move (hs.ev rfl)) rfl fun ac hs => ?_
        refine s_q hs (c_move (hs.ev rfl)) rfl fun ac hs => ?_
        refine s_q hs (c_buildA ty54 un54 ty5 (zc := (List.replicate 16 (0 : UInt8)).map B) (vs := []) .nil (by simp) (by simp [flatCells]) rfl) rfl fun ac hs => ?_
        refine s_q hs (c_idxS (j := q) un110 ty54 (hs.ev rfl) (hs.ev rfl) (by omega) (by omega)) rfl fun ac hs => ?_
        refine s_storeRk (i := 2) (j := q) hs ty54 rfl (by omega) rfl rfl (by rfl) (all_map_B _) rfl (by omega) fun ww xs2 hs => ?_
        refine s_end ?_
        refine blk_n ?_
        refine then_n ?_
        refine wp_reg ?_
        refine s_q hs (c_addI (hs.ev rfl) (hs.ev rfl) (by omega) (by omega)) rfl fun ac hs => ?_
        refine s_q hs (c_move (hs.ev rfl)) rfl fun ac hs => ?_
        refine s_end ?_
        refine then_n ?_
        exact ⟨n1 - (q + 1), by (try simp only); omega, (q + 1, xs2), ⟨by (try simp only); omega, rfl⟩, St.next hs ⟨rfl, rfl, rfl, rfl, rfl, rfl, rfl, rfl, rfl, rfl, trivial⟩ rfl⟩
      · try simp only [decide_eq_true_eq, decide_eq_false_iff_not, Bool.not_eq_true', Bool.not_eq_false', Bool.and_eq_true, Bool.or_eq_true, Bool.or_eq_false_iff] at hc
        refine wp_exit ?_
        refine then_e ?_
        refine then_e ?_
        refine blk_hit ?_
        refine then_n ?_
        refine wp_seq ?_
        refine wp_seq ?_
        refine wp_reg ?_
        refine s_q hs (c_move (hs.ev rfl)) rfl fun ac hs => ?_
        refine s_q hs (c_lenS un109 (hs.ev rfl)) rfl fun ac hs => ?_
        refine s_call hs fu95 (.cons (hs.ev rfl) .nil) (grove_Height (n1 : Int) _) rfl fun ac ww v43 hf hp hs => ?_
        obtain rfl := hp
        replace hs := hs [] (.nil _ _)
        refine s_q hs (c_move (hs.ev rfl)) rfl fun ac hs => ?_
        refine s_q hs (c_lenS un109 (hs.ev rfl)) rfl fun ac hs => ?_
        refine s_call hs fu96 (.cons (hs.ev rfl) .nil) (ref07_Height (n1 : Int) _) rfl fun ac ww v46 hf hp hs => ?_
        obtain rfl := hp
        replace hs := hs [] (.nil _ _)
        refine s_q hs (c_ff (c_neqI (hs.ev rfl) (hs.ev rfl)) (by simp)) rfl fun ac hs => ?_
        refine s_end ?_
        replace hs := hs.sub (F' := [(0, _), (1, _), (2, _), (3, _), (8, _), (10, _), (11, _), (47, _)]) ⟨rfl, rfl, rfl, rfl, rfl, rfl, rfl, rfl, trivial⟩
        refine then_n ?_
        refine wp_cond_false (hs.ev rfl) ?_
        refine wp_skip ?_
        refine then_n ?_
        refine wp_seq ?_
        refine wp_seq ?_
        refine wp_reg ?_
        refine s_q hs (c_move (hs.ev rfl)) rfl fun ac hs => ?_
        refine s_q hs (c_lenS un109 (hs.ev rfl)) rfl fun ac hs => ?_
        refine s_call hs fu96 (.cons (hs.ev rfl) .nil) (ref07_Height (n1 : Int) _) rfl fun ac ww v50 hf hp hs => ?_
        obtain rfl := hp
        replace hs := hs [] (.nil _ _)
        refine s_q hs (c_ff (c_lssI (hs.ev rfl) (hs.ev rfl)) (by rw [hxl]; simp)) rfl fun ac hs => ?_
        refine s_end ?_
        replace hs := hs.sub (F' := [(0, _), (1, _), (2, _), (3, _), (8, _), (10, _), (11, _), (51, _)]) ⟨rfl, rfl, rfl, rfl, rfl, rfl, rfl, rfl, trivial⟩
        refine then_n ?_
        refine wp_cond_false (hs.ev rfl) ?_
        refine wp_skip ?_
        refine then_n ?_
        refine wp_seq ?_
        refine wp_seq ?_
        refine wp_reg ?_
        refine s_call hs fu97 .nil (law07_awake _) rfl fun ac ww v61 hf hp hs => ?_
        obtain rfl := hp
        replace hs := hs [] (.nil _ _)
        refine s_q hs (c_ff (c_not (hs.ev rfl)) (by rfl)) rfl fun ac hs => ?_
        refine s_q hs (c_move (hs.ev rfl)) rfl fun ac hs => ?_
        refine s_yes hs rfl rfl ?_
        refine s_q hs (c_move (hs.ev rfl)) rfl fun ac hs => ?_
        refine s_yes hs rfl rfl ?_
        refine s_q hs (c_ff (c_eqlNil un112 (hs.ev rfl) (hs.ev rfl)) (by rfl)) rfl fun ac hs => ?_
        refine s_q hs (c_pick (hs.ev rfl) (hs.ev rfl) (hs.ev rfl)) rfl fun ac hs => ?_
        refine s_q hs (c_move (hs.ev rfl)) rfl fun ac hs => ?_
        refine s_yes hs rfl rfl ?_
        refine s_q hs (c_move (hs.ev rfl)) rfl fun ac hs => ?_
        refine s_yes hs rfl rfl ?_
        refine s_q hs (c_ff (c_neqI (hs.ev rfl) (hs.ev rfl)) (by rfl)) rfl fun ac hs => ?_
        refine s_q hs (c_pick (hs.ev rfl) (hs.ev rfl) (hs.ev rfl)) rfl fun ac hs => ?_
        refine s_q hs (c_move (hs.ev rfl)) rfl fun ac hs => ?_
        refine s_yes hs rfl rfl ?_
        refine s_q hs (c_move (hs.ev rfl)) rfl fun ac hs => ?_
        refine s_yes hs rfl rfl ?_
        refine s_call hs fu98 (.cons (hs.ev rfl) .nil) (grove_Root d ep ls1 n1 lv _ hls hlv hW _ ⟨g0, v0, ps0, rfl, hps0, hs.has.pick (L' := groveL d ep g0 v0 ps0) (by simp only [groveL]; exact .cons_cons _ (.cons_cons _ (List.nil_sublist _)))⟩) rfl fun ac ww v73 hf hp hs => ?_
        obtain rfl := hp
        replace hs := hs [] (.nil _ _)
        refine s_yes hs rfl rfl ?_
        refine s_q hs (c_move (hs.ev rfl)) rfl fun ac hs => ?_
        refine s_yes hs rfl rfl ?_
        refine s_q hs (c_move (hs.ev rfl)) rfl fun ac hs => ?_
        refine s_yes hs rfl rfl ?_
        refine s_q hs (c_move (hs.ev rfl)) rfl fun ac hs => ?_
        refine s_yes hs rfl rfl ?_
        refine s_call hs fu99 (.cons (hs.ev rfl) (.cons (hs.ev rfl) (.cons (hs.ev rfl) .nil))) (ref07_Root d ep ls1 n1 lv _ hls hlv hW hxl _ (hq1.fr0 hs.fr)) rfl fun ac ww v77 hf hp hs => ?_
        obtain rfl := hp
        replace hs := hs [] (.nil _ _)
        have hrl : (gNode d ep ls1 lv 0).length = 16 := gNode_length hls16 lv 0 (by rw [hW]; omega)
        refine s_yes hs rfl rfl ?_
        refine s_q hs (c_ff (c_neqAB un54 ty5 eg54 (hs.ev rfl) (hs.ev rfl) hrl hrl) (by simp)) rfl fun ac hs => ?_
        refine s_q hs (c_pick (hs.ev rfl) (hs.ev rfl) (hs.ev rfl)) rfl fun ac hs => ?_
        refine s_end ?_
        replace hs := hs.sub (F' := [(0, _), (1, _), (2, _), (3, _), (8, _), (10, _), (79, _)]) ⟨rfl, rfl, rfl, rfl, rfl, rfl, rfl, trivial⟩
        refine then_n ?_
        refine wp_cond_false (hs.ev rfl) ?_
        refine wp_skip ?_
        refine then_n ?_
        refine wp_seq ?_
        refine wp_reg ?_
        refine s_q hs (c_move (hs.ev rfl)) rfl fun ac hs => ?_
        refine s_q hs (c_move (hs.ev rfl)) rfl fun ac hs => ?_
        refine s_call hs fu100 (.cons (hs.ev rfl) (.cons (hs.ev rfl) .nil)) (grove_Leaf d ep ls1 n1 lv _ hls hlv hW i _ ⟨g0, v0, ps0, rfl, hps0, hs.has.pick (L' := groveL d ep g0 v0 ps0) (by simp only [groveL]; exact .cons_cons _ (.cons_cons _ (List.nil_sublist _)))⟩) rfl fun ac ww v83 hf hp hs => ?_
        obtain rfl := hp
        replace hs := hs [] (.nil _ _)
        refine s_q hs (c_move (hs.ev rfl)) rfl fun ac hs => ?_
        refine s_q hs (c_extract (hs.ev rfl) rfl) rfl fun ac hs => ?_
        refine s_q hs (c_extract (hs.ev rfl) rfl) rfl fun ac hs => ?_
        refine s_alloc hs ty54 rfl fun ac ww g13 hs => ?_
        refine s_storeW (i := 0) hs ty54 rfl rfl rfl (by rw [List.length_map, lfB_length hls]) (all_map_B _) rfl fun ww hs => ?_
        refine s_q hs (c_assign (hs.ev rfl)) rfl fun ac hs => ?_
        refine s_end ?_
        replace hs := hs.sub (F' := [(0, _), (1, _), (2, _), (3, _), (8, _), (10, _), (13, _), (14, _)]) ⟨rfl, rfl, rfl, rfl, rfl, rfl, rfl, rfl, trivial⟩
        refine then_n ?_
        refine wp_seq ?_
        refine wp_reg ?_
        refine s_q hs (c_move (hs.ev rfl)) rfl fun ac hs => ?_
        refine s_q hs (c_move (hs.ev rfl)) rfl fun ac hs => ?_
        refine s_call hs fu101 (.cons (hs.ev rfl) (.cons (hs.ev rfl) .nil)) (grove_Path d ep ls1 n1 lv _ hls hlv hW i _ ⟨g0, v0, ps0, rfl, hps0, hs.has.pick (L' := groveL d ep g0 v0 ps0) (by simp only [groveL]; exact .cons _ (.cons_cons _ (.cons_cons _ (List.nil_sublist _))))⟩) rfl fun ac ww v89 hf hp hs => ?_
        obtain ⟨L', ⟨tv1, rfl, rfl⟩, hh⟩ := hp
        replace hs := hs _ hh
        have hpl := pW_length (d := d) (ep := ep) (i := i) hls16 hW
        obtain ⟨pad, pcap, rfl, _, _⟩ := Rd.sl (Rd.of_row (hs.get (i := 0) rfl))
        refine s_q hs (c_move (hs.ev rfl)) rfl fun ac hs => ?_
        refine s_q hs (c_extract (hs.ev rfl) rfl) rfl fun ac hs => ?_
        refine s_q hs (c_extract (hs.ev rfl) rfl) rfl fun ac hs => ?_
        refine s_q hs (c_assign (hs.ev rfl)) rfl fun ac hs => ?_
        refine s_q hs (c_assign (hs.ev rfl)) rfl fun ac hs => ?_
        refine s_end ?_
        replace hs := hs.sub (F' := [(0, _), (1, _), (2, _), (3, _), (8, _), (13, _), (14, _), (15, _), (16, _)]) ⟨rfl, rfl, rfl, rfl, rfl, rfl, rfl, rfl, rfl, trivial⟩
        refine then_n ?_
        refine wp_seq ?_
        refine wp_seq ?_
        refine wp_reg ?_
        refine s_q hs (c_move (hs.ev rfl)) rfl fun ac hs => ?_
        refine s_q hs (c_lssI (hs.ev rfl) (hs.ev rfl)) rfl fun ac hs => ?_
        refine s_q hs (c_move (hs.ev rfl)) rfl fun ac hs => ?_
        refine s_g hs rfl rfl (fun hg => c_move (hs.ev rfl)) rfl fun ac hs => ?_
        refine s_g hs rfl rfl (fun hg => c_move (hs.ev rfl)) rfl fun ac hs => ?_
        refine s_g hs rfl rfl (fun hg => c_lenS un109 (gev (hs.ev rfl) hg)) rfl fun ac hs => ?_
        refine s_g hs rfl rfl (fun hg => c_geqI (gev (hs.ev rfl) hg) (gev (hs.ev rfl) hg)) rfl fun ac hs => ?_
        refine s_q hs (c_or (hs.ev rfl) (hs.ev rfl)) rfl fun ac hs => ?_
        refine s_end ?_
        replace hs := hs.sub (F' := [(0, _), (1, _), (2, _), (3, _), (8, _), (13, _), (14, _), (15, _), (16, _), (99, _)]) ⟨rfl, rfl, rfl, rfl, rfl, rfl, rfl, rfl, rfl, rfl, trivial⟩
        refine then_n ?_
        refine s_cond hs rfl (fun hc => ?_) (fun hc => ?_)
        · try simp only [decide_eq_true_eq, decide_eq_false_iff_not, Bool.not_eq_true', Bool.not_eq_false', Bool.and_eq_true, Bool.or_eq_true, Bool.or_eq_false_iff] at hc
          have hno : ¬ lfOk n1 i = true := lf_bad (by omega)
          refine wp_seq ?_
          refine wp_reg ?_
          refine s_q hs (c_move (hs.ev rfl)) rfl fun ac hs => ?_
          refine s_q hs (c_tt (c_eqlI (hs.ev rfl) (hs.ev rfl)) (by rw [lfE, if_neg hno]; rfl)) rfl fun ac hs => ?_
          refine s_q hs (c_move (hs.ev rfl)) rfl fun ac hs => ?_
          refine s_yes hs rfl rfl ?_
          refine s_q hs (c_move (hs.ev rfl)) rfl fun ac hs => ?_
          refine s_yes hs rfl rfl ?_
          refine s_q hs (c_tt (c_eqlI (hs.ev rfl) (hs.ev rfl)) (by rw [lfE, if_neg hno]; rfl)) rfl fun ac hs => ?_
          refine s_q hs (c_pick (hs.ev rfl) (hs.ev rfl) (hs.ev rfl)) rfl fun ac hs => ?_
          refine s_q hs (c_move (hs.ev rfl)) rfl fun ac hs => ?_
          refine s_yes hs rfl rfl ?_
          refine s_q hs (c_move (hs.ev rfl)) rfl fun ac hs => ?_
          refine s_yes hs rfl rfl ?_
          refine s_q hs (c_lenS un110 (hs.ev rfl)) rfl fun ac hs => ?_
          refine s_yes hs rfl rfl ?_
          refine s_q hs (c_tt (c_eqlI (hs.ev rfl) (hs.ev rfl)) (by rw [pN, if_neg hno]; rfl)) rfl fun ac hs => ?_
          refine s_q hs (c_pick (hs.ev rfl) (hs.ev rfl) (hs.ev rfl)) rfl fun ac hs => ?_
          refine s_q hs (c_assign (hs.ev rfl)) rfl fun ac hs => ?_
          refine s_end ?_
          replace hs := hs.sub (F' := [(0, _), (1, _), (2, _), (3, _), (8, _), (13, _), (14, _), (15, _), (16, _)]) ⟨rfl, rfl, rfl, rfl, rfl, rfl, rfl, rfl, rfl, trivial⟩
          refine then_n ?_
          refine wp_ret ?_
          refine then_r ?_
          refine s_ret hs rfl (.tmp (hs.tmp rfl) .nil) rfl ⟨_, rfl, hs.fr, ?_⟩
          rfl
        · try simp only [decide_eq_true_eq, decide_eq_false_iff_not, Bool.not_eq_true', Bool.not_eq_false', Bool.and_eq_true, Bool.or_eq_true, Bool.or_eq_false_iff] at hc
          have hok1 : lfOk n1 i = true := lf_good (by omega) (by omega)
          obtain ⟨q, rfl, hqn⟩ := lf_spec hok1
          rw [lfE, if_pos hok1] at hs
          rw [pW, if_pos hok1, Int.toNat_natCast, pN, if_pos hok1] at hs hpl
          rw [lfB, if_pos hok1, Int.toNat_natCast] at hs
          have hcl := chunk_l hls hqn
          refine wp_skip ?_
          refine then_n ?_
          refine wp_seq ?_
          obtain ⟨cb, co, cT, cf, call_, rfl, hcb, hcs⟩ := Rd.bytes_at (hq1.fr0 hs.fr) hls (by omega)
          refine wp_region_rg pmix 21 (by kernel_rfl) rfl hs ?_
          simp only [List.take_succ_cons, List.take_zero]
          refine rg_q (fun ac ww h => c_move (h.ev rfl)) rfl ?_
          refine rg_q (fun ac ww h => c_tt (c_eqlI (h.ev rfl) (h.ev rfl)) (by rfl)) rfl ?_
          refine rg_q (fun ac ww h => c_move (h.ev rfl)) rfl ?_
          refine rg_yes rfl rfl (fun ac ww h => c_move (h.ev rfl)) rfl ?_
          refine rg_yes rfl rfl (fun ac ww h => c_tt (c_eqlI (h.ev rfl) (h.ev rfl)) (by rfl)) rfl ?_
          refine rg_q (fun ac ww h => c_pick (h.ev rfl) (h.ev rfl) (h.ev rfl)) rfl ?_
          refine rg_q (fun ac ww h => c_move (h.ev rfl)) rfl ?_
          refine rg_yes rfl rfl (fun ac ww h => c_loadW ty54 rfl (h.ev rfl) (h.blk (hs.seg (i := 1) rfl)) (by rw [List.length_map, hcl])) rfl ?_
          refine rg_yes rfl rfl (fun ac ww h => c_move (h.ev rfl)) rfl ?_
          refine rg_yes rfl rfl (fun ac ww h => c_move (h.ev rfl)) rfl ?_
          refine rg_yes rfl rfl (fun ac ww h => c_idxS (j := q) un109 ty22 (h.ev rfl) (h.ev rfl) (by omega) (by omega)) rfl ?_
          refine rg_yes rfl rfl (fun ac ww h => c_loadA ty22 rfl (h.ev rfl) (h.blk hcb) (rdpiece hcs hls hqn) (by rw [List.length_map, hcl])) rfl ?_
          refine rg_yes rfl rfl (fun ac ww h => c_tt (c_eqlAB un54 ty5 eg54 (h.ev rfl) (h.ev rfl) hcl hcl) (by simp)) rfl ?_
          refine rg_q (fun ac ww h => c_pick (h.ev rfl) (h.ev rfl) (h.ev rfl)) rfl ?_
          refine rg_q (fun ac ww h => c_move (h.ev rfl)) rfl ?_
          refine rg_yes rfl rfl (fun ac ww h => c_move (h.ev rfl)) rfl ?_
          refine rg_strip rfl rfl ?_
          refine rg_callE (rowS' lv (gPath d ep ls1 q lv)) (fun _ _ _ _ _ h => h) fu103 (fun ac ww h => ?_) rfl ?_
          · exact ⟨_, .cons (h.ev rfl) .nil, law03_From lv (gPath d ep ls1 q lv) _ hpl (by omega) _ ((Rd.of_row (hs.get (i := 0) rfl)).fr0 h.fr)⟩
          refine rg_yes rfl rfl (fun ac ww h => c_move (h.ev rfl)) rfl ?_
          refine rg_yes rfl rfl (fun ac ww h => c_move (h.ev rfl)) rfl ?_
          refine rg_yes rfl rfl (fun ac ww h => c_move (h.ev rfl)) rfl ?_
          refine rg_yes rfl rfl (fun ac ww h => c_move (h.ev rfl)) rfl ?_
          refine rg_nil fun ac ww L' hf hfe hs => ?_
          simp only [List.drop_succ_cons, List.drop_zero]
          obtain ⟨v127, L127, M127, h127, e127, rfl, rfl⟩ := hfe
          replace hs := hs.add h127
          obtain rfl := e127
          refine s_yes hs rfl rfl ?_
          refine s_call hs fu104 (.cons (hs.ev rfl) (.cons (hs.ev rfl) (.cons (hs.ev rfl) (.cons (hs.ev rfl) .nil)))) (ref07_Path d ep ls1 n1 lv q _ hls hlv hW hxl hqn _ (hq1.fr0 hs.fr)) rfl fun ac ww v132 hf hp hs => ?_
          obtain ⟨L', hv, hh⟩ := hp
          subst hv
          replace hs := hs _ hh
          refine s_yes hs rfl rfl ?_
          refine s_call hs fu102 (.cons (hs.ev rfl) (.cons (hs.ev rfl) .nil)) (ref03_SameSums lv lv (gPath d ep ls1 q lv) (gPath d ep ls1 q lv) _ _ hpl hpl _ (Rd.of_row (hs.get (i := 1) rfl)) (Rd.of_row (hs.get (i := 0) rfl))) rfl fun ac ww v133 hf hp hs => ?_
          rw [decide_eq_true rfl] at hp
          obtain rfl := hp
          replace hs := hs [] (.nil _ _)
          refine s_q hs (c_pick (hs.ev rfl) (hs.ev rfl) (hs.ev rfl)) rfl fun ac hs => ?_
          refine s_q hs (c_assign (hs.ev rfl)) rfl fun ac hs => ?_
          refine s_end ?_
          replace hs := hs.sub (F' := [(8, _)]) ⟨rfl, trivial⟩
          refine then_n ?_
          refine wp_ret ?_
          refine s_ret hs rfl (.tmp (hs.tmp rfl) .nil) rfl ⟨_, rfl, hs.fr, ?_⟩
          rfl
end Go.Proofs.Ytmgnnclkjkbmdaa
end

section
/- Openings: slices of arrays of bytes. -/
set_option linter.unusedSimpArgs false
set_option linter.unusedVariables false
namespace Go.Fw
open Go Go.ChangeShapes Go.WideShapes Go.ChangeAt Go.RowKit
section
variable {H : Type} {enc : TypeId × Value → H} {P : Program} {w : World} {base : Nat} {spare : Nat → Bool} {held : Bool} {fuel : Nat} {t e u : TypeId} {cs : List Value} {x : DataW H × List MemPlace} {v : Value} {d : DataW H} {ps : List MemPlace} {r : Reach} {b0 : Nat}
theorem add_add (a : Addr) (i j : Nat) (hs : a.spot = none) : (a.add i).add j = a.add (i + j) := by
  obtain ⟨b, o, s⟩ := a
  simp only at hs
  subst hs
  rw [add_lit, add_lit, add_lit, Nat.add_assoc]
theorem opSA {m : Nat} (ht : P.underlying t = some (.slice e)) (he : P.underlying e = some (.array m u)) (hu : P.underlying u = some (.int .u8)) (hcu : P.cellsOf u = 1) (hce : P.cellsOf e = m) (hm0 : 0 < m)
    (hval : Value.okWide P w r b0 t v) (hd : DataW.Trod enc P w base spare held t v d ps) : ∃ (n : Nat) (ws : List UInt8), ws.length = n * m ∧ Rd w v n (ws.map B) := by
  obtain ⟨a, len, cap, rfl⟩ := okWide_slice ht hval
  obtain ⟨fu, hf⟩ := hd
  have h : DataW.trod enc P w base spare held fu t [.slice a len cap] = some (d, ps) := by simpa [Value.cells] using hf
  rcases Deep.open_slice ht h with ⟨h1, h2⟩ | ⟨a, len, cap, q, n, D, Pl, h1, hb, hl, hm, hmm, h2, hx⟩
  · simp only [List.cons.injEq, and_true] at h1
    exact ⟨0, [], by simp, ⟨none, 0, h1, Nat.le_refl _, Nat.zero_le _, fun _ => rfl, .inl rfl⟩⟩
  · simp only [List.cons.injEq, and_true] at h1
    have hlm : len ≤ q := by rw [hmm]; split <;> omega
    have each : ∀ i, i < len → ∃ l : List UInt8, l.length = m ∧ ∀ j, j < m → w.cell? ((a.add (i * m)).add j) = (l.map B)[j]? := fun i hi => by
      obtain ⟨cs', h3, h4⟩ := hx i (by omega)
      rw [hce] at h3
      obtain ⟨l, hl2, rfl⟩ := trodBs he hu hcu hce h4
      refine ⟨l, hl2, fun j hj => ?_⟩
      exact (World.cells?_some h3).2.2 j hj
    obtain ⟨F, hF⟩ := Deep.choose_lt (α := List UInt8) (p := fun i l => l.length = m ∧ ∀ j, j < m → w.cell? ((a.add (i * m)).add j) = (l.map B)[j]?) each
    have hfl : ∀ k, k ≤ len → ((List.range k).flatMap F).length = k * m ∧ ∀ i j, i < k → j < m → ((List.range k).flatMap F)[i * m + j]? = (F i)[j]? := by
      intro k
      induction k with
      | zero => intro _; exact ⟨by simp, fun i j hi _ => by omega⟩
      | succ k ih =>
        intro hk
        obtain ⟨ih1, ih2⟩ := ih (by omega)
        have hk1 := (hF k (by omega)).1
        rw [List.range_succ, List.flatMap_append]
        simp only [List.flatMap_cons, List.flatMap_nil, List.append_nil]
        refine ⟨by rw [List.length_append, ih1, hk1, Nat.succ_mul], fun i j hi hj => ?_⟩
        by_cases e : i = k
        · subst e
          rw [List.getElem?_append_right (by omega), ih1, Nat.add_sub_cancel_left]
        · have hle : (i + 1) * m ≤ k * m := Nat.mul_le_mul_right _ (by omega)
          rw [Nat.succ_mul] at hle
          rw [List.getElem?_append_left (by omega), ih2 i j (by omega) hj]
    obtain ⟨hf1, hf2⟩ := hfl len (Nat.le_refl _)
    refine ⟨len, (List.range len).flatMap F, hf1, some a, cap, h1, hl, hm, (fun h => by cases h), ?_⟩
    by_cases hp : len = 0
    · left; subst hp; rfl
    · right
      have hsp : a.spot = none := by
        have h5 := (hF 0 (by omega)).2 0 hm0
        have h6 := (hF 0 (by omega)).1
        rw [List.getElem?_eq_getElem (by simp; omega)] at h5
        have := World.cell?_spot h5
        have e0 : (a.add (0 * m)).add 0 = a := by rw [Nat.zero_mul]; obtain ⟨b, o, s⟩ := a; cases s <;> simp [Addr.add]
        rw [e0] at this
        exact this
      obtain ⟨b, o, T, fr, all, rfl, h5, h6⟩ := row_of (w := w) (a := a) (cs := ((List.range len).flatMap F).map B) (n := len * m) (Nat.mul_pos (by omega) hm0) (by simpa using hf1) (fun i hi => by
        have hdiv : i / m < len := Nat.div_lt_of_lt_mul (by rw [Nat.mul_comm]; exact hi)
        have hmod := Nat.mod_lt i hm0
        have h7 := (hF (i / m) hdiv).2 (i % m) hmod
        rw [add_add _ _ _ hsp, Nat.div_add_mod'] at h7
        rw [h7, List.getElem?_map, List.getElem?_map, ← hf2 (i / m) (i % m) hdiv hmod, Nat.div_add_mod'])
      exact ⟨b, o, T, fr, all, rfl, h5, h6⟩
end
end Go.Fw
end

section
/- The law of what leads to a root. -/
set_option linter.unusedSimpArgs false
set_option linter.unusedVariables false
set_option maxRecDepth 100000
namespace Go.Proofs.Ytmgnnclkjkbmdaa
open Go Go.Fw
open Sha
theorem i64_toN {m : Nat} (h : m ≤ 1000) : (i64 (m : Int)).toNat = m := by
  have := i64_toNat (m : Int)
  omega
theorem modq (i : Int) (m : Nat) (h0 : 0 < m) (h : m ≤ 16) : i64 (m : Int) ≠ 0 ∧ ∃ q : Nat, (i64 i % i64 (m : Int)).toNat = q ∧ q < m := by
  have h1 := i64_toN (m := m) (by omega)
  refine ⟨fun e => ?_, _, rfl, ?_⟩
  · rw [e] at h1
    simp at h1
    omega
  · rw [UInt64.toNat_mod, h1]
    exact Nat.mod_lt _ h0
section
variable {J : Nat → List UInt8 → List UInt8 → List UInt8} {lf lf2 : Nat → List UInt8} {n : Nat}
theorem node_congr (h : ∀ p, p < n → lf p = lf2 p) : ∀ k q, (q + 1) * 2 ^ k ≤ n → node J lf k q = node J lf2 k q
  | 0, q, hq => h q (by omega)
  | k + 1, q, hq => by
    obtain ⟨h1, h2, _⟩ := gfit hq
    rw [node, node, node_congr h k _ h1, node_congr h k _ h2]
theorem nodeTs_congr (h : ∀ p, p < n → lf p = lf2 p) : ∀ k q, (q + 1) * 2 ^ k ≤ n → nodeTs J lf (fun _ => []) k q = nodeTs J lf2 (fun _ => []) k q
  | 0, q, hq => rfl
  | k + 1, q, hq => by
    obtain ⟨h1, h2, _⟩ := gfit hq
    rw [nodeTs, nodeTs, nodeTs_congr h k _ h1, nodeTs_congr h k _ h2, node_congr h k _ h1, node_congr h k _ h2]
end
def lf16 (ls : List UInt8) (n q : Nat) : List UInt8 := if q < n then chunk ls q else List.replicate 16 0
theorem beside_ok {q lv k : Nat} (h : q < 2 ^ lv) (hk : k < lv) : (besideI (q / 2 ^ k) + 1) * 2 ^ k ≤ 2 ^ lv := beside_fit h hk
theorem grove_sound {d : Int} {ep : UInt32} {ls : List UInt8} {q lv : Nat} {l ws : List UInt8} (hls : ls.length = 16 * 2 ^ lv) (hl : l.length = 16) (hw : ws.length = lv * 16) (hq : q < 2 ^ lv) (h : gRise d ep q l ws lv = gNode d ep ls lv 0) (hne : ¬ (l = chunk ls q ∧ ws = gPath d ep ls q lv)) :
    clash (gNodeTs d ep ls lv 0) (gRiseTs d ep q l ws lv) = true := by
  cases hc : clash (gNodeTs d ep ls lv 0) (gRiseTs d ep q l ws lv) with
  | true => rfl
  | false =>
    exfalso
    have hq0 : q / 2 ^ lv = 0 := Nat.div_eq_of_lt hq
    have hcg : ∀ p, p < 2 ^ lv → gLf ls p = lf16 ls (2 ^ lv) p := fun p hp => by rw [lf16, if_pos hp]; rfl
    have hfit : (0 + 1) * 2 ^ lv ≤ 2 ^ lv := by omega
    have e1 : gNode d ep ls lv 0 = node (gJ d ep) (lf16 ls (2 ^ lv)) lv 0 := node_congr hcg lv 0 hfit
    have e2 : gNodeTs d ep ls lv 0 = nodeTs (gJ d ep) (lf16 ls (2 ^ lv)) (fun _ => []) lv 0 := nodeTs_congr hcg lv 0 hfit
    have hs := rise_sound (J := gJ d ep) (lf := lf16 ls (2 ^ lv)) (lt := fun _ => []) (id := q) (l := l) (way := chunk ws) (fun _ _ _ _ _ ha hc h => aboveX_inj ha hc h) (fun p => by
      unfold lf16
      split
      · exact chunk_len (by omega)
      · simp) hl lv (fun k hk => chunk_l hw hk) (by rw [hq0, ← e1]; exact h) (by rw [hq0, ← e2]; exact fun x hx y hy e => clash_not hc hx hy e)
    refine hne ⟨?_, sums_same hw (gPath_length hls hq lv (Nat.le_refl _)) fun i hi => ?_⟩
    · rw [hs.1, ← hcg q hq]; rfl
    · rw [hs.2 i hi, gPath_chunk hls hq hi, gWay, wayN, wayN, node_congr hcg i _ (beside_ok hq hi)]
theorem chunk_le (l : List UInt8) (k : Nat) : (chunk l k).length ≤ 16 := by rw [chunk, List.length_take]; omega
theorem gNode_le (d : Int) (ep : UInt32) (ls : List UInt8) : ∀ k q, (gNode d ep ls k q).length ≤ 16
  | 0, q => chunk_le ls q
  | k + 1, q => Nat.le_refl 16
theorem above_good {d : Int} {ep : UInt32} {x : Int} {a b : List UInt8} (ha : a.length ≤ 16) (hb : b.length ≤ 16) : ∃ kd tx, aboveX d ep x a b = kd :: tx ∧ tx.length ≤ 140737488355199 := ⟨_, _, rfl, by rw [List.length_append, List.length_append, gHead_length]; omega⟩
theorem gnode_good (d : Int) (ep : UInt32) (ls : List UInt8) : ∀ n q, ∀ t ∈ gNodeTs d ep ls n q, ∃ kd tx, t = kd :: tx ∧ tx.length ≤ 140737488355199
  | 0, q, t, ht => by simp [gNodeTs, nodeTs] at ht
  | n + 1, q, t, ht => by
    simp only [gNodeTs, nodeTs, List.mem_append, List.mem_singleton] at ht
    rcases ht with (ht | ht) | rfl
    · exact gnode_good d ep ls n _ t ht
    · exact gnode_good d ep ls n _ t ht
    · exact above_good (gNode_le d ep ls n _) (gNode_le d ep ls n _)
theorem grise_good (d : Int) (ep : UInt32) (q : Nat) (l ws : List UInt8) (hl : l.length = 16) : ∀ k, ∀ t ∈ gRiseTs d ep q l ws k, ∃ kd tx, t = kd :: tx ∧ tx.length ≤ 140737488355199
  | 0, t, ht => by simp [gRiseTs, riseTs] at ht
  | k + 1, t, ht => by
    simp only [gRiseTs, riseTs, List.mem_append, List.mem_singleton] at ht
    rcases ht with ht | rfl
    · exact grise_good d ep q l ws hl k t ht
    · have h1 : (riseN (gJ d ep) q l (chunk ws) k).length = 16 := riseN_length hl k
      unfold stepX
      split
      · exact above_good (chunk_le ws k) (by omega)
      · exact above_good (by omega) (chunk_le ws k)
/-- What leads to the root from a place. -/
theorem chk_true {d : Int} {ep : UInt32} {lv q m : Nat} {rt l ws : List UInt8} (h : chkB d ep (lv : Nat) rt (q : Nat) l ws m = true) : m = lv ∧ foldOk (q : Nat) m = true ∧ gRise d ep q l ws m = rt := by
  unfold chkB at h
  simp only [Bool.and_eq_true, decide_eq_true_eq] at h
  obtain ⟨⟨h1, h2⟩, h3⟩ := h
  have h4 : foldOk (q : Nat) m = true := by
    apply Classical.byContradiction
    intro hn
    rw [foldE, if_neg hn] at h2
    cases h2
  rw [foldB, if_pos h4, Int.toNat_natCast] at h3
  exact ⟨by omega, h4, h3⟩
set_option maxHeartbeats 4000000 in
theorem law_GroveSound (d : Int) (ep : UInt32) (n : Nat) (ws : List UInt8) (wv : Value) (i : Int) (l : List UInt8) (pn : Nat) (pws : List UInt8) (pv : Value) (hon : Bool) (hws : ws.length = n * 16) (hll : l.length = 16) (hwl : pws.length = pn * 16) (w : World) (hq0 : Rd w wv n (ws.map B) ∧ Rd w pv pn (pws.map B)) : Ctr Try.prog 28 [I d, U ep, wv, I i, .agg (l.map B).toArray, pv, .bool hon] w (fun _ => False) (fun v _ => v = .bool true) := by
  have hnl := hq0.1.le
  have hqw := hq0.2
  have hpl := hqw.le
  obtain ⟨wad, wcap, rfl, hwc, hwm⟩ := Rd.sl hqw
  refine fn_start (N := 104) Try.func28 rfl rfl rfl fun ac hk => ?_
  have hs := St.start hk w
  refine wp_seq ?_
  refine wp_reg ?_
  refine s_box hs rfl rfl rfl fun ac ww g11 hs => ?_
  refine s_q hs (c_assign (hs.ev rfl)) rfl fun ac hs => ?_
  refine s_end ?_
  replace hs := hs.sub (F' := [(0, _), (1, _), (2, _), (3, _), (5, _), (6, _), (11, _), (14, _)]) ⟨rfl, rfl, rfl, rfl, rfl, rfl, rfl, rfl, trivial⟩
  refine then_n ?_
  refine wp_seq ?_
  refine wp_reg ?_
  refine s_q hs (c_move (hs.ev rfl)) rfl fun ac hs => ?_
  refine s_call hs fu121 (.cons (hs.ev rfl) .nil) (law07_cut n ws _ hws w _ hs.fr hq0.1) rfl fun ac ww v22 hf hp hs => ?_
  obtain ⟨L', ⟨ce, lv, m, ls, rfl, hm, hlv, hls, hC⟩, hh⟩ := hp
  replace hs := hs _ hh
  have hm16 : m ≤ 16 := by have := Nat.pow_le_pow_right (show 0 < 2 by decide) hlv; rw [← hm] at this; simpa using this
  have hm0 : 0 < m := by rw [hm]; exact Nat.two_pow_pos _
  have hls16 : ls.length = 16 * m := by omega
  have hls2 : ls.length = 16 * 2 ^ lv := by rw [← hm]; exact hls16
  have hhl : height m = lv := by rw [hm]; have := height_pow lv (by omega); rw [← this]; push_cast; rfl
  obtain ⟨cad, ccap, rfl, hcc, hcm⟩ := Rd.sl (hC _ hs.fr (hs.get (i := 0) rfl))
  refine s_q hs (c_assign (hs.ev rfl)) rfl fun ac hs => ?_
  refine s_end ?_
  replace hs := hs.sub (F' := [(0, _), (1, _), (2, _), (3, _), (5, _), (6, _), (11, _), (14, _)]) ⟨rfl, rfl, rfl, rfl, rfl, rfl, rfl, rfl, trivial⟩
  refine then_n ?_
  refine wp_seq ?_
  refine wp_reg ?_
  refine s_q hs (c_move (hs.ev rfl)) rfl fun ac hs => ?_
  refine s_q hs (c_cvIV un3 un75 (hs.ev rfl)) rfl fun ac hs => ?_
  refine s_q hs (c_move (hs.ev rfl)) rfl fun ac hs => ?_
  refine s_q hs (c_lenS un109 (hs.ev rfl)) rfl fun ac hs => ?_
  refine s_q hs (c_cvIV un3 un75 (hs.ev rfl)) rfl fun ac hs => ?_
  obtain ⟨hmz, q, hqe, hqm⟩ := modq i m hm0 hm16
  refine s_q hs (c_remV (hs.ev rfl) (hs.ev rfl) hmz) rfl fun ac hs => ?_
  refine s_q hs (c_to (c_cvVI un75 un3 (hs.ev rfl) (by omega)) ((congrArg (fun z : Nat => I z) hqe))) rfl fun ac hs => ?_
  have hq2 : q < 2 ^ lv := by omega
  have hcl := chunk_l hls hqm
  have hgl := gPath_length (d := d) (ep := ep) (q := q) hls2 hq2 lv (Nat.le_refl _)
  have hown := gchk_own (d := d) (ep := ep) (q := q) hls2 (show lv ≤ 6 by omega) hq2
  refine s_q hs (c_assign (hs.ev rfl)) rfl fun ac hs => ?_
  refine s_end ?_
  replace hs := hs.sub (F' := [(0, _), (1, _), (2, _), (3, _), (5, _), (6, _), (11, _), (14, _)]) ⟨rfl, rfl, rfl, rfl, rfl, rfl, rfl, rfl, trivial⟩
  refine then_n ?_
  refine wp_seq ?_
  refine wp_reg ?_
  refine s_q hs (c_move (hs.ev rfl)) rfl fun ac hs => ?_
  refine s_q hs (c_move (hs.ev rfl)) rfl fun ac hs => ?_
  refine s_q hs (c_move (hs.ev rfl)) rfl fun ac hs => ?_
  refine s_q hs (c_move (hs.ev rfl)) rfl fun ac hs => ?_
  refine s_call hs fu104 (.cons (hs.ev rfl) (.cons (hs.ev rfl) (.cons (hs.ev rfl) (.cons (hs.ev rfl) .nil)))) (ref07_Path d ep ls m lv q _ hls (by omega) hm hhl hqm _ (hC _ hs.fr (hs.get (i := 0) rfl))) rfl fun ac ww v34 hf hp hs => ?_
  obtain ⟨L', hv, hh⟩ := hp
  subst hv
  replace hs := hs _ hh
  obtain ⟨vad, vcap, rfl, _, _⟩ := Rd.sl (Rd.of_row (hs.get (i := 0) rfl))
  refine s_q hs (c_assign (hs.ev rfl)) rfl fun ac hs => ?_
  refine s_end ?_
  replace hs := hs.sub (F' := [(0, _), (1, _), (2, _), (3, _), (5, _), (6, _), (11, _), (14, _), (15, _)]) ⟨rfl, rfl, rfl, rfl, rfl, rfl, rfl, rfl, rfl, trivial⟩
  refine then_n ?_
  refine wp_seq ?_
  refine wp_seq ?_
  refine wp_reg ?_
  refine s_q hs (c_move (hs.ev rfl)) rfl fun ac hs => ?_
  refine s_end ?_
  refine then_n ?_
  refine s_cond hs rfl (fun hc => ?_) (fun hc => ?_)
  · skip
    have hb : hon = true := hc
    obtain ⟨cb, co, cT, cf, call_, rfl, hcb, hcs⟩ := Rd.bytes_at (hC _ hs.fr (hs.get (i := 1) rfl)) hls (by omega)
    refine wp_reg ?_
    refine s_q hs (c_move (hs.ev rfl)) rfl fun ac hs => ?_
    refine s_q hs (c_move (hs.ev rfl)) rfl fun ac hs => ?_
    refine s_q hs (c_idxS (j := q) un109 ty22 (hs.ev rfl) (hs.ev rfl) (by omega) (by omega)) rfl fun ac hs => ?_
    refine s_q hs (c_loadA ty22 rfl (hs.ev rfl) hcb (rdpiece hcs hls hqm) (by rw [List.length_map, hcl])) rfl fun ac hs => ?_
    refine s_q hs (c_move (hs.ev rfl)) rfl fun ac hs => ?_
    refine s_storeW (i := 2) hs ty22 rfl rfl rfl (by rw [List.length_map, hcl]) (all_map_B _) (by rw [List.length_map, hll]) fun ww hs => ?_
    have hl1l := hcl
    have hwl1 := hgl
    have hn1l : lv ≤ 20 := by omega
    refine s_q hs (c_assign (hs.ev rfl)) rfl fun ac hs => ?_
    refine s_end ?_
    replace hs := hs.sub (F' := [(0, _), (1, _), (2, _), (3, _), (5, _), (6, _), (11, _), (14, _), (15, _)]) ⟨rfl, rfl, rfl, rfl, rfl, rfl, rfl, rfl, rfl, trivial⟩
    refine then_n ?_
    refine wp_seq ?_
    refine wp_seq ?_
    refine wp_reg ?_
    refine s_q hs (c_move (hs.ev rfl)) rfl fun ac hs => ?_
    refine s_q hs (c_lenS un109 (hs.ev rfl)) rfl fun ac hs => ?_
    refine s_q hs (c_ff (c_gtrI (hs.ev rfl) (hs.ev rfl)) (by simp; omega)) rfl fun ac hs => ?_
    refine s_end ?_
    replace hs := hs.sub (F' := [(0, _), (1, _), (2, _), (3, _), (5, _), (6, _), (11, _), (14, _), (15, _), (43, _)]) ⟨rfl, rfl, rfl, rfl, rfl, rfl, rfl, rfl, rfl, rfl, trivial⟩
    refine then_n ?_
    refine wp_cond_false (hs.ev rfl) ?_
    refine wp_skip ?_
    refine then_n ?_
    refine wp_seq ?_
    refine wp_seq ?_
    refine wp_region_rg pmix 13 (by kernel_rfl) rfl hs ?_
    simp only [List.take_succ_cons, List.take_zero]
    refine rg_q (fun ac ww h => c_move (h.ev rfl)) rfl ?_
    refine rg_q (fun ac ww h => c_move (h.ev rfl)) rfl ?_
    refine rg_q (fun ac ww h => c_move (h.ev rfl)) rfl ?_
    refine rg_q (fun ac ww h => c_lenS un109 (h.ev rfl)) rfl ?_
    refine rg_call fu96 (fun ac ww h => (.cons (h.ev rfl) .nil)) (fun ww hf => (hhl ▸ ref07_Height (m : Int) _)) rfl ?_
    refine rg_q (fun ac ww h => c_move (h.ev rfl)) rfl ?_
    refine rg_q (fun ac ww h => c_move (h.ev rfl)) rfl ?_
    refine rg_q (fun ac ww h => c_move (h.ev rfl)) rfl ?_
    refine rg_call fu99 (fun ac ww h => (.cons (h.ev rfl) (.cons (h.ev rfl) (.cons (h.ev rfl) .nil)))) (fun ww hf => ref07_Root d ep ls m lv _ hls (by omega) hm hhl _ ((hC _ hs.fr (hs.get (i := 1) rfl)).fr0 hf)) rfl ?_
    refine rg_q (fun ac ww h => c_move (h.ev rfl)) rfl ?_
    refine rg_q (fun ac ww h => c_loadW ty22 rfl (h.ev rfl) (h.blk (hs.seg (i := 2) rfl)) (by rw [List.length_map, hl1l])) rfl ?_
    refine rg_q (fun ac ww h => c_move (h.ev rfl)) rfl ?_
    refine rg_callE (rowS lv (gPath d ep ls q lv)) (fun _ _ _ _ _ h => h) fu93 (fun ac ww h => ?_) rfl ?_
    · exact ⟨_, .cons (h.ev rfl) .nil, law03_To lv (gPath d ep ls q lv) _ hwl1 (by omega) _ ((Rd.of_row (hs.get (i := 0) rfl)).fr0 h.fr)⟩
    refine rg_nil fun ac ww L' hf hfe hs => ?_
    simp only [List.drop_succ_cons, List.drop_zero]
    obtain ⟨v58, L58, M58, h58, e58, rfl, rfl⟩ := hfe
    replace hs := hs.add h58
    obtain rfl := e58
    refine s_call hs fu119 (.cons (hs.ev rfl) (.cons (hs.ev rfl) (.cons (hs.ev rfl) (.cons (hs.ev rfl) (.cons (hs.ev rfl) (.cons (hs.ev rfl) (.cons (hs.ev rfl) .nil))))))) (grove_Check (lv : Nat) (gNode d ep ls lv 0) (gNode_length hls16 lv 0 (by rw [hm]; omega)) d ep (q : Int) lv (chunk ls q) (gPath d ep ls q lv) _ hl1l hwl1 _ (Rd.of_row (hs.get (i := 0) rfl))) rfl fun ac ww v59 hf hp hs => ?_
    obtain rfl := hp
    replace hs := hs [] (.nil _ _)
    refine s_q hs (c_ff (c_not (hs.ev rfl)) (by rw [hown]; rfl)) rfl fun ac hs => ?_
    refine s_end ?_
    replace hs := hs.sub (F' := [(0, _), (1, _), (2, _), (3, _), (5, _), (6, _), (11, _), (14, _), (15, _), (60, _)]) ⟨rfl, rfl, rfl, rfl, rfl, rfl, rfl, rfl, rfl, rfl, trivial⟩
    refine then_n ?_
    refine wp_cond_false (hs.ev rfl) ?_
    refine wp_skip ?_
    refine then_n ?_
    refine wp_seq ?_
    refine wp_seq ?_
    obtain ⟨db, do_, dT, df, dall, hde, hdb, hds⟩ := Rd.bytes_at (hC _ hs.fr (hs.get (i := 2) rfl)) hls (by omega)
    cases hde
    refine wp_region_rg pmix 9 (by kernel_rfl) rfl hs ?_
    simp only [List.take_succ_cons, List.take_zero]
    refine rg_q (fun ac ww h => c_loadW ty22 rfl (h.ev rfl) (h.blk (hs.seg (i := 3) rfl)) (by rw [List.length_map, hl1l])) rfl ?_
    refine rg_q (fun ac ww h => c_move (h.ev rfl)) rfl ?_
    refine rg_q (fun ac ww h => c_move (h.ev rfl)) rfl ?_
    refine rg_q (fun ac ww h => c_idxS (j := q) un109 ty22 (h.ev rfl) (h.ev rfl) (by omega) (by omega)) rfl ?_
    refine rg_q (fun ac ww h => c_loadA ty22 rfl (h.ev rfl) (h.blk hdb) (rdpiece hds hls hqm) (by rw [List.length_map, hcl])) rfl ?_
    refine rg_q (fun ac ww h => c_eqlAB un22 ty5 eg22 (h.ev rfl) (h.ev rfl) hl1l hcl) rfl ?_
    refine rg_q (fun ac ww h => c_move (h.ev rfl)) rfl ?_
    refine rg_g rfl rfl (fun hg ac ww h => c_move (h.ev rfl)) rfl ?_
    refine rg_g rfl rfl (fun hg ac ww h => c_move (h.ev rfl)) rfl ?_
    refine rg_nil fun ac ww L' hf hfe hs => ?_
    simp only [List.drop_succ_cons, List.drop_zero]
    obtain rfl : L' = [] := hfe
    replace hs := hs.toL (List.nil_append _)
    refine s_gcall hs rfl rfl fu102 (fun hg => (.cons (gev (hs.ev rfl) hg) (.cons (gev (hs.ev rfl) hg) .nil))) (fun hg => ref03_SameSums lv lv (gPath d ep ls q lv) (gPath d ep ls q lv) _ _ hwl1 hgl _ (Rd.of_row (hs.get (i := 1) rfl)) (Rd.of_row (hs.get (i := 1) rfl))) rfl fun ac ww hf hs => ?_
    refine s_q hs (c_and (hs.ev rfl) (hs.ev rfl)) rfl fun ac hs => ?_
    refine s_end ?_
    replace hs := hs.sub (F' := [(0, _), (1, _), (2, _), (3, _), (5, _), (11, _), (14, _), (76, _)]) ⟨rfl, rfl, rfl, rfl, rfl, rfl, rfl, rfl, trivial⟩
    refine then_n ?_
    refine s_cond hs rfl (fun hc => ?_) (fun hc => ?_)
    · skip
      refine wp_seq ?_
      refine wp_reg ?_
      refine s_call hs fu97 .nil (law07_awake _) rfl fun ac ww v77 hf hp hs => ?_
      obtain rfl := hp
      replace hs := hs [] (.nil _ _)
      refine s_q hs (c_assign (hs.ev rfl)) rfl fun ac hs => ?_
      refine s_end ?_
      replace hs := hs.sub (F' := [(0, _), (1, _), (2, _), (3, _), (5, _), (11, _), (14, _)]) ⟨rfl, rfl, rfl, rfl, rfl, rfl, rfl, trivial⟩
      refine then_n ?_
      refine wp_ret ?_
      refine then_r ?_
      refine s_ret hs rfl (.tmp (hs.tmp rfl) .nil) rfl ⟨_, rfl, hs.fr, ?_⟩
      rfl
    · exact absurd hc (by simp)
  · skip
    have hb : hon = false := hc
    obtain ⟨l1, hl1⟩ : ∃ l1, l1 = l := ⟨_, rfl⟩
    rw [← hl1] at hs
    have hl1l : l1.length = 16 := by rw [hl1]; exact hll
    refine wp_skip ?_
    refine then_n ?_
    refine wp_seq ?_
    refine wp_seq ?_
    refine wp_reg ?_
    refine s_q hs (c_move (hs.ev rfl)) rfl fun ac hs => ?_
    refine s_q hs (c_lenS un109 (hs.ev rfl)) rfl fun ac hs => ?_
    refine s_q hs (c_gtrI (hs.ev rfl) (hs.ev rfl)) rfl fun ac hs => ?_
    refine s_end ?_
    replace hs := hs.sub (F' := [(0, _), (1, _), (2, _), (3, _), (5, _), (6, _), (11, _), (14, _), (15, _), (43, _)]) ⟨rfl, rfl, rfl, rfl, rfl, rfl, rfl, rfl, rfl, rfl, trivial⟩
    refine then_n ?_
    refine s_cond hs rfl (fun hc => ?_) (fun hc => ?_)
    · try simp only [decide_eq_true_eq, decide_eq_false_iff_not, Bool.not_eq_true', Bool.not_eq_false', Bool.and_eq_true, Bool.or_eq_true, Bool.or_eq_false_iff] at hc
      obtain ⟨n1, ws1, hn1, hn1l, hwl1, hq1⟩ : ∃ (n1 : Nat) (ws1 : List UInt8), n1 = 20 ∧ n1 ≤ 20 ∧ ws1.length = n1 * 16 ∧ Rd w (.slice wad n1 wcap) n1 (ws1.map B) := ⟨20, pws.take (16 * 20), rfl, by decide, by rw [List.length_take]; omega, Rd.head hqw hwl (by omega) (by decide)⟩
      refine wp_reg ?_
      refine s_q hs (c_move (hs.ev rfl)) rfl fun ac hs => ?_
      refine s_q hs (c_to (c_sliceH (j := 20) un109 ty22 (hs.ev rfl) (hs.ev rfl) rfl (by omega)) ((show Value.slice _ 20 wcap = Value.slice wad n1 wcap from by rw [hn1, if_neg (by omega)]; cases wad <;> simp [Addr.add]))) rfl fun ac hs => ?_
      refine s_q hs (c_assign (hs.ev rfl)) rfl fun ac hs => ?_
      refine s_end ?_
      replace hs := hs.sub (F' := [(0, _), (1, _), (2, _), (3, _), (5, _), (6, _), (11, _), (14, _), (15, _)]) ⟨rfl, rfl, rfl, rfl, rfl, rfl, rfl, rfl, rfl, trivial⟩
      refine then_n ?_
      refine wp_seq ?_
      refine wp_seq ?_
      refine wp_region_rg pmix 13 (by kernel_rfl) rfl hs ?_
      simp only [List.take_succ_cons, List.take_zero]
      refine rg_q (fun ac ww h => c_move (h.ev rfl)) rfl ?_
      refine rg_q (fun ac ww h => c_move (h.ev rfl)) rfl ?_
      refine rg_q (fun ac ww h => c_move (h.ev rfl)) rfl ?_
      refine rg_q (fun ac ww h => c_lenS un109 (h.ev rfl)) rfl ?_
      refine rg_call fu96 (fun ac ww h => (.cons (h.ev rfl) .nil)) (fun ww hf => (hhl ▸ ref07_Height (m : Int) _)) rfl ?_
      refine rg_q (fun ac ww h => c_move (h.ev rfl)) rfl ?_
      refine rg_q (fun ac ww h => c_move (h.ev rfl)) rfl ?_
      refine rg_q (fun ac ww h => c_move (h.ev rfl)) rfl ?_
      refine rg_call fu99 (fun ac ww h => (.cons (h.ev rfl) (.cons (h.ev rfl) (.cons (h.ev rfl) .nil)))) (fun ww hf => ref07_Root d ep ls m lv _ hls (by omega) hm hhl _ ((hC _ hs.fr (hs.get (i := 1) rfl)).fr0 hf)) rfl ?_
      refine rg_q (fun ac ww h => c_move (h.ev rfl)) rfl ?_
      refine rg_q (fun ac ww h => c_loadW ty22 rfl (h.ev rfl) (h.blk (hs.seg (i := 2) rfl)) (by rw [List.length_map, hl1l])) rfl ?_
      refine rg_q (fun ac ww h => c_move (h.ev rfl)) rfl ?_
      refine rg_callE (rowS n1 ws1) (fun _ _ _ _ _ h => h) fu93 (fun ac ww h => ?_) rfl ?_
      · exact ⟨_, .cons (h.ev rfl) .nil, law03_To n1 ws1 _ hwl1 (by omega) _ ((hq1.fr0 hs.fr).fr0 h.fr)⟩
      refine rg_nil fun ac ww L' hf hfe hs => ?_
      simp only [List.drop_succ_cons, List.drop_zero]
      obtain ⟨v58, L58, M58, h58, e58, rfl, rfl⟩ := hfe
      replace hs := hs.add h58
      obtain rfl := e58
      refine s_call hs fu119 (.cons (hs.ev rfl) (.cons (hs.ev rfl) (.cons (hs.ev rfl) (.cons (hs.ev rfl) (.cons (hs.ev rfl) (.cons (hs.ev rfl) (.cons (hs.ev rfl) .nil))))))) (grove_Check (lv : Nat) (gNode d ep ls lv 0) (gNode_length hls16 lv 0 (by rw [hm]; omega)) d ep (q : Int) n1 l1 ws1 _ hl1l hwl1 _ (Rd.of_row (hs.get (i := 0) rfl))) rfl fun ac ww v59 hf hp hs => ?_
      obtain rfl := hp
      replace hs := hs [] (.nil _ _)
      refine s_q hs (c_not (hs.ev rfl)) rfl fun ac hs => ?_
      refine s_end ?_
      replace hs := hs.sub (F' := [(0, _), (1, _), (2, _), (3, _), (5, _), (6, _), (11, _), (14, _), (15, _), (60, _)]) ⟨rfl, rfl, rfl, rfl, rfl, rfl, rfl, rfl, rfl, rfl, trivial⟩
      refine then_n ?_
      refine s_cond hs rfl (fun hc => ?_) (fun hc => ?_)
      · skip
        refine wp_seq ?_
        refine wp_reg ?_
        refine s_call hs fu97 .nil (law07_awake _) rfl fun ac ww v61 hf hp hs => ?_
        obtain rfl := hp
        replace hs := hs [] (.nil _ _)
        refine s_q hs (c_move (hs.ev rfl)) rfl fun ac hs => ?_
        refine s_yes hs rfl rfl ?_
        refine s_q hs (c_move (hs.ev rfl)) rfl fun ac hs => ?_
        refine s_yes hs rfl rfl ?_
        refine s_q hs (c_tt (c_not (hs.ev rfl)) (by rw [hb]; rfl)) rfl fun ac hs => ?_
        refine s_q hs (c_pick (hs.ev rfl) (hs.ev rfl) (hs.ev rfl)) rfl fun ac hs => ?_
        refine s_q hs (c_assign (hs.ev rfl)) rfl fun ac hs => ?_
        refine s_end ?_
        replace hs := hs.sub (F' := [(0, _), (1, _), (2, _), (3, _), (5, _), (11, _), (14, _), (15, _)]) ⟨rfl, rfl, rfl, rfl, rfl, rfl, rfl, rfl, trivial⟩
        refine then_n ?_
        refine wp_ret ?_
        refine then_r ?_
        refine s_ret hs rfl (.tmp (hs.tmp rfl) .nil) rfl ⟨_, rfl, hs.fr, ?_⟩
        rfl
      · skip
        have hgood := chk_true (show chkB d ep (lv : Nat) (gNode d ep ls lv 0) (q : Nat) l1 ws1 n1 = true by simpa using hc)
        obtain ⟨rfl, hfo, hri⟩ := hgood
        refine wp_skip ?_
        refine then_n ?_
        refine wp_seq ?_
        refine wp_seq ?_
        obtain ⟨db, do_, dT, df, dall, hde, hdb, hds⟩ := Rd.bytes_at (hC _ hs.fr (hs.get (i := 2) rfl)) hls (by omega)
        cases hde
        refine wp_region_rg pmix 9 (by kernel_rfl) rfl hs ?_
        simp only [List.take_succ_cons, List.take_zero]
        refine rg_q (fun ac ww h => c_loadW ty22 rfl (h.ev rfl) (h.blk (hs.seg (i := 3) rfl)) (by rw [List.length_map, hl1l])) rfl ?_
        refine rg_q (fun ac ww h => c_move (h.ev rfl)) rfl ?_
        refine rg_q (fun ac ww h => c_move (h.ev rfl)) rfl ?_
        refine rg_q (fun ac ww h => c_idxS (j := q) un109 ty22 (h.ev rfl) (h.ev rfl) (by omega) (by omega)) rfl ?_
        refine rg_q (fun ac ww h => c_loadA ty22 rfl (h.ev rfl) (h.blk hdb) (rdpiece hds hls hqm) (by rw [List.length_map, hcl])) rfl ?_
        refine rg_q (fun ac ww h => c_eqlAB un22 ty5 eg22 (h.ev rfl) (h.ev rfl) hl1l hcl) rfl ?_
        refine rg_q (fun ac ww h => c_move (h.ev rfl)) rfl ?_
        refine rg_g rfl rfl (fun hg ac ww h => c_move (h.ev rfl)) rfl ?_
        refine rg_g rfl rfl (fun hg ac ww h => c_move (h.ev rfl)) rfl ?_
        refine rg_nil fun ac ww L' hf hfe hs => ?_
        simp only [List.drop_succ_cons, List.drop_zero]
        obtain rfl : L' = [] := hfe
        replace hs := hs.toL (List.nil_append _)
        refine s_gcall hs rfl rfl fu102 (fun hg => (.cons (gev (hs.ev rfl) hg) (.cons (gev (hs.ev rfl) hg) .nil))) (fun hg => ref03_SameSums n1 n1 ws1 (gPath d ep ls q n1) _ _ hwl1 hgl _ (hq1.fr0 hs.fr) (Rd.of_row (hs.get (i := 1) rfl))) rfl fun ac ww hf hs => ?_
        refine s_q hs (c_and (hs.ev rfl) (hs.ev rfl)) rfl fun ac hs => ?_
        refine s_end ?_
        replace hs := hs.sub (F' := [(0, _), (1, _), (2, _), (3, _), (5, _), (11, _), (14, _), (76, _)]) ⟨rfl, rfl, rfl, rfl, rfl, rfl, rfl, rfl, trivial⟩
        refine then_n ?_
        refine s_cond hs rfl (fun hc => ?_) (fun hc => ?_)
        · skip
          refine wp_seq ?_
          refine wp_reg ?_
          refine s_call hs fu97 .nil (law07_awake _) rfl fun ac ww v77 hf hp hs => ?_
          obtain rfl := hp
          replace hs := hs [] (.nil _ _)
          refine s_q hs (c_assign (hs.ev rfl)) rfl fun ac hs => ?_
          refine s_end ?_
          replace hs := hs.sub (F' := [(0, _), (1, _), (2, _), (3, _), (5, _), (11, _), (14, _)]) ⟨rfl, rfl, rfl, rfl, rfl, rfl, rfl, trivial⟩
          refine then_n ?_
          refine wp_ret ?_
          refine then_r ?_
          refine s_ret hs rfl (.tmp (hs.tmp rfl) .nil) rfl ⟨_, rfl, hs.fr, ?_⟩
          rfl
        · skip
          have hne : ¬ (l1 = chunk ls q ∧ ws1 = gPath d ep ls q n1) := by revert hc; simp
          have hcl2 := grove_sound hls2 hl1l hwl1 hq2 hri hne
          refine wp_skip ?_
          refine then_n ?_
          refine wp_seq ?_
          refine wp_reg ?_
          refine s_q hs (c_move (hs.ev rfl)) rfl fun ac hs => ?_
          refine s_q hs (c_move (hs.ev rfl)) rfl fun ac hs => ?_
          refine s_q hs (c_move (hs.ev rfl)) rfl fun ac hs => ?_
          refine s_q hs (c_move (hs.ev rfl)) rfl fun ac hs => ?_
          refine s_q hs (c_lenS un109 (hs.ev rfl)) rfl fun ac hs => ?_
          refine s_call hs fu96 (.cons (hs.ev rfl) .nil) ((hhl ▸ ref07_Height (m : Int) _)) rfl fun ac ww v84 hf hp hs => ?_
          obtain rfl := hp
          replace hs := hs [] (.nil _ _)
          refine s_call hs fu122 (.cons (hs.ev rfl) (.cons (hs.ev rfl) (.cons (hs.ev rfl) (.cons (hs.ev rfl) (.cons (hs.ev rfl) .nil))))) (ref07_Node d ep ls m _ hls (by omega) n1 (by omega) 0 (by rw [hm]; omega) _ (hC _ hs.fr (hs.get (i := 2) rfl))) rfl fun ac ww v85 hf hp hs => ?_
          obtain ⟨L', ⟨tv1, rfl, psA, hpsA, rfl⟩, hh⟩ := hp
          replace hs := hs _ hh
          refine s_q hs (c_move (hs.ev rfl)) rfl fun ac hs => ?_
          refine s_q hs (c_extract (hs.ev rfl) rfl) rfl fun ac hs => ?_
          refine s_q hs (c_extract (hs.ev rfl) rfl) rfl fun ac hs => ?_
          refine s_alloc hs ty22 rfl fun ac ww g16 hs => ?_
          refine s_storeW (i := 0) hs ty22 rfl rfl rfl (by rw [List.length_map]; exact gNode_length hls16 n1 0 (by rw [hm]; omega)) (all_map_B _) rfl fun ww hs => ?_
          refine s_q hs (c_assign (hs.ev rfl)) rfl fun ac hs => ?_
          refine s_end ?_
          replace hs := hs.sub (F' := [(0, _), (1, _), (3, _), (5, _), (11, _), (14, _), (17, _)]) ⟨rfl, rfl, rfl, rfl, rfl, rfl, rfl, trivial⟩
          refine then_n ?_
          refine wp_seq ?_
          refine wp_reg ?_
          refine s_q hs (c_move (hs.ev rfl)) rfl fun ac hs => ?_
          refine s_q hs (c_move (hs.ev rfl)) rfl fun ac hs => ?_
          refine s_q hs (c_move (hs.ev rfl)) rfl fun ac hs => ?_
          refine s_q hs (c_loadW ty22 rfl (hs.ev rfl) (hs.seg (i := 5) rfl) (by rw [List.length_map, hl1l])) rfl fun ac hs => ?_
          refine s_q hs (c_move (hs.ev rfl)) rfl fun ac hs => ?_
          refine s_call hs fu116 (.cons (hs.ev rfl) (.cons (hs.ev rfl) (.cons (hs.ev rfl) (.cons (hs.ev rfl) (.cons (hs.ev rfl) .nil))))) (ref07_Fold d ep (q : Int) n1 l1 ws1 _ hl1l hwl1 _ (hq1.fr0 hs.fr)) rfl fun ac ww v94 hf hp hs => ?_
          obtain ⟨L', ⟨tv2, rfl, psB, hpsB, rfl⟩, hh⟩ := hp
          replace hs := hs _ hh
          rw [foldX, if_pos hfo, Int.toNat_natCast] at hpsB
          have hg1 : Good psA := good_of hpsA (by rw [gNodeTs_length]; have := pow64 (lv := n1) (by omega); omega) (gnode_good d ep ls n1 0)
          have hg2 : Good psB := good_of hpsB (by rw [gRiseTs_length]; omega) (grise_good d ep q l1 ws1 hl1l n1)
          refine s_q hs (c_move (hs.ev rfl)) rfl fun ac hs => ?_
          refine s_q hs (c_extract (hs.ev rfl) rfl) rfl fun ac hs => ?_
          refine s_q hs (c_extract (hs.ev rfl) rfl) rfl fun ac hs => ?_
          refine s_q hs (c_extract (hs.ev rfl) rfl) rfl fun ac hs => ?_
          refine s_alloc hs ty22 rfl fun ac ww g18 hs => ?_
          refine s_storeW (i := 0) hs ty22 rfl rfl rfl (by rw [List.length_map, foldB_length hl1l]) (all_map_B _) rfl fun ww hs => ?_
          refine s_q hs (c_assign (hs.ev rfl)) rfl fun ac hs => ?_
          refine s_q hs (c_assign (hs.ev rfl)) rfl fun ac hs => ?_
          refine s_end ?_
          replace hs := hs.sub (F' := [(14, _), (17, _), (19, _)]) ⟨rfl, rfl, rfl, trivial⟩
          refine then_n ?_
          refine wp_seq ?_
          refine wp_reg ?_
          refine s_call hs fu97 .nil (law07_awake _) rfl fun ac ww v98 hf hp hs => ?_
          obtain rfl := hp
          replace hs := hs [] (.nil _ _)
          refine s_q hs (c_move (hs.ev rfl)) rfl fun ac hs => ?_
          refine s_yes hs rfl rfl ?_
          refine s_q hs (c_move (hs.ev rfl)) rfl fun ac hs => ?_
          refine s_yes hs rfl rfl ?_
          refine s_q hs (c_move (hs.ev rfl)) rfl fun ac hs => ?_
          refine s_yes hs rfl rfl ?_
          refine s_call hs fu66 (.cons (hs.ev rfl) (.cons (hs.ev rfl) .nil)) (ref06_Clash psA psB _ _ hg1 hg2 _ (RdP.texts (hs.get (i := 3) rfl)) (RdP.texts (hs.get (i := 1) rfl))) rfl fun ac ww v102 hf hp hs => ?_
          rw [hpsA, hpsB, hcl2] at hp
          obtain rfl := hp
          replace hs := hs [] (.nil _ _)
          refine s_q hs (c_pick (hs.ev rfl) (hs.ev rfl) (hs.ev rfl)) rfl fun ac hs => ?_
          refine s_q hs (c_assign (hs.ev rfl)) rfl fun ac hs => ?_
          refine s_end ?_
          replace hs := hs.sub (F' := [(14, _)]) ⟨rfl, trivial⟩
          refine then_n ?_
          refine wp_ret ?_
          refine s_ret hs rfl (.tmp (hs.tmp rfl) .nil) rfl ⟨_, rfl, hs.fr, ?_⟩
          rfl
    · try simp only [decide_eq_true_eq, decide_eq_false_iff_not, Bool.not_eq_true', Bool.not_eq_false', Bool.and_eq_true, Bool.or_eq_true, Bool.or_eq_false_iff] at hc
      obtain ⟨n1, ws1, hn1, hn1l, hwl1, hq1⟩ : ∃ (n1 : Nat) (ws1 : List UInt8), n1 = pn ∧ n1 ≤ 20 ∧ ws1.length = n1 * 16 ∧ Rd w (.slice wad n1 wcap) n1 (ws1.map B) := ⟨pn, pws, rfl, by omega, hwl, hqw⟩
      subst hn1
      refine wp_skip ?_
      refine then_n ?_
      refine wp_seq ?_
      refine wp_seq ?_
      refine wp_region_rg pmix 13 (by kernel_rfl) rfl hs ?_
      simp only [List.take_succ_cons, List.take_zero]
      refine rg_q (fun ac ww h => c_move (h.ev rfl)) rfl ?_
      refine rg_q (fun ac ww h => c_move (h.ev rfl)) rfl ?_
      refine rg_q (fun ac ww h => c_move (h.ev rfl)) rfl ?_
      refine rg_q (fun ac ww h => c_lenS un109 (h.ev rfl)) rfl ?_
      refine rg_call fu96 (fun ac ww h => (.cons (h.ev rfl) .nil)) (fun ww hf => (hhl ▸ ref07_Height (m : Int) _)) rfl ?_
      refine rg_q (fun ac ww h => c_move (h.ev rfl)) rfl ?_
      refine rg_q (fun ac ww h => c_move (h.ev rfl)) rfl ?_
      refine rg_q (fun ac ww h => c_move (h.ev rfl)) rfl ?_
      refine rg_call fu99 (fun ac ww h => (.cons (h.ev rfl) (.cons (h.ev rfl) (.cons (h.ev rfl) .nil)))) (fun ww hf => ref07_Root d ep ls m lv _ hls (by omega) hm hhl _ ((hC _ hs.fr (hs.get (i := 1) rfl)).fr0 hf)) rfl ?_
      refine rg_q (fun ac ww h => c_move (h.ev rfl)) rfl ?_
      refine rg_q (fun ac ww h => c_loadW ty22 rfl (h.ev rfl) (h.blk (hs.seg (i := 2) rfl)) (by rw [List.length_map, hl1l])) rfl ?_
      refine rg_q (fun ac ww h => c_move (h.ev rfl)) rfl ?_
      refine rg_callE (rowS n1 ws1) (fun _ _ _ _ _ h => h) fu93 (fun ac ww h => ?_) rfl ?_
      · exact ⟨_, .cons (h.ev rfl) .nil, law03_To n1 ws1 _ hwl1 (by omega) _ ((hq1.fr0 hs.fr).fr0 h.fr)⟩
      refine rg_nil fun ac ww L' hf hfe hs => ?_
      simp only [List.drop_succ_cons, List.drop_zero]
      obtain ⟨v58, L58, M58, h58, e58, rfl, rfl⟩ := hfe
      replace hs := hs.add h58
      obtain rfl := e58
      refine s_call hs fu119 (.cons (hs.ev rfl) (.cons (hs.ev rfl) (.cons (hs.ev rfl) (.cons (hs.ev rfl) (.cons (hs.ev rfl) (.cons (hs.ev rfl) (.cons (hs.ev rfl) .nil))))))) (grove_Check (lv : Nat) (gNode d ep ls lv 0) (gNode_length hls16 lv 0 (by rw [hm]; omega)) d ep (q : Int) n1 l1 ws1 _ hl1l hwl1 _ (Rd.of_row (hs.get (i := 0) rfl))) rfl fun ac ww v59 hf hp hs => ?_
      obtain rfl := hp
      replace hs := hs [] (.nil _ _)
      refine s_q hs (c_not (hs.ev rfl)) rfl fun ac hs => ?_
      refine s_end ?_
      replace hs := hs.sub (F' := [(0, _), (1, _), (2, _), (3, _), (5, _), (6, _), (11, _), (14, _), (15, _), (60, _)]) ⟨rfl, rfl, rfl, rfl, rfl, rfl, rfl, rfl, rfl, rfl, trivial⟩
      refine then_n ?_
      refine s_cond hs rfl (fun hc => ?_) (fun hc => ?_)
      · skip
        refine wp_seq ?_
        refine wp_reg ?_
        refine s_call hs fu97 .nil (law07_awake _) rfl fun ac ww v61 hf hp hs => ?_
        obtain rfl := hp
        replace hs := hs [] (.nil _ _)
        refine s_q hs (c_move (hs.ev rfl)) rfl fun ac hs => ?_
        refine s_yes hs rfl rfl ?_
        refine s_q hs (c_move (hs.ev rfl)) rfl fun ac hs => ?_
        refine s_yes hs rfl rfl ?_
        refine s_q hs (c_tt (c_not (hs.ev rfl)) (by rw [hb]; rfl)) rfl fun ac hs => ?_
        refine s_q hs (c_pick (hs.ev rfl) (hs.ev rfl) (hs.ev rfl)) rfl fun ac hs => ?_
        refine s_q hs (c_assign (hs.ev rfl)) rfl fun ac hs => ?_
        refine s_end ?_
        replace hs := hs.sub (F' := [(0, _), (1, _), (2, _), (3, _), (5, _), (11, _), (14, _), (15, _)]) ⟨rfl, rfl, rfl, rfl, rfl, rfl, rfl, rfl, trivial⟩
        refine then_n ?_
        refine wp_ret ?_
        refine then_r ?_
        refine s_ret hs rfl (.tmp (hs.tmp rfl) .nil) rfl ⟨_, rfl, hs.fr, ?_⟩
        rfl
      · skip
        have hgood := chk_true (show chkB d ep (lv : Nat) (gNode d ep ls lv 0) (q : Nat) l1 ws1 n1 = true by simpa using hc)
        obtain ⟨rfl, hfo, hri⟩ := hgood
        refine wp_skip ?_
        refine then_n ?_
        refine wp_seq ?_
        refine wp_seq ?_
        obtain ⟨db, do_, dT, df, dall, hde, hdb, hds⟩ := Rd.bytes_at (hC _ hs.fr (hs.get (i := 2) rfl)) hls (by omega)
        cases hde
        refine wp_region_rg pmix 9 (by kernel_rfl) rfl hs ?_
        simp only [List.take_succ_cons, List.take_zero]
        refine rg_q (fun ac ww h => c_loadW ty22 rfl (h.ev rfl) (h.blk (hs.seg (i := 3) rfl)) (by rw [List.length_map, hl1l])) rfl ?_
        refine rg_q (fun ac ww h => c_move (h.ev rfl)) rfl ?_
        refine rg_q (fun ac ww h => c_move (h.ev rfl)) rfl ?_
        refine rg_q (fun ac ww h => c_idxS (j := q) un109 ty22 (h.ev rfl) (h.ev rfl) (by omega) (by omega)) rfl ?_
        refine rg_q (fun ac ww h => c_loadA ty22 rfl (h.ev rfl) (h.blk hdb) (rdpiece hds hls hqm) (by rw [List.length_map, hcl])) rfl ?_
        refine rg_q (fun ac ww h => c_eqlAB un22 ty5 eg22 (h.ev rfl) (h.ev rfl) hl1l hcl) rfl ?_
        refine rg_q (fun ac ww h => c_move (h.ev rfl)) rfl ?_
        refine rg_g rfl rfl (fun hg ac ww h => c_move (h.ev rfl)) rfl ?_
        refine rg_g rfl rfl (fun hg ac ww h => c_move (h.ev rfl)) rfl ?_
        refine rg_nil fun ac ww L' hf hfe hs => ?_
        simp only [List.drop_succ_cons, List.drop_zero]
        obtain rfl : L' = [] := hfe
        replace hs := hs.toL (List.nil_append _)
        refine s_gcall hs rfl rfl fu102 (fun hg => (.cons (gev (hs.ev rfl) hg) (.cons (gev (hs.ev rfl) hg) .nil))) (fun hg => ref03_SameSums n1 n1 ws1 (gPath d ep ls q n1) _ _ hwl1 hgl _ (hq1.fr0 hs.fr) (Rd.of_row (hs.get (i := 1) rfl))) rfl fun ac ww hf hs => ?_
        refine s_q hs (c_and (hs.ev rfl) (hs.ev rfl)) rfl fun ac hs => ?_
        refine s_end ?_
        replace hs := hs.sub (F' := [(0, _), (1, _), (2, _), (3, _), (5, _), (11, _), (14, _), (76, _)]) ⟨rfl, rfl, rfl, rfl, rfl, rfl, rfl, rfl, trivial⟩
        refine then_n ?_
        refine s_cond hs rfl (fun hc => ?_) (fun hc => ?_)
        · skip
          refine wp_seq ?_
          refine wp_reg ?_
          refine s_call hs fu97 .nil (law07_awake _) rfl fun ac ww v77 hf hp hs => ?_
          obtain rfl := hp
          replace hs := hs [] (.nil _ _)
          refine s_q hs (c_assign (hs.ev rfl)) rfl fun ac hs => ?_
          refine s_end ?_
          replace hs := hs.sub (F' := [(0, _), (1, _), (2, _), (3, _), (5, _), (11, _), (14, _)]) ⟨rfl, rfl, rfl, rfl, rfl, rfl, rfl, trivial⟩
          refine then_n ?_
          refine wp_ret ?_
          refine then_r ?_
          refine s_ret hs rfl (.tmp (hs.tmp rfl) .nil) rfl ⟨_, rfl, hs.fr, ?_⟩
          rfl
        · skip
          have hne : ¬ (l1 = chunk ls q ∧ ws1 = gPath d ep ls q n1) := by revert hc; simp
          have hcl2 := grove_sound hls2 hl1l hwl1 hq2 hri hne
          refine wp_skip ?_
          refine then_n ?_
          refine wp_seq ?_
          refine wp_reg ?_
          refine s_q hs (c_move (hs.ev rfl)) rfl fun ac hs => ?_
          refine s_q hs (c_move (hs.ev rfl)) rfl fun ac hs => ?_
          refine s_q hs (c_move (hs.ev rfl)) rfl fun ac hs => ?_
          refine s_q hs (c_move (hs.ev rfl)) rfl fun ac hs => ?_
          refine s_q hs (c_lenS un109 (hs.ev rfl)) rfl fun ac hs => ?_
          refine s_call hs fu96 (.cons (hs.ev rfl) .nil) ((hhl ▸ ref07_Height (m : Int) _)) rfl fun ac ww v84 hf hp hs => ?_
          obtain rfl := hp
          replace hs := hs [] (.nil _ _)
          refine s_call hs fu122 (.cons (hs.ev rfl) (.cons (hs.ev rfl) (.cons (hs.ev rfl) (.cons (hs.ev rfl) (.cons (hs.ev rfl) .nil))))) (ref07_Node d ep ls m _ hls (by omega) n1 (by omega) 0 (by rw [hm]; omega) _ (hC _ hs.fr (hs.get (i := 2) rfl))) rfl fun ac ww v85 hf hp hs => ?_
          obtain ⟨L', ⟨tv1, rfl, psA, hpsA, rfl⟩, hh⟩ := hp
          replace hs := hs _ hh
          refine s_q hs (c_move (hs.ev rfl)) rfl fun ac hs => ?_
          refine s_q hs (c_extract (hs.ev rfl) rfl) rfl fun ac hs => ?_
          refine s_q hs (c_extract (hs.ev rfl) rfl) rfl fun ac hs => ?_
          refine s_alloc hs ty22 rfl fun ac ww g16 hs => ?_
          refine s_storeW (i := 0) hs ty22 rfl rfl rfl (by rw [List.length_map]; exact gNode_length hls16 n1 0 (by rw [hm]; omega)) (all_map_B _) rfl fun ww hs => ?_
          refine s_q hs (c_assign (hs.ev rfl)) rfl fun ac hs => ?_
          refine s_end ?_
          replace hs := hs.sub (F' := [(0, _), (1, _), (3, _), (5, _), (11, _), (14, _), (17, _)]) ⟨rfl, rfl, rfl, rfl, rfl, rfl, rfl, trivial⟩
          refine then_n ?_
          refine wp_seq ?_
          refine wp_reg ?_
          refine s_q hs (c_move (hs.ev rfl)) rfl fun ac hs => ?_
          refine s_q hs (c_move (hs.ev rfl)) rfl fun ac hs => ?_
          refine s_q hs (c_move (hs.ev rfl)) rfl fun ac hs => ?_
          refine s_q hs (c_loadW ty22 rfl (hs.ev rfl) (hs.seg (i := 5) rfl) (by rw [List.length_map, hl1l])) rfl fun ac hs => ?_
          refine s_q hs (c_move (hs.ev rfl)) rfl fun ac hs => ?_
          refine s_call hs fu116 (.cons (hs.ev rfl) (.cons (hs.ev rfl) (.cons (hs.ev rfl) (.cons (hs.ev rfl) (.cons (hs.ev rfl) .nil))))) (ref07_Fold d ep (q : Int) n1 l1 ws1 _ hl1l hwl1 _ (hq1.fr0 hs.fr)) rfl fun ac ww v94 hf hp hs => ?_
          obtain ⟨L', ⟨tv2, rfl, psB, hpsB, rfl⟩, hh⟩ := hp
          replace hs := hs _ hh
          rw [foldX, if_pos hfo, Int.toNat_natCast] at hpsB
          have hg1 : Good psA := good_of hpsA (by rw [gNodeTs_length]; have := pow64 (lv := n1) (by omega); omega) (gnode_good d ep ls n1 0)
          have hg2 : Good psB := good_of hpsB (by rw [gRiseTs_length]; omega) (grise_good d ep q l1 ws1 hl1l n1)
          refine s_q hs (c_move (hs.ev rfl)) rfl fun ac hs => ?_
          refine s_q hs (c_extract (hs.ev rfl) rfl) rfl fun ac hs => ?_
          refine s_q hs (c_extract (hs.ev rfl) rfl) rfl fun ac hs => ?_
          refine s_q hs (c_extract (hs.ev rfl) rfl) rfl fun ac hs => ?_
          refine s_alloc hs ty22 rfl fun ac ww g18 hs => ?_
          refine s_storeW (i := 0) hs ty22 rfl rfl rfl (by rw [List.length_map, foldB_length hl1l]) (all_map_B _) rfl fun ww hs => ?_
          refine s_q hs (c_assign (hs.ev rfl)) rfl fun ac hs => ?_
          refine s_q hs (c_assign (hs.ev rfl)) rfl fun ac hs => ?_
          refine s_end ?_
          replace hs := hs.sub (F' := [(14, _), (17, _), (19, _)]) ⟨rfl, rfl, rfl, trivial⟩
          refine then_n ?_
          refine wp_seq ?_
          refine wp_reg ?_
          refine s_call hs fu97 .nil (law07_awake _) rfl fun ac ww v98 hf hp hs => ?_
          obtain rfl := hp
          replace hs := hs [] (.nil _ _)
          refine s_q hs (c_move (hs.ev rfl)) rfl fun ac hs => ?_
          refine s_yes hs rfl rfl ?_
          refine s_q hs (c_move (hs.ev rfl)) rfl fun ac hs => ?_
          refine s_yes hs rfl rfl ?_
          refine s_q hs (c_move (hs.ev rfl)) rfl fun ac hs => ?_
          refine s_yes hs rfl rfl ?_
          refine s_call hs fu66 (.cons (hs.ev rfl) (.cons (hs.ev rfl) .nil)) (ref06_Clash psA psB _ _ hg1 hg2 _ (RdP.texts (hs.get (i := 3) rfl)) (RdP.texts (hs.get (i := 1) rfl))) rfl fun ac ww v102 hf hp hs => ?_
          rw [hpsA, hpsB, hcl2] at hp
          obtain rfl := hp
          replace hs := hs [] (.nil _ _)
          refine s_q hs (c_pick (hs.ev rfl) (hs.ev rfl) (hs.ev rfl)) rfl fun ac hs => ?_
          refine s_q hs (c_assign (hs.ev rfl)) rfl fun ac hs => ?_
          refine s_end ?_
          replace hs := hs.sub (F' := [(14, _)]) ⟨rfl, trivial⟩
          refine then_n ?_
          refine wp_ret ?_
          refine s_ret hs rfl (.tmp (hs.tmp rfl) .nil) rfl ⟨_, rfl, hs.fr, ?_⟩
          rfl
end Go.Proofs.Ytmgnnclkjkbmdaa
end
