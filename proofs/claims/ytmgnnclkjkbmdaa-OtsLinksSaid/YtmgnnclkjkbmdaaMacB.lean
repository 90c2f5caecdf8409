/- What a seed gives. -/
import Derived.Test.YtmgnnclkjkbmdaaRef05B
set_option linter.unusedSimpArgs false
set_option linter.unusedVariables false
set_option maxRecDepth 100000
namespace Go.Proofs.Ytmgnnclkjkbmdaa
open Go Go.Fw

open Sha
theorem i8_nat (n : Nat) : i8 (n : Int) = UInt8.ofNat n := by
  apply UInt8.toNat_inj.1
  have h := i8_toNat (n : Int)
  rw [UInt8.toNat_ofNat']
  omega
theorem i8_mod (n : Nat) : i8 ((n : Int) % 256) = UInt8.ofNat n := by
  apply UInt8.toNat_inj.1
  have h := i8_toNat ((n : Int) % 256)
  rw [UInt8.toNat_ofNat']
  omega
theorem nums_succ (nums : List UInt64) (i : Nat) (h : i < nums.length) : (nums.take (i + 1)).flatMap be64 = (nums.take i).flatMap be64 ++ be64 (nums.getD i 0) := by
  rw [List.take_succ_eq_append_getElem h, List.flatMap_append]
  have h2 : nums.getD i 0 = nums[i] := by simp [List.getD, h]
  rw [h2]
  simp
theorem nums_len (nums : List UInt64) : (nums.flatMap be64).length = 8 * nums.length := by
  induction nums with
  | nil => rfl
  | cons x t ih => rw [List.flatMap_cons, List.length_append, ih, be64_length, List.length_cons]; omega

-- mac.Prf
set_option maxHeartbeats 4000000 in
theorem mac_Prf (seed : List UInt8) (kind : UInt8) (nums : List UInt64) (nv : Value) (hsd : seed.length = 32) (hle : nums.length ≤ 17592186044000) (w : World) (hq : RdV w nv nums) : Ctr Try.prog 105 [.agg (seed.map B).toArray, B kind, nv] w (fun _ => False) (fun v _ => v = .agg ((prf seed kind nums).map B).toArray) := by
  have hpl := hq.le
  obtain ⟨nad, ncap, rfl, hnc, hnm⟩ := hq.sl
  refine fn_start (N := 29) Try.func105 rfl rfl rfl fun ac hk => ?_
  have hs := St.start hk w
  refine wp_seq ?_
  refine wp_reg ?_
  refine s_box hs rfl rfl rfl fun ac ww g3 hs => ?_
  refine s_alloc hs ty54 rfl fun ac ww g6 hs => ?_
  refine s_end ?_
  replace hs := hs.sub (F' := [(1, _), (2, _), (3, _), (6, _)]) ⟨rfl, rfl, rfl, rfl, trivial⟩
  refine then_n ?_
  refine wp_seq ?_
  refine wp_reg ?_
  refine s_q hs (c_move (hs.ev rfl)) rfl fun ac hs => ?_
  refine s_q hs (c_move (hs.ev rfl)) rfl fun ac hs => ?_
  refine s_q hs (c_lenS un124 (hs.ev rfl)) rfl fun ac hs => ?_
  refine s_q hs (c_cvIB un3 un5 (hs.ev rfl)) rfl fun ac hs => ?_
  refine s_bslice hs un34 ty5 (.cons (hs.ev rfl) (.cons (hs.ev rfl) .nil)) rfl (by simp [Value.cells]) (by decide) rfl rfl fun ac ww g14 hs => ?_
  refine s_q hs (c_assign (hs.ev rfl)) rfl fun ac hs => ?_
  refine s_end ?_
  replace hs := (hs.segrow (i := 0) (n := 2) (sz := 1) rfl rfl (by decide)).toL (show _ = [.row _ (kind :: UInt8.ofNat nums.length :: (nums.take 0).flatMap be64).length ((kind :: UInt8.ofNat nums.length :: (nums.take 0).flatMap be64).map B) 5 1, _, _] from by rw [i8_nat]; rfl)
  replace hs := hs.sub (F' := [(2, _), (3, _), (6, _), (7, _)]) ⟨rfl, rfl, rfl, rfl, trivial⟩
  refine then_n ?_
  refine wp_seq ?_
  refine wp_seq ?_
  refine wp_reg ?_
  refine s_q hs (c_move (hs.ev rfl)) rfl fun ac hs => ?_
  refine s_q hs (c_lenS un124 (hs.ev rfl)) rfl fun ac hs => ?_
  refine s_q hs (c_move (hs.ev rfl)) rfl fun ac hs => ?_
  refine s_end ?_
  replace hs := hs.sub (F' := [(3, _), (6, _), (7, _), (15, _), (16, _), (17, _)]) ⟨rfl, rfl, rfl, rfl, rfl, rfl, trivial⟩
  refine then_n ?_
  refine wp_block ?_
  refine s_loop hs (X := Nat × Value) (fun x => [(7, x.2), (17, I x.1)]) [(3, _), (6, _), (15, _), (16, _)] (fun x => [.row x.2 (kind :: UInt8.ofNat nums.length :: (nums.take x.1).flatMap be64).length ((kind :: UInt8.ofNat nums.length :: (nums.take x.1).flatMap be64).map B) 5 1, .seg g6 ((List.replicate 16 (0 : UInt8)).map B) 54, .seg g3 (seed.map B) 41]) (fun n x => x.1 ≤ nums.length ∧ n = nums.length - x.1) (nums.length) ((0, _)) (⟨Nat.zero_le _, rfl⟩) ⟨rfl, rfl, rfl, rfl, rfl, rfl, trivial⟩ rfl ?_
  rintro n ⟨i, v⟩ ac ww hok hs
  simp only [List.cons_append, List.nil_append] at hs
  obtain ⟨hi, rfl⟩ := hok
  simp only at hi hs
  have hnl : ((nums.take i).flatMap be64).length = 8 * i := by rw [nums_len, List.length_take]; omega
  refine wp_seq ?_
  refine wp_reg ?_
  refine s_q hs (c_lssI (hs.ev rfl) (hs.ev rfl)) rfl fun ac hs => ?_
  refine s_end ?_
  refine then_n ?_
  refine wp_seq ?_
  refine s_cond hs rfl (fun hc => ?_) (fun hc => ?_)
  · try simp only [decide_eq_true_eq, decide_eq_false_iff_not, Bool.not_eq_true', Bool.not_eq_false', Bool.and_eq_true, Bool.or_eq_true, Bool.or_eq_false_iff] at hc
    obtain ⟨pb, po, pT, pf, pall, rfl, hpb, hps⟩ := hq.at' (by omega)
    refine wp_skip ?_
    refine then_n ?_
    refine wp_seq ?_
    refine wp_block ?_
    refine wp_seq ?_
    refine wp_reg ?_
    refine s_q hs (c_idxS (j := i) un124 ty210 (hs.ev rfl) (hs.ev rfl) (by omega) (by omega)) rfl fun ac hs => ?_
    refine s_q hs (c_loadS un210 rfl (hs.ev rfl) (hs.old hpb id) (seg_get 0 hps (by omega))) rfl fun ac hs => ?_
    refine s_q hs (c_assign (hs.ev rfl)) rfl fun ac hs => ?_
    refine s_end ?_
    refine then_n ?_
    refine wp_reg ?_
    refine s_q hs (c_move (hs.ev rfl)) rfl fun ac hs => ?_
    refine s_q hs (c_move (hs.ev rfl)) rfl fun ac hs => ?_
    refine s_call hs fu172 (.cons (hs.ev rfl) .nil) (mac_number _ _) rfl fun ac ww v23 hf hp hs => ?_
    obtain ⟨qv, rfl, hh⟩ := hp
    replace hs := hs _ hh
    refine s_appB (i := 1) hs un34 ty5 rfl rfl rfl (RdB.row (hs.get (i := 0) rfl)) (by simp only [List.length_cons, hnl, be64_length]; omega) rfl fun ac ww v24 hf hnil hs => ?_
    refine s_q hs (c_assign (hs.ev rfl)) rfl fun ac hs => ?_
    refine s_end ?_
    refine blk_n ?_
    refine then_n ?_
    refine wp_reg ?_
    refine s_q hs (c_addI (hs.ev rfl) (hs.ev rfl) (by omega) (by omega)) rfl fun ac hs => ?_
    refine s_q hs (c_move (hs.ev rfl)) rfl fun ac hs => ?_
    refine s_end ?_
    refine then_n ?_
    replace hs := hs.pick (L' := [_, _, _]) (.cons _ (.refl _))
    exact ⟨nums.length - (i + 1), by (try simp only); omega, (i + 1, _), ⟨by (try simp only); omega, rfl⟩, St.next hs ⟨rfl, rfl, rfl, rfl, rfl, rfl, trivial⟩ (by rw [nums_succ nums i (by omega)]; rfl)⟩
  · try simp only [decide_eq_true_eq, decide_eq_false_iff_not, Bool.not_eq_true', Bool.not_eq_false', Bool.and_eq_true, Bool.or_eq_true, Bool.or_eq_false_iff] at hc
    obtain rfl : i = nums.length := by omega
    rw [List.take_length] at hs hnl
    refine wp_exit ?_
    refine then_e ?_
    refine then_e ?_
    refine blk_hit ?_
    refine then_n ?_
    refine wp_seq ?_
    refine wp_reg ?_
    refine s_q hs (c_sliceA un41 ty5 (hs.ev rfl)) rfl fun ac hs => ?_
    refine s_q hs (c_move (hs.ev rfl)) rfl fun ac hs => ?_
    refine s_call hs fu80 (.cons (hs.ev rfl) (.cons (hs.ev rfl) .nil)) (mac_Tag seed (kind :: UInt8.ofNat nums.length :: nums.flatMap be64) _ _ (by omega) (by simp only [List.length_cons, hnl]; omega) _ (RdB.segn (l := seed) (hs.seg (i := 2) rfl) hsd (by decide)) (RdB.row (hs.get (i := 0) rfl))) rfl fun ac ww v28 hf hp hs => ?_
    obtain rfl := hp
    replace hs := hs [] (.nil _ _)
    refine s_storeW (i := 1) hs ty54 rfl rfl rfl (by simp) (all_map_B _) (by simp) fun ww hs => ?_
    refine s_end ?_
    replace hs := hs.sub (F' := [(6, _)]) ⟨rfl, trivial⟩
    refine then_n ?_
    refine wp_ret ?_
    refine s_ret hs rfl (.cell (hs.tmp rfl) (run_loadA ty54 rfl (hs.seg (i := 1) rfl) (List.take_of_length_le (by simp)) (by simp)) .nil) rfl ⟨_, rfl, hs.fr, ?_⟩
    rfl

-- fingerpostref05.Prf
set_option maxHeartbeats 4000000 in
theorem ref05_Prf (seed : List UInt8) (kind : UInt8) (nums : List UInt64) (nv : Value) (hsd : seed.length = 32) (hle : nums.length ≤ 17592186044000) (w : World) (hq : RdV w nv nums) : Ctr Try.prog 106 [.agg (seed.map B).toArray, B kind, nv] w (fun _ => False) (fun v _ => v = .agg ((prf seed kind nums).map B).toArray) := by
  have hpl := hq.le
  obtain ⟨nad, ncap, rfl, hnc, hnm⟩ := hq.sl
  refine fn_start (N := 31) Try.func106 rfl rfl rfl fun ac hk => ?_
  have hs := St.start hk w
  refine wp_seq ?_
  refine wp_reg ?_
  refine s_box hs rfl rfl rfl fun ac ww g3 hs => ?_
  refine s_alloc hs ty22 rfl fun ac ww g6 hs => ?_
  refine s_end ?_
  replace hs := hs.sub (F' := [(1, _), (2, _), (3, _), (6, _)]) ⟨rfl, rfl, rfl, rfl, trivial⟩
  refine then_n ?_
  refine wp_seq ?_
  refine wp_reg ?_
  refine s_q hs (c_move (hs.ev rfl)) rfl fun ac hs => ?_
  refine s_q hs (c_move (hs.ev rfl)) rfl fun ac hs => ?_
  refine s_q hs (c_lenS un124 (hs.ev rfl)) rfl fun ac hs => ?_
  refine s_q hs (c_remI (hs.ev rfl) (hs.ev rfl) (by omega) (by omega)) rfl fun ac hs => ?_
  refine s_q hs (c_cvIB un3 un5 (hs.ev rfl)) rfl fun ac hs => ?_
  refine s_bslice hs un34 ty5 (.cons (hs.ev rfl) (.cons (hs.ev rfl) .nil)) rfl (by simp [Value.cells]) (by decide) rfl rfl fun ac ww g14 hs => ?_
  refine s_q hs (c_assign (hs.ev rfl)) rfl fun ac hs => ?_
  refine s_end ?_
  replace hs := (hs.segrow (i := 0) (n := 2) (sz := 1) rfl rfl (by decide)).toL (show _ = [.row _ (kind :: UInt8.ofNat nums.length :: (nums.take 0).flatMap be64).length ((kind :: UInt8.ofNat nums.length :: (nums.take 0).flatMap be64).map B) 5 1, _, _] from by rw [i8_mod]; rfl)
  replace hs := hs.sub (F' := [(2, _), (3, _), (6, _), (7, _)]) ⟨rfl, rfl, rfl, rfl, trivial⟩
  refine then_n ?_
  refine wp_seq ?_
  refine wp_seq ?_
  refine wp_reg ?_
  refine s_q hs (c_assign (hs.ev rfl)) rfl fun ac hs => ?_
  refine s_end ?_
  refine then_n ?_
  refine wp_block ?_
  refine s_loop hs (X := Nat × Value) (fun x => [(7, x.2), (8, I x.1)]) [(2, _), (3, _), (6, _)] (fun x => [.row x.2 (kind :: UInt8.ofNat nums.length :: (nums.take x.1).flatMap be64).length ((kind :: UInt8.ofNat nums.length :: (nums.take x.1).flatMap be64).map B) 5 1, .seg g6 ((List.replicate 16 (0 : UInt8)).map B) 22, .seg g3 (seed.map B) 40]) (fun n x => x.1 ≤ nums.length ∧ n = nums.length - x.1) (nums.length) ((0, _)) (⟨Nat.zero_le _, rfl⟩) ⟨rfl, rfl, rfl, rfl, rfl, trivial⟩ rfl ?_
  rintro n ⟨i, v⟩ ac ww hok hs
  simp only [List.cons_append, List.nil_append] at hs
  obtain ⟨hi, rfl⟩ := hok
  simp only at hi hs
  have hnl : ((nums.take i).flatMap be64).length = 8 * i := by rw [nums_len, List.length_take]; omega
  refine wp_seq ?_
  refine wp_seq ?_
  refine wp_reg ?_
  refine s_q hs (c_move (hs.ev rfl)) rfl fun ac hs => ?_
  refine s_q hs (c_move (hs.ev rfl)) rfl fun ac hs => ?_
  refine s_q hs (c_lenS un124 (hs.ev rfl)) rfl fun ac hs => ?_
  refine s_q hs (c_lssI (hs.ev rfl) (hs.ev rfl)) rfl fun ac hs => ?_
  refine s_end ?_
  refine then_n ?_
  refine s_cond hs rfl (fun hc => ?_) (fun hc => ?_)
  · try simp only [decide_eq_true_eq, decide_eq_false_iff_not, Bool.not_eq_true', Bool.not_eq_false', Bool.and_eq_true, Bool.or_eq_true, Bool.or_eq_false_iff] at hc
    obtain ⟨pb, po, pT, pf, pall, rfl, hpb, hps⟩ := hq.at' (by omega)
    refine wp_skip ?_
    refine then_n ?_
    refine wp_seq ?_
    refine wp_block ?_
    refine wp_reg ?_
    refine s_q hs (c_move (hs.ev rfl)) rfl fun ac hs => ?_
    refine s_q hs (c_move (hs.ev rfl)) rfl fun ac hs => ?_
    refine s_q hs (c_move (hs.ev rfl)) rfl fun ac hs => ?_
    refine s_q hs (c_idxS (j := i) un124 ty210 (hs.ev rfl) (hs.ev rfl) (by omega) (by omega)) rfl fun ac hs => ?_
    refine s_q hs (c_loadS un210 rfl (hs.ev rfl) (hs.old hpb id) (seg_get 0 hps (by omega))) rfl fun ac hs => ?_
    refine s_call hs fu173 (.cons (hs.ev rfl) (.cons (hs.ev rfl) .nil)) (ref05_Num _ 8 (by omega) _) rfl fun ac ww v26 hf hp hs => ?_
    obtain ⟨gn, rfl, hh⟩ := hp
    replace hs := hs _ hh
    refine s_appB (i := 1) hs un34 ty5 rfl rfl rfl (RdB.segn (l := be64 _) (hs.seg (i := 0) rfl) (be64_length _) (by decide)) (by simp only [List.length_cons, hnl, be64_length]; omega) rfl fun ac ww v27 hf hnil hs => ?_
    refine s_q hs (c_assign (hs.ev rfl)) rfl fun ac hs => ?_
    refine s_end ?_
    refine blk_n ?_
    refine then_n ?_
    refine wp_reg ?_
    refine s_q hs (c_move (hs.ev rfl)) rfl fun ac hs => ?_
    refine s_q hs (c_addI (hs.ev rfl) (hs.ev rfl) (by omega) (by omega)) rfl fun ac hs => ?_
    refine s_q hs (c_assign (hs.ev rfl)) rfl fun ac hs => ?_
    refine s_end ?_
    refine then_n ?_
    replace hs := hs.pick (L' := [_, _, _]) (.cons _ (.refl _))
    exact ⟨nums.length - (i + 1), by (try simp only); omega, (i + 1, _), ⟨by (try simp only); omega, rfl⟩, St.next hs ⟨rfl, rfl, rfl, rfl, rfl, trivial⟩ (by rw [nums_succ nums i (by omega)]; rfl)⟩
  · try simp only [decide_eq_true_eq, decide_eq_false_iff_not, Bool.not_eq_true', Bool.not_eq_false', Bool.and_eq_true, Bool.or_eq_true, Bool.or_eq_false_iff] at hc
    obtain rfl : i = nums.length := by omega
    rw [List.take_length] at hs hnl
    refine wp_exit ?_
    refine then_e ?_
    refine then_e ?_
    refine blk_hit ?_
    refine then_n ?_
    refine wp_seq ?_
    refine wp_reg ?_
    refine s_q hs (c_sliceA un40 ty5 (hs.ev rfl)) rfl fun ac hs => ?_
    refine s_q hs (c_move (hs.ev rfl)) rfl fun ac hs => ?_
    refine s_call hs fu81 (.cons (hs.ev rfl) (.cons (hs.ev rfl) .nil)) (ref05_Tag seed (kind :: UInt8.ofNat nums.length :: nums.flatMap be64) _ _ (by omega) (by simp only [List.length_cons, hnl]; omega) _ (RdB.segn (l := seed) (hs.seg (i := 2) rfl) hsd (by decide)) (RdB.row (hs.get (i := 0) rfl))) rfl fun ac ww v30 hf hp hs => ?_
    obtain rfl := hp
    replace hs := hs [] (.nil _ _)
    refine s_storeW (i := 1) hs ty22 rfl rfl rfl (by simp) (all_map_B _) (by simp) fun ww hs => ?_
    refine s_end ?_
    replace hs := hs.sub (F' := [(6, _)]) ⟨rfl, trivial⟩
    refine then_n ?_
    refine wp_ret ?_
    refine s_ret hs rfl (.cell (hs.tmp rfl) (run_loadA ty22 rfl (hs.seg (i := 1) rfl) (List.take_of_length_le (by simp)) (by simp)) .nil) rfl ⟨_, rfl, hs.fr, ?_⟩
    rfl

end Go.Proofs.Ytmgnnclkjkbmdaa
