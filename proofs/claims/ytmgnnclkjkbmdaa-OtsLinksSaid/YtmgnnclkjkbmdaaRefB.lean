/- Padding, counts and digits as the document has them. -/
import Derived.Test.YtmgnnclkjkbmdaaRefA
import Derived.Test.YtmgnnclkjkbmdaaRefSpec
set_option linter.unusedSimpArgs false
set_option linter.unusedVariables false
set_option maxRecDepth 100000
namespace Go.Proofs.Ytmgnnclkjkbmdaa
open Go Go.Fw

open Sha
theorem i64_nat (n : Nat) (h : n < 18446744073709551616) : i64 (n : Int) = UInt64.ofNat n := by
  apply UInt64.toNat_inj.1
  have h1 := i64_toNat (n : Int)
  rw [UInt64.toNat_ofNat']
  omega

-- fingerpostref04.Pad
set_option maxHeartbeats 4000000 in
theorem ref04_Pad (p : List UInt8) (pv : Value) (hle : p.length ≤ 140737488355200) (w : World) (hq : RdB w pv p) : Ctr Try.prog 46 [pv] w (fun _ => False) (fun v w' => ∃ v', v = v' ∧ Has w.heap.size w' [.row v' (pad p).length ((pad p).map B) 5 1]) := by
  obtain ⟨pad_, pcap, rfl, hpc, hpm⟩ := Rd.sl hq
  refine fn_start (N := 38) Try.func46 rfl rfl rfl fun ac hk => ?_
  have hs := St.start hk w
  refine wp_seq ?_
  refine wp_reg ?_
  refine s_q hs (c_assign (hs.ev rfl)) rfl fun ac hs => ?_
  refine s_end ?_
  refine then_n ?_
  refine wp_seq ?_
  refine wp_reg ?_
  refine s_bslice hs un34 ty5 .nil rfl (by simp [Value.cells]) (by decide) rfl rfl fun ac ww g7 hs => ?_
  refine s_q hs (c_move (hs.ev rfl)) rfl fun ac hs => ?_
  replace hs := hs.segrow (i := 0) (n := 0) (sz := 1) rfl rfl (by decide)
  refine s_appB (i := 0) (l := []) hs un34 ty5 rfl rfl rfl (hq.fr0 hs.fr) (by simp; omega) rfl fun ac ww v9 hf hnil hs => ?_
  refine s_q hs (c_assign (hs.ev rfl)) rfl fun ac hs => ?_
  refine s_end ?_
  replace hs := hs.sub (F' := [(0, _), (2, _), (3, _)]) ⟨rfl, rfl, rfl, trivial⟩
  refine then_n ?_
  refine wp_seq ?_
  refine wp_reg ?_
  refine s_q hs (c_move (hs.ev rfl)) rfl fun ac hs => ?_
  refine s_bslice hs un34 ty5 (.cons (hs.ev rfl) .nil) rfl (by simp [Value.cells]) (by decide) rfl rfl fun ac ww g11 hs => ?_
  refine s_appB (i := 1) hs un34 ty5 rfl rfl rfl (RdB.seg (l := [0x80]) (hs.seg (i := 0) rfl) (by decide)) (by simp; omega) rfl fun ac ww v12 hf hnil hs => ?_
  refine s_q hs (c_assign (hs.ev rfl)) rfl fun ac hs => ?_
  refine s_end ?_
  replace hs := hs.pick (L' := [_]) (.cons _ (.refl _))
  replace hs := hs.sub (F' := [(0, _), (2, _), (3, _)]) ⟨rfl, rfl, rfl, trivial⟩
  refine then_n ?_
  refine wp_seq ?_
  refine wp_block ?_
  refine s_loop hs (X := Nat × Value) (fun x => [(3, x.2)]) [(0, _), (2, _)] (fun x => [.row x.2 ((p ++ [0x80]) ++ List.replicate x.1 0).length (((p ++ [0x80]) ++ List.replicate x.1 0).map B) 5 1]) (fun n x => x.1 ≤ zc p.length ∧ n = zc p.length - x.1) (_) ((0, _)) (⟨Nat.zero_le _, rfl⟩) ⟨rfl, rfl, rfl, trivial⟩ (by simp only [List.replicate_zero, List.append_nil]; try rfl) ?_
  rintro n ⟨j, v⟩ ac ww hok hs
  simp only [List.cons_append, List.nil_append] at hs
  obtain ⟨hj, rfl⟩ := hok
  simp only at hj hs
  obtain ⟨ad, cap, rfl, _, _⟩ := Rd.sl (RdB.row (hs.get (i := 0) rfl))
  have hll : ((p ++ [0x80]) ++ List.replicate j (0 : UInt8)).length = p.length + 1 + j := by simp; omega
  simp only [zc] at hj
  refine wp_seq ?_
  refine wp_seq ?_
  refine wp_reg ?_
  refine s_q hs (c_move (hs.ev rfl)) rfl fun ac hs => ?_
  refine s_q hs (c_lenS un34 (hs.ev rfl)) rfl fun ac hs => ?_
  refine s_q hs (c_remI (hs.ev rfl) (hs.ev rfl) (by omega) (by omega)) rfl fun ac hs => ?_
  refine s_q hs (c_neqI (hs.ev rfl) (hs.ev rfl)) rfl fun ac hs => ?_
  refine s_end ?_
  refine then_n ?_
  refine s_cond hs rfl (fun hc => ?_) (fun hc => ?_)
  · try simp only [decide_eq_true_eq, decide_eq_false_iff_not, Bool.not_eq_true', Bool.not_eq_false', Bool.and_eq_true, Bool.or_eq_true, Bool.or_eq_false_iff] at hc
    refine wp_skip ?_
    refine then_n ?_
    refine wp_block ?_
    refine wp_reg ?_
    refine s_q hs (c_move (hs.ev rfl)) rfl fun ac hs => ?_
    refine s_bslice hs un34 ty5 (.cons (hs.ev rfl) .nil) rfl (by simp [Value.cells]) (by decide) rfl rfl fun ac ww g18 hs => ?_
    refine s_appB (i := 1) hs un34 ty5 rfl rfl rfl (RdB.seg (l := [0]) (hs.seg (i := 0) rfl) (by decide)) (by rw [hll]; simp; omega) rfl fun ac ww v19 hf hnil hs => ?_
    refine s_q hs (c_assign (hs.ev rfl)) rfl fun ac hs => ?_
    refine s_end ?_
    refine blk_n ?_
    refine then_n ?_
    replace hs := hs.pick (L' := [_]) (.cons _ (.refl _))
    exact ⟨zc p.length - (j + 1), by rw [hll] at hc; simp only [zc]; omega, (j + 1, _), ⟨by rw [hll] at hc; simp only [zc]; omega, rfl⟩, St.next hs ⟨rfl, rfl, rfl, trivial⟩ (by simp [List.replicate_succ', ← List.append_assoc])⟩
  · try simp only [decide_eq_true_eq, decide_eq_false_iff_not, Bool.not_eq_true', Bool.not_eq_false', Bool.and_eq_true, Bool.or_eq_true, Bool.or_eq_false_iff] at hc
    have hjj : j = zc p.length := by rw [hll] at hc; simp only [zc]; omega
    subst hjj
    have hi := i64_nat p.length (by omega)
    refine wp_exit ?_
    refine then_e ?_
    refine then_e ?_
    refine blk_hit ?_
    refine then_n ?_
    refine wp_seq ?_
    refine wp_reg ?_
    refine s_q hs (c_move (hs.ev rfl)) rfl fun ac hs => ?_
    refine s_q hs (c_lenS un34 (hs.ev rfl)) rfl fun ac hs => ?_
    refine s_q hs (c_cvIV un3 un210 (hs.ev rfl)) rfl fun ac hs => ?_
    refine s_q hs (c_mulV (hs.ev rfl) (St.ev (v := V 8) hs rfl)) rfl fun ac hs => ?_
    refine s_q hs (c_assign (hs.ev rfl)) rfl fun ac hs => ?_
    refine s_end ?_
    replace hs := hs.sub (F' := [(2, _), (3, _), (4, _)]) ⟨rfl, rfl, rfl, trivial⟩
    refine then_n ?_
    refine wp_seq ?_
    refine wp_reg ?_
    refine s_alloc hs ty211 rfl fun ac ww g5 hs => ?_
    refine s_end ?_
    refine then_n ?_
    refine wp_seq ?_
    refine wp_seq ?_
    refine wp_reg ?_
    refine s_q hs (c_assign (hs.ev rfl)) rfl fun ac hs => ?_
    refine s_end ?_
    refine then_n ?_
    refine wp_block ?_
    refine s_loop hs (X := Nat) (fun k => [(4, V (qd (UInt64.ofNat p.length * 8) k)), (6, I (7 - (k : Int)))]) [(2, _), (3, _), (5, _)] (fun k => [.seg g5 ((lo64 (UInt64.ofNat p.length * 8) k).map B) 211, .row _ ((p ++ [0x80]) ++ List.replicate (zc p.length) 0).length (((p ++ [0x80]) ++ List.replicate (zc p.length) 0).map B) 5 1]) (fun n k => k ≤ 8 ∧ n = 8 - k) (8) (0) (⟨by omega, rfl⟩) ⟨(by rw [hi]; rfl), rfl, rfl, rfl, rfl, trivial⟩ rfl ?_
    rintro n k ac ww hok hs
    simp only [List.cons_append, List.nil_append] at hs
    obtain ⟨hk, rfl⟩ := hok
    have hzl := lo64_len (UInt64.ofNat p.length * 8) k hk
    refine wp_seq ?_
    refine wp_seq ?_
    refine wp_reg ?_
    refine s_q hs (c_move (hs.ev rfl)) rfl fun ac hs => ?_
    refine s_q hs (c_geqI (hs.ev rfl) (hs.ev rfl)) rfl fun ac hs => ?_
    refine s_end ?_
    refine then_n ?_
    refine s_cond hs rfl (fun hc => ?_) (fun hc => ?_)
    · try simp only [decide_eq_true_eq, decide_eq_false_iff_not, Bool.not_eq_true', Bool.not_eq_false', Bool.and_eq_true, Bool.or_eq_true, Bool.or_eq_false_iff] at hc
      refine wp_skip ?_
      refine then_n ?_
      refine wp_seq ?_
      refine wp_block ?_
      refine wp_seq ?_
      refine wp_reg ?_
      refine s_q hs (c_move (hs.ev rfl)) rfl fun ac hs => ?_
      refine s_q hs (c_move (hs.ev rfl)) rfl fun ac hs => ?_
      refine s_q hs (c_remV (hs.ev rfl) (St.ev (v := V 256) hs rfl) (by decide)) rfl fun ac hs => ?_
      refine s_q hs (c_cvVB un210 un5 (hs.ev rfl)) rfl fun ac hs => ?_
      refine s_q hs (c_idxA (j := 7 - k) un211 ty5 (hs.ev rfl) (hs.ev rfl) (by omega) (by omega)) rfl fun ac hs => ?_
      refine s_store (i := 0) hs ty5 rfl rfl rfl rfl rfl rfl (by rw [List.length_map]; omega) ((map_set _ (by omega)).trans (congrArg (List.map B) ((congrArg (fun z => List.set _ _ z) (qd_byte _ k (by omega))).trans (lo64_set _ k (by omega))))) fun ww hs => ?_
      refine s_end ?_
      refine then_n ?_
      refine wp_reg ?_
      refine s_q hs (c_move (hs.ev rfl)) rfl fun ac hs => ?_
      refine s_q hs (c_quoV (hs.ev rfl) (St.ev (v := V 256) hs rfl) (by decide)) rfl fun ac hs => ?_
      refine s_q hs (c_assign (hs.ev rfl)) rfl fun ac hs => ?_
      refine s_end ?_
      refine blk_n ?_
      refine then_n ?_
      refine wp_reg ?_
      refine s_q hs (c_move (hs.ev rfl)) rfl fun ac hs => ?_
      refine s_q hs (c_subI (hs.ev rfl) (hs.ev rfl) (by omega) (by omega)) rfl fun ac hs => ?_
      refine s_q hs (c_assign (hs.ev rfl)) rfl fun ac hs => ?_
      refine s_end ?_
      refine then_n ?_
      exact ⟨8 - (k + 1), by omega, k + 1, ⟨by omega, rfl⟩, St.next hs ⟨rfl, (congrArg (fun z => some (I z)) (by omega)), rfl, rfl, rfl, trivial⟩ rfl⟩
    · try simp only [decide_eq_true_eq, decide_eq_false_iff_not, Bool.not_eq_true', Bool.not_eq_false', Bool.and_eq_true, Bool.or_eq_true, Bool.or_eq_false_iff] at hc
      obtain rfl : k = 8 := by omega
      refine wp_exit ?_
      refine then_e ?_
      refine then_e ?_
      refine blk_hit ?_
      refine then_n ?_
      refine wp_seq ?_
      refine wp_reg ?_
      refine s_q hs (c_move (hs.ev rfl)) rfl fun ac hs => ?_
      refine s_q hs (c_sliceA un211 ty5 (hs.ev rfl)) rfl fun ac hs => ?_
      refine s_appB (i := 1) hs un34 ty5 rfl rfl rfl (RdB.seg (l := be64 (UInt64.ofNat p.length * 8)) (hs.seg (i := 0) rfl) (by rw [be64_length]; decide)) (by simp only [List.length_append, List.length_replicate, List.length_cons, List.length_nil, be64_length, zc]; omega) rfl fun ac ww v37 hf hnil hs => ?_
      refine s_q hs (c_assign (hs.ev rfl)) rfl fun ac hs => ?_
      refine s_end ?_
      replace hs := hs.sub (F' := [(2, _)]) ⟨rfl, trivial⟩
      refine then_n ?_
      refine wp_ret ?_
      refine s_ret hs rfl (.tmp (hs.tmp rfl) .nil) rfl ⟨_, rfl, hs.fr, ?_⟩
      exact ⟨_, rfl, (hs.pick (L' := [_]) (.cons _ (.refl _))).made⟩

-- fingerpostref04.Blocks
set_option maxHeartbeats 4000000 in
theorem ref04_Blocks (n : Int) (h0 : -9223372036854775808 ≤ n) (h1 : n ≤ 9223372036854775807) (w : World)  : Ctr Try.prog 47 [I n] w (fun _ => False) (fun v _ => v = I (blI n)) := by
  refine fn_start (N := 14) Try.func47 rfl rfl rfl fun ac hk => ?_
  have hs := St.start hk w
  refine wp_seq ?_
  refine wp_reg ?_
  refine s_q hs (c_assign (hs.ev rfl)) rfl fun ac hs => ?_
  refine s_end ?_
  refine then_n ?_
  refine wp_seq ?_
  refine wp_seq ?_
  refine wp_reg ?_
  refine s_q hs (c_move (hs.ev rfl)) rfl fun ac hs => ?_
  refine s_q hs (c_lssI (hs.ev rfl) (hs.ev rfl)) rfl fun ac hs => ?_
  refine s_end ?_
  replace hs := hs.sub (F' := [(0, _), (2, _), (4, _)]) ⟨rfl, rfl, rfl, trivial⟩
  refine then_n ?_
  refine s_cond hs rfl (fun hc => ?_) (fun hc => ?_)
  · try simp only [decide_eq_true_eq, decide_eq_false_iff_not, Bool.not_eq_true', Bool.not_eq_false', Bool.and_eq_true, Bool.or_eq_true, Bool.or_eq_false_iff] at hc
    refine wp_seq ?_
    refine wp_reg ?_
    refine s_q hs (c_assign (hs.ev rfl)) rfl fun ac hs => ?_
    refine s_end ?_
    replace hs := hs.sub (F' := [(0, _), (2, _)]) ⟨rfl, rfl, trivial⟩
    refine then_n ?_
    refine wp_ret ?_
    refine then_r ?_
    refine s_ret hs rfl (.tmp (hs.tmp rfl) .nil) rfl ⟨_, rfl, hs.fr, ?_⟩
    show _ = _
    refine congrArg I ?_
    unfold blI
    by_cases hn : n < 0
    · rw [if_pos hn]; try omega
    · rw [if_neg hn]
      split <;> omega
  · try simp only [decide_eq_true_eq, decide_eq_false_iff_not, Bool.not_eq_true', Bool.not_eq_false', Bool.and_eq_true, Bool.or_eq_true, Bool.or_eq_false_iff] at hc
    refine wp_skip ?_
    refine then_n ?_
    refine wp_seq ?_
    refine wp_seq ?_
    refine wp_reg ?_
    refine s_q hs (c_move (hs.ev rfl)) rfl fun ac hs => ?_
    refine s_q hs (c_remI (hs.ev rfl) (hs.ev rfl) (by omega) (by omega)) rfl fun ac hs => ?_
    refine s_q hs (c_gtrI (hs.ev rfl) (hs.ev rfl)) rfl fun ac hs => ?_
    refine s_end ?_
    replace hs := hs.sub (F' := [(0, _), (2, _), (7, _)]) ⟨rfl, rfl, rfl, trivial⟩
    refine then_n ?_
    refine s_cond hs rfl (fun hc => ?_) (fun hc => ?_)
    · try simp only [decide_eq_true_eq, decide_eq_false_iff_not, Bool.not_eq_true', Bool.not_eq_false', Bool.and_eq_true, Bool.or_eq_true, Bool.or_eq_false_iff] at hc
      refine wp_seq ?_
      refine wp_reg ?_
      refine s_q hs (c_move (hs.ev rfl)) rfl fun ac hs => ?_
      refine s_q hs (c_quoI (hs.ev rfl) (hs.ev rfl) (by omega) (by omega) (by omega)) rfl fun ac hs => ?_
      refine s_q hs (c_addI (hs.ev rfl) (hs.ev rfl) (by omega) (by omega)) rfl fun ac hs => ?_
      refine s_q hs (c_assign (hs.ev rfl)) rfl fun ac hs => ?_
      refine s_end ?_
      replace hs := hs.sub (F' := [(0, _), (2, _)]) ⟨rfl, rfl, trivial⟩
      refine then_n ?_
      refine wp_ret ?_
      refine then_r ?_
      refine s_ret hs rfl (.tmp (hs.tmp rfl) .nil) rfl ⟨_, rfl, hs.fr, ?_⟩
      show _ = _
      refine congrArg I ?_
      unfold blI
      by_cases hn : n < 0
      · rw [if_pos hn]; try omega
      · rw [if_neg hn]
        split <;> omega
    · try simp only [decide_eq_true_eq, decide_eq_false_iff_not, Bool.not_eq_true', Bool.not_eq_false', Bool.and_eq_true, Bool.or_eq_true, Bool.or_eq_false_iff] at hc
      refine wp_skip ?_
      refine then_n ?_
      refine wp_seq ?_
      refine wp_reg ?_
      refine s_q hs (c_move (hs.ev rfl)) rfl fun ac hs => ?_
      refine s_q hs (c_quoI (hs.ev rfl) (hs.ev rfl) (by omega) (by omega) (by omega)) rfl fun ac hs => ?_
      refine s_q hs (c_addI (hs.ev rfl) (hs.ev rfl) (by omega) (by omega)) rfl fun ac hs => ?_
      refine s_q hs (c_assign (hs.ev rfl)) rfl fun ac hs => ?_
      refine s_end ?_
      replace hs := hs.sub (F' := [(2, _)]) ⟨rfl, trivial⟩
      refine then_n ?_
      refine wp_ret ?_
      refine s_ret hs rfl (.tmp (hs.tmp rfl) .nil) rfl ⟨_, rfl, hs.fr, ?_⟩
      show _ = _
      refine congrArg I ?_
      unfold blI
      by_cases hn : n < 0
      · rw [if_pos hn]; try omega
      · rw [if_neg hn]
        split <;> omega

-- fingerpostref04.Digit
set_option maxHeartbeats 4000000 in
theorem ref04_Digit (n : UInt8) (w : World)  : Ctr Try.prog 161 [B n] w (fun _ => False) (fun v _ => v = B (dig2 n)) := by
  refine fn_start (N := 10) Try.func161 rfl rfl rfl fun ac hk => ?_
  have hs := St.start hk w
  refine wp_seq ?_
  refine wp_reg ?_
  refine s_q hs (c_assign (St.ev (v := B 0) hs rfl)) rfl fun ac hs => ?_
  refine s_end ?_
  refine then_n ?_
  refine wp_seq ?_
  refine wp_seq ?_
  refine wp_reg ?_
  refine s_q hs (c_move (hs.ev rfl)) rfl fun ac hs => ?_
  refine s_q hs (c_lssB (hs.ev rfl) (St.ev (v := B 10) hs rfl)) rfl fun ac hs => ?_
  refine s_end ?_
  replace hs := hs.sub (F' := [(0, _), (2, _), (4, _)]) ⟨rfl, rfl, rfl, trivial⟩
  refine then_n ?_
  refine s_cond hs rfl (fun hc => ?_) (fun hc => ?_)
  · try simp only [decide_eq_true_eq, decide_eq_false_iff_not, Bool.not_eq_true', Bool.not_eq_false', Bool.and_eq_true, Bool.or_eq_true, Bool.or_eq_false_iff] at hc
    refine wp_seq ?_
    refine wp_reg ?_
    refine s_q hs (c_move (hs.ev rfl)) rfl fun ac hs => ?_
    refine s_q hs (c_addB (St.ev (v := B 48) hs rfl) (hs.ev rfl)) rfl fun ac hs => ?_
    refine s_q hs (c_assign (hs.ev rfl)) rfl fun ac hs => ?_
    refine s_end ?_
    replace hs := hs.sub (F' := [(0, _), (2, _)]) ⟨rfl, rfl, trivial⟩
    refine then_n ?_
    refine wp_ret ?_
    refine then_r ?_
    refine s_ret hs rfl (.tmp (hs.tmp rfl) .nil) rfl ⟨_, rfl, hs.fr, ?_⟩
    show B (48 + n) = B (dig2 n)
    rw [dig2, if_pos (UInt8.lt_iff_toNat_lt.2 (by simpa using hc))]
  · try simp only [decide_eq_true_eq, decide_eq_false_iff_not, Bool.not_eq_true', Bool.not_eq_false', Bool.and_eq_true, Bool.or_eq_true, Bool.or_eq_false_iff] at hc
    refine wp_skip ?_
    refine then_n ?_
    refine wp_seq ?_
    refine wp_reg ?_
    refine s_q hs (c_move (hs.ev rfl)) rfl fun ac hs => ?_
    refine s_q hs (c_addB (St.ev (v := B 97) hs rfl) (hs.ev rfl)) rfl fun ac hs => ?_
    refine s_q hs (c_subB (hs.ev rfl) (St.ev (v := B 10) hs rfl)) rfl fun ac hs => ?_
    refine s_q hs (c_assign (hs.ev rfl)) rfl fun ac hs => ?_
    refine s_end ?_
    replace hs := hs.sub (F' := [(2, _)]) ⟨rfl, trivial⟩
    refine then_n ?_
    refine wp_ret ?_
    refine s_ret hs rfl (.tmp (hs.tmp rfl) .nil) rfl ⟨_, rfl, hs.fr, ?_⟩
    show B (97 + n - 10) = B (dig2 n)
    rw [dig2, if_neg (fun h => absurd (UInt8.lt_iff_toNat_lt.1 h) (by simpa using hc))]

-- fingerpostref04.Hex
set_option maxHeartbeats 4000000 in
theorem ref04_Hex (p : List UInt8) (pv : Value) (hle : p.length ≤ 70368744177664) (w : World) (hq : RdB w pv p) : Ctr Try.prog 59 [pv] w (fun _ => False) (fun v _ => v = T (hexs p)) := by
  obtain ⟨pad_, pcap, rfl, hpc, hpm⟩ := Rd.sl hq
  refine fn_start (N := 28) Try.func59 rfl rfl rfl fun ac hk => ?_
  have hs := St.start hk w
  refine wp_seq ?_
  refine wp_reg ?_
  refine s_q hs (c_assign (hs.ev rfl)) rfl fun ac hs => ?_
  refine s_end ?_
  refine then_n ?_
  refine wp_seq ?_
  refine wp_reg ?_
  refine s_q hs (c_assign (hs.ev rfl)) rfl fun ac hs => ?_
  refine s_end ?_
  refine then_n ?_
  refine wp_seq ?_
  refine wp_seq ?_
  refine wp_reg ?_
  refine s_q hs (c_assign (hs.ev rfl)) rfl fun ac hs => ?_
  refine s_end ?_
  replace hs := hs.nilrow 5 1
  refine then_n ?_
  refine wp_block ?_
  refine s_loop hs (X := Nat × Value) (fun x => [(3, x.2), (4, I x.1)]) [(0, _), (2, _)] (fun x => [.row x.2 (hexs (p.take x.1)).length ((hexs (p.take x.1)).map B) 5 1]) (fun n x => x.1 ≤ p.length ∧ n = p.length - x.1) (p.length) ((0, _)) (⟨Nat.zero_le _, rfl⟩) ⟨rfl, rfl, rfl, rfl, trivial⟩ rfl ?_
  rintro n ⟨k, v⟩ ac ww hok hs
  simp only [List.cons_append, List.nil_append] at hs
  obtain ⟨hk, rfl⟩ := hok
  simp only at hk hs
  refine wp_seq ?_
  refine wp_seq ?_
  refine wp_reg ?_
  refine s_q hs (c_move (hs.ev rfl)) rfl fun ac hs => ?_
  refine s_q hs (c_move (hs.ev rfl)) rfl fun ac hs => ?_
  refine s_q hs (c_lenS un34 (hs.ev rfl)) rfl fun ac hs => ?_
  refine s_q hs (c_lssI (hs.ev rfl) (hs.ev rfl)) rfl fun ac hs => ?_
  refine s_end ?_
  refine then_n ?_
  refine s_cond hs rfl (fun hc => ?_) (fun hc => ?_)
  · try simp only [decide_eq_true_eq, decide_eq_false_iff_not, Bool.not_eq_true', Bool.not_eq_false', Bool.and_eq_true, Bool.or_eq_true, Bool.or_eq_false_iff] at hc
    obtain ⟨pb, po, pT, pf, pall, rfl, hpb, hps⟩ := hq.at' (by omega)
    refine wp_skip ?_
    refine then_n ?_
    refine wp_seq ?_
    refine wp_block ?_
    refine wp_region_rg pmix 14 (by kernel_rfl) rfl hs ?_
    simp only [List.take_succ_cons, List.take_zero]
    refine rg_q (fun ac ww h => c_move (h.ev rfl)) rfl ?_
    refine rg_q (fun ac ww h => c_move (h.ev rfl)) rfl ?_
    refine rg_q (fun ac ww h => c_move (h.ev rfl)) rfl ?_
    refine rg_q (fun ac ww h => c_idxS (j := k) un34 ty5 (h.ev rfl) (h.ev rfl) (by omega) (by omega)) rfl ?_
    refine rg_q (fun ac ww h => c_loadS un5 rfl (h.ev rfl) (h.blk (hs.old hpb id)) (seg_get 0 hps (by omega))) rfl ?_
    refine rg_q (fun ac ww h => c_quoB (h.ev rfl) (RC.ev (v := B 16) h rfl) (by decide)) rfl ?_
    refine rg_call fu161 (fun ac ww h => (.cons (h.ev rfl) .nil)) (fun ww hf => ref04_Digit _ _) rfl ?_
    refine rg_q (fun ac ww h => c_move (h.ev rfl)) rfl ?_
    refine rg_q (fun ac ww h => c_move (h.ev rfl)) rfl ?_
    refine rg_q (fun ac ww h => c_idxS (j := k) un34 ty5 (h.ev rfl) (h.ev rfl) (by omega) (by omega)) rfl ?_
    refine rg_q (fun ac ww h => c_loadS un5 rfl (h.ev rfl) (h.blk (hs.old hpb id)) (seg_get 0 hps (by omega))) rfl ?_
    refine rg_q (fun ac ww h => c_remB (h.ev rfl) (RC.ev (v := B 16) h rfl) (by decide)) rfl ?_
    refine rg_call fu161 (fun ac ww h => (.cons (h.ev rfl) .nil)) (fun ww hf => ref04_Digit _ _) rfl ?_
    refine rg_bslice un34 ty5 (fun ac ww h => (.cons (h.ev rfl) (.cons (h.ev rfl) .nil))) rfl (by simp [Value.cells]) (by decide) rfl rfl ?_
    refine rg_nil fun ac ww L' hf hfe hs => ?_
    simp only [List.drop_succ_cons, List.drop_zero]
    obtain ⟨v24, L24, M24, h24, e24, rfl, rfl⟩ := hfe
    replace hs := hs.add h24
    obtain ⟨g24, rfl, rfl⟩ := e24
    refine s_appB (i := 1) hs un34 ty5 rfl rfl rfl (RdB.seg (l := [_, _]) (hs.seg (i := 0) rfl) (by show 2 ≤ maxLen; decide)) (by rw [hexs_length, List.length_take]; simp; omega) rfl fun ac ww v25 hf hnil hs => ?_
    refine s_q hs (c_assign (hs.ev rfl)) rfl fun ac hs => ?_
    refine s_end ?_
    refine blk_n ?_
    refine then_n ?_
    refine wp_reg ?_
    refine s_q hs (c_move (hs.ev rfl)) rfl fun ac hs => ?_
    refine s_q hs (c_addI (hs.ev rfl) (hs.ev rfl) (by omega) (by omega)) rfl fun ac hs => ?_
    refine s_q hs (c_assign (hs.ev rfl)) rfl fun ac hs => ?_
    refine s_end ?_
    refine then_n ?_
    replace hs := hs.pick (L' := [_]) (.cons _ (.refl _))
    exact ⟨p.length - (k + 1), by (try simp only); omega, (k + 1, _), ⟨by (try simp only); omega, rfl⟩, St.next hs ⟨rfl, rfl, rfl, rfl, trivial⟩ (by rw [hexs_succ p k (by omega), ← dig2_hexd _ (hi_lt _), ← dig2_hexd _ (lo_lt _), ← hi_eq8, ← lo_eq8]; try rfl)⟩
  · try simp only [decide_eq_true_eq, decide_eq_false_iff_not, Bool.not_eq_true', Bool.not_eq_false', Bool.and_eq_true, Bool.or_eq_true, Bool.or_eq_false_iff] at hc
    obtain rfl : k = p.length := by omega
    rw [List.take_length] at hs
    refine wp_exit ?_
    refine then_e ?_
    refine then_e ?_
    refine blk_hit ?_
    refine then_n ?_
    refine wp_seq ?_
    refine wp_reg ?_
    refine s_q hs (c_move (hs.ev rfl)) rfl fun ac hs => ?_
    refine s_q hs (c_cvST un34 un5 un9 (hs.ev rfl) (RdB.row (hs.get (i := 0) rfl))) rfl fun ac hs => ?_
    refine s_q hs (c_assign (hs.ev rfl)) rfl fun ac hs => ?_
    refine s_end ?_
    replace hs := hs.sub (F' := [(2, _)]) ⟨rfl, trivial⟩
    refine then_n ?_
    refine wp_ret ?_
    refine s_ret hs rfl (.tmp (hs.tmp rfl) .nil) rfl ⟨_, rfl, hs.fr, ?_⟩
    rfl

end Go.Proofs.Ytmgnnclkjkbmdaa
