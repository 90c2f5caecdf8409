/- The sum of what was taken in. -/
import Derived.Test.YtmgnnclkjkbmdaaShaB
set_option linter.unusedSimpArgs false
set_option linter.unusedVariables false
set_option maxRecDepth 100000
namespace Go.Proofs.Ytmgnnclkjkbmdaa
open Go Go.Fw

open Sha
theorem be64_take (x : UInt64) : ∀ k, k < 8 → (be64 x).take (k + 1) = (be64 x).take k ++ [(x >>> UInt64.ofNat (56 - 8 * k)).toUInt8]
  | 0, _ => rfl | 1, _ => rfl | 2, _ => rfl | 3, _ => rfl | 4, _ => rfl | 5, _ => rfl | 6, _ => rfl
  | 7, _ => by simp [be64]
  | k + 8, h => absurd h (by omega)
theorem out_take (r : R) : ∀ k, k < 8 → (out r).take (4 * (k + 1)) = (out r).take (4 * k) ++ be32 (r.list.getD k 0)
  | 0, _ => rfl | 1, _ => rfl | 2, _ => rfl | 3, _ => rfl | 4, _ => rfl | 5, _ => rfl | 6, _ => rfl | 7, _ => rfl
  | k + 8, h => absurd h (by omega)
/-- Four bytes, set one by one. -/
theorem set4 (P : List UInt8) (m : Nat) (a b c d : UInt8) (k : Nat) (hk : P.length = 4 * k) :
    ((((P ++ List.replicate (m + 4) (0 : UInt8)).set (4 * k) a).set (4 * k + 1) b).set (4 * k + 2) c).set (4 * k + 3) d = P ++ [a, b, c, d] ++ List.replicate m 0 := by
  have e : List.replicate (m + 4) (0 : UInt8) = 0 :: 0 :: 0 :: 0 :: List.replicate m 0 := rfl
  rw [← hk, e]
  simp [List.set_append_right, List.set]
theorem arr_get {α : Type} {f : α → Value} {l : List α} {i : Nat} (d : α) (hi : i < l.length) : (l.map f).toArray[i]? = some (f (l.getD i d)) := by simp [List.getD, hi]
def outZ (r : R) (k : Nat) : List UInt8 := (out r).take (4 * k) ++ List.replicate (32 - 4 * k) 0
theorem outZ_len (r : R) (k : Nat) (h : k ≤ 8) : (outZ r k).length = 32 := by simp [outZ]; omega
theorem outZ_set (r : R) (k : Nat) (h : k < 8) (a b c d : UInt8) (he : be32 (r.list.getD k 0) = [a, b, c, d]) :
    ((((outZ r k).set (4 * k) a).set (4 * k + 1) b).set (4 * k + 2) c).set (4 * k + 3) d = outZ r (k + 1) := by
  have h4 := set4 ((out r).take (4 * k)) (32 - 4 * (k + 1)) a b c d k (by simp; omega)
  rw [show 32 - 4 * (k + 1) + 4 = 32 - 4 * k from by omega] at h4
  rw [outZ, h4, outZ, out_take r k h, he]

-- sha.Hash).Sum
set_option maxHeartbeats 4000000 in
theorem sha_HSum (a : List UInt8) (g : Nat) (rv : Value) (hle : a.length ≤ 140737488355328) (w : World) (hg : w.heap[g]? = some (.cells (hcells a rv).toArray 213 (0, 0))) (hr : RdB w rv (rest a)) : Ctr Try.prog 50 [.pointer (some ⟨g, 0, none⟩)] w (fun _ => False) (fun v _ => v = .agg ((sum a).map B).toArray) := by
  obtain ⟨rad, rcap, rfl, hrc, hrm⟩ := Rd.sl hr
  have hrl := rest_length a
  refine fn_start (N := 87) Try.func50 rfl rfl rfl fun ac hk => ?_
  have hs := St.start hk w
  refine wp_seq ?_
  refine wp_reg ?_
  refine s_alloc hs ty41 rfl fun ac ww g2 hs => ?_
  refine s_end ?_
  refine then_n ?_
  refine wp_seq ?_
  refine wp_reg ?_
  refine s_alloc hs ty41 rfl fun ac ww g3 hs => ?_
  refine s_end ?_
  refine then_n ?_
  refine wp_seq ?_
  refine wp_seq ?_
  refine wp_reg ?_
  refine s_q hs (c_move (hs.ev rfl)) rfl fun ac hs => ?_
  refine s_q hs (c_eqlNil un48 (hs.ev rfl) (hs.ev rfl)) rfl fun ac hs => ?_
  refine s_end ?_
  replace hs := hs.sub (F' := [(0, _), (2, _), (3, _), (10, _)]) ⟨rfl, rfl, rfl, rfl, trivial⟩
  refine then_n ?_
  refine wp_cond_false (hs.ev rfl) ?_
  refine wp_skip ?_
  refine then_n ?_
  refine wp_seq ?_
  refine wp_reg ?_
  refine s_bslice hs un34 ty5 .nil rfl (by simp [Value.cells]) (by decide) rfl rfl fun ac ww g12 hs => ?_
  refine s_q hs (c_move (hs.ev rfl)) rfl fun ac hs => ?_
  refine s_q hs (c_nil (hs.ev rfl)) rfl fun ac hs => ?_
  refine s_q hs (c_fld fl213_1 (hs.ev rfl)) rfl fun ac hs => ?_
  refine s_q hs (c_loadS un34 rfl (hs.ev rfl) (hs.old hg id) rfl) rfl fun ac hs => ?_
  replace hs := hs.segrow (i := 0) (n := 0) (sz := 1) rfl rfl (by decide)
  refine s_appB (i := 0) (l := []) hs un34 ty5 rfl rfl rfl (hr.fr0 hs.fr) (by simp; omega) rfl fun ac ww v17 hf hnil hs => ?_
  refine s_bslice hs un34 ty5 (.cons (hs.ev rfl) .nil) rfl (by simp [Value.cells]) (by decide) rfl rfl fun ac ww g18 hs => ?_
  refine s_appB (i := 1) hs un34 ty5 rfl rfl rfl (RdB.seg (l := [0x80]) (hs.seg (i := 0) rfl) (by decide)) (by simp; omega) rfl fun ac ww v19 hf hnil hs => ?_
  refine s_q hs (c_assign (hs.ev rfl)) rfl fun ac hs => ?_
  refine s_end ?_
  replace hs := hs.pick (L' := [_, _, _]) (.cons _ (.refl _))
  replace hs := hs.sub (F' := [(0, _), (2, _), (3, _), (4, _)]) ⟨rfl, rfl, rfl, rfl, trivial⟩
  refine then_n ?_
  refine wp_seq ?_
  refine wp_block ?_
  refine s_loop hs (X := Nat × Value) (fun x => [(4, x.2)]) [(0, _), (2, _), (3, _)] (fun x => [.row x.2 ((rest a ++ [0x80]) ++ List.replicate x.1 0).length (((rest a ++ [0x80]) ++ List.replicate x.1 0).map B) 5 1, .seg g3 ((List.replicate 32 (0 : UInt8)).map B) 41, .seg g2 ((List.replicate 32 (0 : UInt8)).map B) 41]) (fun n x => x.1 ≤ zc (rest a).length ∧ n = zc (rest a).length - x.1) (_) ((0, _)) (⟨Nat.zero_le _, rfl⟩) ⟨rfl, rfl, rfl, rfl, trivial⟩ (by simp only [List.replicate_zero, List.take_zero, List.append_nil]; try rfl) ?_
  rintro n ⟨j, v⟩ ac ww hok hs
  simp only [List.cons_append, List.nil_append] at hs
  obtain ⟨hj, rfl⟩ := hok
  simp only at hj hs
  obtain ⟨ad, cap, rfl, _, _⟩ := Rd.sl (RdB.row (hs.get (i := 0) rfl))
  have hll : ((rest a ++ [0x80]) ++ List.replicate j (0 : UInt8)).length = (rest a).length + 1 + j := by simp; omega
  simp only [zc, hrl] at hj
  refine wp_seq ?_
  refine wp_seq ?_
  refine wp_reg ?_
  refine s_q hs (c_move (hs.ev rfl)) rfl fun ac hs => ?_
  refine s_q hs (c_lenS un34 (hs.ev rfl)) rfl fun ac hs => ?_
  refine s_q hs (c_remI (hs.ev rfl) (hs.ev rfl) (by omega) (by omega)) rfl fun ac hs => ?_
  refine s_q hs (c_neqI (hs.ev rfl) (hs.ev rfl)) rfl fun ac hs => ?_
  refine s_end ?_
  refine then_n ?_
  refine s_cond hs rfl (fun hc => ?_) (fun hc => ?_)
  · try simp only [decide_eq_true_eq, decide_eq_false_iff_not, Bool.not_eq_true', Bool.not_eq_false', Bool.and_eq_true, Bool.or_eq_true, Bool.or_eq_false_iff] at hc
    refine wp_skip ?_
    refine then_n ?_
    refine wp_block ?_
    refine wp_reg ?_
    refine s_q hs (c_move (hs.ev rfl)) rfl fun ac hs => ?_
    refine s_bslice hs un34 ty5 (.cons (hs.ev rfl) .nil) rfl (by simp [Value.cells]) (by decide) rfl rfl fun ac ww g25 hs => ?_
    refine s_appB (i := 1) hs un34 ty5 rfl rfl rfl (RdB.seg (l := [0]) (hs.seg (i := 0) rfl) (by decide)) (by rw [hll]; simp; omega) rfl fun ac ww v26 hf hnil hs => ?_
    refine s_q hs (c_assign (hs.ev rfl)) rfl fun ac hs => ?_
    refine s_end ?_
    refine blk_n ?_
    refine then_n ?_
    replace hs := hs.pick (L' := [_, _, _]) (.cons _ (.refl _))
    exact ⟨zc (rest a).length - (j + 1), by rw [hll] at hc; simp only [zc, hrl]; omega, (j + 1, _), ⟨by rw [hll] at hc; simp only [zc, hrl]; omega, rfl⟩, St.next hs ⟨rfl, rfl, rfl, rfl, trivial⟩ (by simp [List.replicate_succ', ← List.append_assoc])⟩
  · try simp only [decide_eq_true_eq, decide_eq_false_iff_not, Bool.not_eq_true', Bool.not_eq_false', Bool.and_eq_true, Bool.or_eq_true, Bool.or_eq_false_iff] at hc
    have hjj : j = zc (rest a).length := by rw [hll] at hc; simp only [zc, hrl]; omega
    subst hjj
    refine wp_exit ?_
    refine then_e ?_
    refine then_e ?_
    refine blk_hit ?_
    refine then_n ?_
    refine wp_seq ?_
    refine wp_seq ?_
    refine wp_reg ?_
    refine s_q hs (c_assign (hs.ev rfl)) rfl fun ac hs => ?_
    refine s_end ?_
    replace hs := hs.sub (F' := [(0, _), (2, _), (3, _), (4, _), (5, _)]) ⟨rfl, rfl, rfl, rfl, rfl, trivial⟩
    refine then_n ?_
    refine wp_block ?_
    refine s_loop hs (X := Nat × Value) (fun x => [(4, x.2), (5, I (56 - 8 * (x.1 : Int)))]) [(0, _), (2, _), (3, _)] (fun x => [.row x.2 ((rest a ++ [0x80]) ++ List.replicate (zc (rest a).length) 0 ++ (be64 (UInt64.ofNat a.length * 8)).take x.1).length (((rest a ++ [0x80]) ++ List.replicate (zc (rest a).length) 0 ++ (be64 (UInt64.ofNat a.length * 8)).take x.1).map B) 5 1, .seg g3 ((List.replicate 32 (0 : UInt8)).map B) 41, .seg g2 ((List.replicate 32 (0 : UInt8)).map B) 41]) (fun n x => x.1 ≤ 8 ∧ n = 8 - x.1) (8) ((0, _)) (⟨Nat.zero_le _, rfl⟩) ⟨rfl, rfl, rfl, rfl, rfl, trivial⟩ (by simp only [List.replicate_zero, List.take_zero, List.append_nil]; try rfl) ?_
    rintro n ⟨k, v⟩ ac ww hok hs
    simp only [List.cons_append, List.nil_append] at hs
    obtain ⟨hk, rfl⟩ := hok
    simp only at hk hs
    obtain ⟨ad, cap, rfl, _, _⟩ := Rd.sl (RdB.row (hs.get (i := 0) rfl))
    refine wp_seq ?_
    refine wp_seq ?_
    refine wp_reg ?_
    refine s_q hs (c_move (hs.ev rfl)) rfl fun ac hs => ?_
    refine s_q hs (c_geqI (hs.ev rfl) (hs.ev rfl)) rfl fun ac hs => ?_
    refine s_end ?_
    refine then_n ?_
    refine s_cond hs rfl (fun hc => ?_) (fun hc => ?_)
    · try simp only [decide_eq_true_eq, decide_eq_false_iff_not, Bool.not_eq_true', Bool.not_eq_false', Bool.and_eq_true, Bool.or_eq_true, Bool.or_eq_false_iff] at hc
      refine wp_skip ?_
      refine then_n ?_
      refine wp_seq ?_
      refine wp_block ?_
      refine wp_reg ?_
      refine s_q hs (c_move (hs.ev rfl)) rfl fun ac hs => ?_
      refine s_q hs (c_move (hs.ev rfl)) rfl fun ac hs => ?_
      refine s_q hs (c_nil (hs.ev rfl)) rfl fun ac hs => ?_
      refine s_q hs (c_fld fl213_2 (hs.ev rfl)) rfl fun ac hs => ?_
      refine s_q hs (c_loadS un210 rfl (hs.ev rfl) (hs.old hg id) rfl) rfl fun ac hs => ?_
      refine s_q hs (c_mulV (hs.ev rfl) (St.ev (v := V 8) hs rfl)) rfl fun ac hs => ?_
      refine s_q hs (c_move (hs.ev rfl)) rfl fun ac hs => ?_
      refine s_q hs (c_shrV (n := 56 - 8 * k) (hs.ev rfl) ((hs.ev rfl).trans (congrArg I (by omega))) (by omega)) rfl fun ac hs => ?_
      refine s_q hs (c_cvVB un210 un5 (hs.ev rfl)) rfl fun ac hs => ?_
      refine s_bslice hs un34 ty5 (.cons (hs.ev rfl) .nil) rfl (by simp [Value.cells]) (by decide) rfl rfl fun ac ww g40 hs => ?_
      refine s_appB (i := 1) hs un34 ty5 rfl rfl rfl (RdB.seg (l := [_]) (hs.seg (i := 0) rfl) (by show 1 ≤ maxLen; decide)) (by simp only [List.length_append, List.length_replicate, List.length_take, be64_length, zc]; simp; omega) rfl fun ac ww v41 hf hnil hs => ?_
      refine s_q hs (c_assign (hs.ev rfl)) rfl fun ac hs => ?_
      refine s_end ?_
      refine blk_n ?_
      refine then_n ?_
      refine wp_reg ?_
      refine s_q hs (c_move (hs.ev rfl)) rfl fun ac hs => ?_
      refine s_q hs (c_subI (hs.ev rfl) (hs.ev rfl) (by omega) (by omega)) rfl fun ac hs => ?_
      refine s_q hs (c_assign (hs.ev rfl)) rfl fun ac hs => ?_
      refine s_end ?_
      refine then_n ?_
      replace hs := hs.pick (L' := [_, _, _]) (.cons _ (.refl _))
      exact ⟨8 - (k + 1), by omega, (k + 1, _), ⟨by (try simp only); omega, rfl⟩, St.next hs ⟨rfl, (congrArg (fun z => some (I z)) (by omega)), rfl, rfl, rfl, trivial⟩ (by rw [be64_take _ k (by omega)]; simp only [List.append_assoc, List.set])⟩
    · try simp only [decide_eq_true_eq, decide_eq_false_iff_not, Bool.not_eq_true', Bool.not_eq_false', Bool.and_eq_true, Bool.or_eq_true, Bool.or_eq_false_iff] at hc
      obtain rfl : k = 8 := by omega
      refine wp_exit ?_
      refine then_e ?_
      refine then_e ?_
      refine blk_hit ?_
      refine then_n ?_
      refine wp_seq ?_
      refine wp_reg ?_
      refine s_q hs (c_move (hs.ev rfl)) rfl fun ac hs => ?_
      refine s_q hs (c_nil (hs.ev rfl)) rfl fun ac hs => ?_
      refine s_q hs (c_fld fl213_0 (hs.ev rfl)) rfl fun ac hs => ?_
      refine s_q hs (c_loadA ty205 rfl (hs.ev rfl) (hs.old hg id) (show _ = (foldB first a (a.length / 64)).list.map U from rfl) (by simp)) rfl fun ac hs => ?_
      refine s_alloc hs ty205 rfl fun ac ww g6 hs => ?_
      refine s_storeW (i := 0) hs ty205 rfl rfl rfl (by simp) (all_map_U _) (by simp) fun ww hs => ?_
      refine s_end ?_
      replace hs := hs.sub (F' := [(2, _), (3, _), (4, _), (6, _)]) ⟨rfl, rfl, rfl, rfl, trivial⟩
      refine then_n ?_
      refine wp_seq ?_
      refine wp_block ?_
      replace hs := (hs.rowrd (i := 1) rfl).toL (show _ = [_, Ent.rd _ ((fill (rest a) (UInt64.ofNat a.length)).drop (64 * 0)), _, _] from rfl)
      refine s_loop hs (X := Nat × Value) (fun x => [(4, x.2)]) [(2, _), (3, _), (6, _)] (fun x => [.seg g6 ((foldB (foldB first a (a.length / 64)) (fill (rest a) (UInt64.ofNat a.length)) x.1).list.map U) 205, .rd x.2 ((fill (rest a) (UInt64.ofNat a.length)).drop (64 * x.1)), .seg g3 ((List.replicate 32 (0 : UInt8)).map B) 41, .seg g2 ((List.replicate 32 (0 : UInt8)).map B) 41]) (fun n x => x.1 ≤ blocks (rest a).length ∧ n = blocks (rest a).length - x.1) (_) ((0, _)) (⟨Nat.zero_le _, rfl⟩) ⟨rfl, rfl, rfl, rfl, trivial⟩ rfl ?_
      rintro n ⟨k, v⟩ ac ww hok hs
      simp only [List.cons_append, List.nil_append] at hs
      obtain ⟨hk, rfl⟩ := hok
      simp only at hk hs
      obtain ⟨ad, cap, rfl, _, _⟩ := Rd.sl (hs.get (i := 1) rfl)
      have hdl : ((fill (rest a) (UInt64.ofNat a.length)).drop (64 * k)).length = 64 * blocks (rest a).length - 64 * k := by rw [List.length_drop, fill_length]
      refine wp_seq ?_
      refine wp_seq ?_
      refine wp_reg ?_
      refine s_q hs (c_move (hs.ev rfl)) rfl fun ac hs => ?_
      refine s_q hs (c_lenS un34 (hs.ev rfl)) rfl fun ac hs => ?_
      refine s_q hs (c_gtrI (hs.ev rfl) (hs.ev rfl)) rfl fun ac hs => ?_
      refine s_end ?_
      refine then_n ?_
      refine s_cond hs rfl (fun hc => ?_) (fun hc => ?_)
      · try simp only [decide_eq_true_eq, decide_eq_false_iff_not, Bool.not_eq_true', Bool.not_eq_false', Bool.and_eq_true, Bool.or_eq_true, Bool.or_eq_false_iff] at hc
        rw [hdl] at hc
        refine wp_skip ?_
        refine then_n ?_
        refine wp_seq ?_
        refine wp_block ?_
        refine wp_reg ?_
        refine s_q hs (c_loadW ty205 rfl (hs.ev rfl) (hs.seg (i := 0) rfl) (by simp)) rfl fun ac hs => ?_
        refine s_q hs (c_move (hs.ev rfl)) rfl fun ac hs => ?_
        refine s_call hs fu157 (.cons (hs.ev rfl) (.cons (hs.ev rfl) .nil)) (sha_mix _ ((fill (rest a) (UInt64.ofNat a.length)).drop (64 * k)) _ (by omega) _ (hs.get (i := 1) rfl)) rfl fun ac ww v53 hf hp hs => ?_
        obtain rfl := hp
        replace hs := hs [] (.nil _ _)
        refine s_storeW (i := 0) hs ty205 rfl rfl rfl (by simp) (all_map_U _) rfl fun ww hs => ?_
        refine s_end ?_
        refine blk_n ?_
        refine then_n ?_
        refine wp_reg ?_
        refine s_q hs (c_move (hs.ev rfl)) rfl fun ac hs => ?_
        refine s_q hs (c_sliceL (i := 64) un34 ty5 (hs.ev rfl) (hs.ev rfl) (by omega) (by omega)) rfl fun ac hs => ?_
        refine s_q hs (c_assign (hs.ev rfl)) rfl fun ac hs => ?_
        refine s_end ?_
        refine then_n ?_
        replace hs := hs.rdcut (i := 1) (j := 64) rfl (by omega)
        exact ⟨blocks (rest a).length - (k + 1), by (try simp only); omega, (k + 1, _), ⟨by (try simp only); omega, rfl⟩, St.next hs ⟨rfl, rfl, rfl, rfl, trivial⟩ (by simp only [List.set, foldB, List.drop_drop]; rfl)⟩
      · try simp only [decide_eq_true_eq, decide_eq_false_iff_not, Bool.not_eq_true', Bool.not_eq_false', Bool.and_eq_true, Bool.or_eq_true, Bool.or_eq_false_iff] at hc
        have hkk : k = blocks (rest a).length := by rw [hdl] at hc; omega
        subst hkk
        refine wp_exit ?_
        refine then_e ?_
        refine then_e ?_
        refine blk_hit ?_
        refine then_n ?_
        refine wp_seq ?_
        refine wp_seq ?_
        refine wp_reg ?_
        refine s_q hs (c_loadW ty205 rfl (hs.ev rfl) (hs.seg (i := 0) rfl) (by simp)) rfl fun ac hs => ?_
        refine s_q hs (c_move (hs.ev rfl)) rfl fun ac hs => ?_
        refine s_end ?_
        replace hs := hs.pick (L' := [_, _, _]) (.cons_cons _ (.cons _ (.refl _)))
        replace hs := hs.sub (F' := [(2, _), (3, _), (54, _), (55, _)]) ⟨rfl, rfl, rfl, rfl, trivial⟩
        refine then_n ?_
        refine wp_block ?_
        refine s_loop hs (X := Nat) (fun k => [(55, I k)]) [(2, _), (3, _), (54, _)] (fun k => [.seg g6 ((foldB (foldB first a (a.length / 64)) (fill (rest a) (UInt64.ofNat a.length)) (blocks (rest a).length)).list.map U) 205, .seg g3 ((outZ (foldB (foldB first a (a.length / 64)) (fill (rest a) (UInt64.ofNat a.length)) (blocks (rest a).length)) k).map B) 41, .seg g2 ((List.replicate 32 (0 : UInt8)).map B) 41]) (fun n k => k ≤ 8 ∧ n = 8 - k) (8) (0) (⟨Nat.zero_le _, rfl⟩) ⟨rfl, rfl, rfl, rfl, trivial⟩ rfl ?_
        rintro n k ac ww hok hs
        simp only [List.cons_append, List.nil_append] at hs
        obtain ⟨hk, rfl⟩ := hok
        have hzl := outZ_len (foldB (foldB first a (a.length / 64)) (fill (rest a) (UInt64.ofNat a.length)) (blocks (rest a).length)) k hk
        refine wp_seq ?_
        refine wp_reg ?_
        refine s_q hs (c_lssI (hs.ev rfl) (hs.ev rfl)) rfl fun ac hs => ?_
        refine s_end ?_
        refine then_n ?_
        refine wp_seq ?_
        refine s_cond hs rfl (fun hc => ?_) (fun hc => ?_)
        · try simp only [decide_eq_true_eq, decide_eq_false_iff_not, Bool.not_eq_true', Bool.not_eq_false', Bool.and_eq_true, Bool.or_eq_true, Bool.or_eq_false_iff] at hc
          obtain hk8 : k < 8 := by omega
          refine wp_skip ?_
          refine then_n ?_
          refine wp_seq ?_
          refine wp_block ?_
          refine wp_seq ?_
          refine wp_reg ?_
          refine s_q hs (c_move (hs.ev rfl)) rfl fun ac hs => ?_
          refine s_q hs (c_idxS1 (j := k) un205 ty27 rfl (hs.ev rfl) (hs.ev rfl) (by omega) (by omega) (arr_get 0 (by simp; omega))) rfl fun ac hs => ?_
          refine s_q hs (c_assign (hs.ev rfl)) rfl fun ac hs => ?_
          refine s_q hs (c_assign (hs.ev rfl)) rfl fun ac hs => ?_
          refine s_end ?_
          refine then_n ?_
          refine wp_reg ?_
          refine s_q hs (c_move (hs.ev rfl)) rfl fun ac hs => ?_
          refine s_q hs (c_mulI (hs.ev rfl) (hs.ev rfl) (by omega) (by omega)) rfl fun ac hs => ?_
          refine s_q hs (c_move (hs.ev rfl)) rfl fun ac hs => ?_
          refine s_q hs (c_mulI (hs.ev rfl) (hs.ev rfl) (by omega) (by omega)) rfl fun ac hs => ?_
          refine s_q hs (c_addI (hs.ev rfl) (hs.ev rfl) (by omega) (by omega)) rfl fun ac hs => ?_
          refine s_q hs (c_move (hs.ev rfl)) rfl fun ac hs => ?_
          refine s_q hs (c_mulI (hs.ev rfl) (hs.ev rfl) (by omega) (by omega)) rfl fun ac hs => ?_
          refine s_q hs (c_addI (hs.ev rfl) (hs.ev rfl) (by omega) (by omega)) rfl fun ac hs => ?_
          refine s_q hs (c_move (hs.ev rfl)) rfl fun ac hs => ?_
          refine s_q hs (c_mulI (hs.ev rfl) (hs.ev rfl) (by omega) (by omega)) rfl fun ac hs => ?_
          refine s_q hs (c_addI (hs.ev rfl) (hs.ev rfl) (by omega) (by omega)) rfl fun ac hs => ?_
          refine s_q hs (c_move (hs.ev rfl)) rfl fun ac hs => ?_
          refine s_q hs (c_shrU (hs.ev rfl) (hs.ev rfl) (by decide)) rfl fun ac hs => ?_
          refine s_q hs (c_cvUB un27 un5 (hs.ev rfl)) rfl fun ac hs => ?_
          refine s_q hs (c_move (hs.ev rfl)) rfl fun ac hs => ?_
          refine s_q hs (c_shrU (hs.ev rfl) (hs.ev rfl) (by decide)) rfl fun ac hs => ?_
          refine s_q hs (c_cvUB un27 un5 (hs.ev rfl)) rfl fun ac hs => ?_
          refine s_q hs (c_move (hs.ev rfl)) rfl fun ac hs => ?_
          refine s_q hs (c_shrU (hs.ev rfl) (hs.ev rfl) (by decide)) rfl fun ac hs => ?_
          refine s_q hs (c_cvUB un27 un5 (hs.ev rfl)) rfl fun ac hs => ?_
          refine s_q hs (c_move (hs.ev rfl)) rfl fun ac hs => ?_
          refine s_q hs (c_cvUB un27 un5 (hs.ev rfl)) rfl fun ac hs => ?_
          refine s_q hs (c_idxA (j := 4 * k) un41 ty5 (hs.ev rfl) (hs.ev rfl) (by omega) (by omega)) rfl fun ac hs => ?_
          refine s_store (i := 1) hs ty5 rfl rfl rfl rfl rfl rfl (by simp only [List.length_map]; first | omega | (simp only [List.length_set]; omega)) (map_set _ (by first | omega | (simp only [List.length_set]; omega))) fun ww hs => ?_
          refine s_q hs (c_idxA (j := 4 * k + 1) un41 ty5 (hs.ev rfl) (hs.ev rfl) (by omega) (by omega)) rfl fun ac hs => ?_
          refine s_store (i := 1) hs ty5 rfl rfl rfl rfl rfl rfl (by simp only [List.length_map]; first | omega | (simp only [List.length_set]; omega)) (map_set _ (by first | omega | (simp only [List.length_set]; omega))) fun ww hs => ?_
          refine s_q hs (c_idxA (j := 4 * k + 2) un41 ty5 (hs.ev rfl) (hs.ev rfl) (by omega) (by omega)) rfl fun ac hs => ?_
          refine s_store (i := 1) hs ty5 rfl rfl rfl rfl rfl rfl (by simp only [List.length_map]; first | omega | (simp only [List.length_set]; omega)) (map_set _ (by first | omega | (simp only [List.length_set]; omega))) fun ww hs => ?_
          refine s_q hs (c_idxA (j := 4 * k + 3) un41 ty5 (hs.ev rfl) (hs.ev rfl) (by omega) (by omega)) rfl fun ac hs => ?_
          refine s_store (i := 1) hs ty5 rfl rfl rfl rfl rfl rfl (by simp only [List.length_map]; first | omega | (simp only [List.length_set]; omega)) (map_set _ (by first | omega | (simp only [List.length_set]; omega))) fun ww hs => ?_
          refine s_end ?_
          refine blk_n ?_
          refine then_n ?_
          refine wp_reg ?_
          refine s_q hs (c_addI (hs.ev rfl) (hs.ev rfl) (by omega) (by omega)) rfl fun ac hs => ?_
          refine s_q hs (c_move (hs.ev rfl)) rfl fun ac hs => ?_
          refine s_end ?_
          refine then_n ?_
          exact ⟨8 - (k + 1), by omega, k + 1, ⟨by omega, rfl⟩, St.next hs ⟨rfl, rfl, rfl, rfl, trivial⟩ (congrArg (fun z => [_, Ent.seg g3 (List.map B z) 41, _]) (outZ_set _ k (by omega) _ _ _ _ rfl))⟩
        · try simp only [decide_eq_true_eq, decide_eq_false_iff_not, Bool.not_eq_true', Bool.not_eq_false', Bool.and_eq_true, Bool.or_eq_true, Bool.or_eq_false_iff] at hc
          obtain rfl : k = 8 := by omega
          refine wp_exit ?_
          refine then_e ?_
          refine then_e ?_
          refine blk_hit ?_
          refine then_n ?_
          refine wp_seq ?_
          refine wp_reg ?_
          refine s_q hs (c_loadW ty41 rfl (hs.ev rfl) (hs.seg (i := 1) rfl) (by simpa using hzl)) rfl fun ac hs => ?_
          refine s_storeW (i := 2) hs ty41 rfl rfl rfl (by simpa using hzl) (all_map_B _) rfl fun ww hs => ?_
          refine s_end ?_
          replace hs := hs.sub (F' := [(2, _)]) ⟨rfl, trivial⟩
          refine then_n ?_
          refine wp_ret ?_
          refine s_ret hs rfl (.cell (hs.tmp rfl) (run_loadA ty41 rfl (hs.seg (i := 2) rfl) (List.take_of_length_le (by simp [hzl])) (by simpa using hzl)) .nil) rfl ⟨_, rfl, hs.fr, ?_⟩
          show _ = _
          rw [← sum_rest a, ← hrl]
          rfl

end Go.Proofs.Ytmgnnclkjkbmdaa
