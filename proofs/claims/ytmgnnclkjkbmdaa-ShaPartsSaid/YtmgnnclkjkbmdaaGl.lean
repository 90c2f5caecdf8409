/- Own texts of this seat, laid together: OtsL, OtsM, Fw34, OtsN. -/
import Derived.Test.YtmgnnclkjkbmdaaGa
import Derived.Test.YtmgnnclkjkbmdaaGb
import Derived.Test.YtmgnnclkjkbmdaaGc
import Derived.Test.YtmgnnclkjkbmdaaGd
import Derived.Test.YtmgnnclkjkbmdaaGe
import Derived.Test.YtmgnnclkjkbmdaaGf
import Derived.Test.YtmgnnclkjkbmdaaGg
import Derived.Test.YtmgnnclkjkbmdaaGh
import Derived.Test.YtmgnnclkjkbmdaaGi
import Derived.Test.YtmgnnclkjkbmdaaGj
import Derived.Test.YtmgnnclkjkbmdaaGk
/- Clashes: two unlike texts with one short sum. -/
section
set_option linter.unusedSimpArgs false
set_option linter.unusedVariables false
set_option maxRecDepth 100000
namespace Go.Proofs.Ytmgnnclkjkbmdaa
open Go Go.Fw

open Sha Ots
theorem bneL (a b : List UInt8) : (a != b) = decide (a ≠ b) := by by_cases h : a = b <;> simp [h]
/-- The text at a place. -/
def txt (xs : List (Value × List UInt8)) (k : Nat) : List UInt8 := (xs.getD k (.nilIface, [])).2
def hit (xs bs : List (Value × List UInt8)) (i q : Nat) : Bool := decide (ofT (txt xs i) = ofT (txt bs q)) && decide (txt xs i ≠ txt bs q)
theorem txt_mem {xs : List (Value × List UInt8)} {k : Nat} (h : k < xs.length) : txt xs k ∈ xs.map (·.2) := by
  rw [txt, List.getD, List.getElem?_eq_getElem h]
  exact List.mem_map_of_mem (List.getElem_mem h)
theorem mem_txt {xs : List (Value × List UInt8)} {x : List UInt8} (h : x ∈ xs.map (·.2)) : ∃ k, k < xs.length ∧ txt xs k = x := by
  obtain ⟨q, hq, rfl⟩ := List.mem_map.1 h
  obtain ⟨k, hk, rfl⟩ := List.getElem_of_mem hq
  exact ⟨k, hk, by simp [txt, List.getD, hk]⟩
theorem clash_hit {xs bs : List (Value × List UInt8)} {i q : Nat} (hi : i < xs.length) (hq : q < bs.length) (h : hit xs bs i q = true) : clash (xs.map (·.2)) (bs.map (·.2)) = true := by
  unfold hit at h
  exact List.any_eq_true.2 ⟨_, txt_mem hi, List.any_eq_true.2 ⟨_, txt_mem hq, h⟩⟩
theorem clash_none {xs bs : List (Value × List UInt8)} (h : ∀ i, i < xs.length → ∀ q, q < bs.length → hit xs bs i q = false) : clash (xs.map (·.2)) (bs.map (·.2)) = false := by
  apply Bool.eq_false_iff.2
  intro hc
  obtain ⟨x, hx, hz⟩ := List.any_eq_true.1 hc
  obtain ⟨y, hy, hxy⟩ := List.any_eq_true.1 hz
  obtain ⟨i, hi, rfl⟩ := mem_txt hx
  obtain ⟨q, hq, rfl⟩ := mem_txt hy
  have := h i hi q hq
  unfold hit at this
  rw [this] at hxy
  cases hxy
/-- The short sums of the first n texts. -/
def sums (xs : List (Value × List UInt8)) (n : Nat) : List UInt8 := rows (fun k => ofT (txt xs k)) n
theorem sums_len (xs : List (Value × List UInt8)) (n : Nat) : (sums xs n).length = n * 16 := by rw [sums, rows_length (N := n) (fun _ _ => rfl) n (Nat.le_refl _)]; omega
theorem sums_succ (xs : List (Value × List UInt8)) (n : Nat) : sums xs (n + 1) = sums xs n ++ ofT (txt xs n) := rows_succ _ _
theorem sums_piece (xs : List (Value × List UInt8)) {n i : Nat} (h : i < n) : ((sums xs n).drop (i * 16)).take 16 = ofT (txt xs i) := by
  have := rows_chunk (f := fun k => ofT (txt xs k)) (N := n) (fun _ _ => rfl) n (Nat.le_refl _) i h
  rw [← this, chunk, Nat.mul_comm]
  rfl
/-- Each text has a kind, and isn't too long. -/
def Good (xs : List (Value × List UInt8)) : Prop := xs.length ≤ 1000000 ∧ ∀ k, k < xs.length → ∃ kd tx, txt xs k = kd :: tx ∧ tx.length ≤ 140737488355199

-- fingerpostref06.Clash
set_option maxHeartbeats 4000000 in
theorem ref06_Clash (xs bs : List (Value × List UInt8)) (av bv : Value) (hga : Good xs) (hgb : Good bs) (w : World) (hqa : RdP w av xs) (hqb : RdP w bv bs) : Ctr Try.prog 66 [av, bv] w (fun _ => False) (fun v _ => v = .bool (clash (xs.map (·.2)) (bs.map (·.2)))) := by
  have hal := hqa.1.le
  have hbl := hqb.1.le
  have hal2 := hga.1
  have hbl2 := hgb.1
  obtain ⟨aad, acap, rfl, hac, ham⟩ := hqa.sl
  obtain ⟨bad, bcap, rfl, hbc, hbm⟩ := hqb.sl
  refine fn_start (N := 73) Try.func66 rfl rfl rfl fun ac hk => ?_
  have hs := St.start hk w
  refine wp_seq ?_
  refine wp_reg ?_
  refine s_q hs (c_assign (hs.ev rfl)) rfl fun ac hs => ?_
  refine s_end ?_
  refine then_n ?_
  refine wp_seq ?_
  refine wp_reg ?_
  refine s_q hs (c_assign (hs.ev rfl)) rfl fun ac hs => ?_
  refine s_q hs (c_assign (hs.ev rfl)) rfl fun ac hs => ?_
  refine s_end ?_
  replace hs := (hs.nilrow 22 16).nilrow 22 16
  refine then_n ?_
  refine wp_seq ?_
  refine wp_seq ?_
  refine wp_reg ?_
  refine s_q hs (c_assign (hs.ev rfl)) rfl fun ac hs => ?_
  refine s_end ?_
  refine then_n ?_
  refine wp_block ?_
  refine s_loop hs (X := Nat × Value) (fun x => [(5, x.2), (7, I x.1)]) [(0, _), (1, _), (4, _), (6, _)] (fun x => [_, .row x.2 (x.1) ((sums xs (x.1)).map B) 22 16]) (fun n x => x.1 ≤ xs.length ∧ n = xs.length - x.1) (_) ((0, _)) (⟨Nat.zero_le _, rfl⟩) ⟨rfl, rfl, rfl, rfl, rfl, rfl, trivial⟩ rfl ?_
  rintro n ⟨k, v⟩ ac ww hok hs
  simp only [List.cons_append, List.nil_append] at hs
  obtain ⟨hk, rfl⟩ := hok
  simp only at hk hs
  refine wp_seq ?_
  refine wp_seq ?_
  refine wp_reg ?_
  refine s_q hs (c_move (hs.ev rfl)) rfl fun ac hs => ?_
  refine s_q hs (c_move (hs.ev rfl)) rfl fun ac hs => ?_
  refine s_q hs (c_lenS un30 (hs.ev rfl)) rfl fun ac hs => ?_
  refine s_q hs (c_lssI (hs.ev rfl) (hs.ev rfl)) rfl fun ac hs => ?_
  refine s_end ?_
  refine then_n ?_
  refine s_cond hs rfl (fun hc => ?_) (fun hc => ?_)
  · try simp only [decide_eq_true_eq, decide_eq_false_iff_not, Bool.not_eq_true', Bool.not_eq_false', Bool.and_eq_true, Bool.or_eq_true, Bool.or_eq_false_iff] at hc
    have hka : k < xs.length := by omega
    obtain ⟨pb, po, pT, pf, pall, rfl, hpb, hps⟩ := hqa.at' (by omega)
    obtain ⟨kd, tx, htx, hxl⟩ := hga.2 k hka
    have hrd := hqa.get hka
    rw [show (xs.getD k (.nilIface, [])).2 = kd :: tx from htx] at hrd
    refine wp_skip ?_
    refine then_n ?_
    refine wp_seq ?_
    refine wp_block ?_
    refine wp_reg ?_
    refine s_q hs (c_move (hs.ev rfl)) rfl fun ac hs => ?_
    refine s_q hs (c_move (hs.ev rfl)) rfl fun ac hs => ?_
    refine s_q hs (c_move (hs.ev rfl)) rfl fun ac hs => ?_
    refine s_q hs (c_idxS (j := k) un30 ty34 (hs.ev rfl) (hs.ev rfl) (by omega) (by omega)) rfl fun ac hs => ?_
    refine s_q hs (c_loadS un34 rfl (hs.ev rfl) (hs.old hpb id) (seg_get (.nilIface, []) hps (by omega))) rfl fun ac hs => ?_
    refine s_call hs fu54 (.cons (hs.ev rfl) .nil) (ref06_Of kd tx _ hxl _ (hrd.fr0 hs.fr)) rfl fun ac ww v22 hf hp hs => ?_
    obtain rfl := hp
    replace hs := hs [] (.nil _ _)
    refine s_bslice hs un109 ty22 (.cons (hs.ev rfl) .nil) rfl (by intro v hv; simp only [List.mem_singleton] at hv; subst hv; simp [Value.cells]) (by decide) (show _ = (short kd tx).map B by simp [flatCells, Value.cells]) rfl fun ac ww g23 hs => ?_
    refine s_append (i := 2) hs un109 ty22 (by decide) rfl rfl rfl (Rd.of_seg (n := 1) (hs.seg (i := 0) rfl) (Nat.le_refl _) (by decide) (List.take_of_length_le (by simp))) (by simp) (all_map_B _) (by unfold maxLen; omega) (by omega) rfl fun ac ww v24 hf hnil hs => ?_
    rw [show short kd tx = ofT (txt xs k) from by rw [htx]; rfl] at hs
    refine s_q hs (c_assign (hs.ev rfl)) rfl fun ac hs => ?_
    refine s_end ?_
    replace hs := hs.pick (L' := [_, _]) (.cons _ (.refl _))
    refine blk_n ?_
    refine then_n ?_
    refine wp_reg ?_
    refine s_q hs (c_move (hs.ev rfl)) rfl fun ac hs => ?_
    refine s_q hs (c_addI (hs.ev rfl) (hs.ev rfl) (by omega) (by omega)) rfl fun ac hs => ?_
    refine s_q hs (c_assign (hs.ev rfl)) rfl fun ac hs => ?_
    refine s_end ?_
    refine then_n ?_
    exact ⟨xs.length - (k + 1), by (try simp only); omega, (k + 1, _), ⟨by (try simp only); omega, rfl⟩, St.next hs ⟨rfl, rfl, rfl, rfl, rfl, rfl, trivial⟩ (by rw [sums_succ, List.map_append]; try rfl)⟩
  · try simp only [decide_eq_true_eq, decide_eq_false_iff_not, Bool.not_eq_true', Bool.not_eq_false', Bool.and_eq_true, Bool.or_eq_true, Bool.or_eq_false_iff] at hc
    obtain rfl : k = xs.length := by omega
    refine wp_exit ?_
    refine then_e ?_
    refine then_e ?_
    refine blk_hit ?_
    refine then_n ?_
    refine wp_seq ?_
    refine wp_seq ?_
    refine wp_reg ?_
    refine s_q hs (c_assign (hs.ev rfl)) rfl fun ac hs => ?_
    refine s_end ?_
    replace hs := hs.sub (F' := [(0, _), (1, _), (4, _), (5, _), (6, _), (8, _)]) ⟨rfl, rfl, rfl, rfl, rfl, rfl, trivial⟩
    refine then_n ?_
    refine wp_block ?_
    refine s_loop hs (X := Nat × Value) (fun x => [(6, x.2), (8, I x.1)]) [(0, _), (1, _), (4, _), (5, _)] (fun x => [.row x.2 (x.1) ((sums bs (x.1)).map B) 22 16, _]) (fun n x => x.1 ≤ bs.length ∧ n = bs.length - x.1) (_) ((0, _)) (⟨Nat.zero_le _, rfl⟩) ⟨rfl, rfl, rfl, rfl, rfl, rfl, trivial⟩ rfl ?_
    rintro n ⟨k, v⟩ ac ww hok hs
    simp only [List.cons_append, List.nil_append] at hs
    obtain ⟨hk, rfl⟩ := hok
    simp only at hk hs
    refine wp_seq ?_
    refine wp_seq ?_
    refine wp_reg ?_
    refine s_q hs (c_move (hs.ev rfl)) rfl fun ac hs => ?_
    refine s_q hs (c_move (hs.ev rfl)) rfl fun ac hs => ?_
    refine s_q hs (c_lenS un30 (hs.ev rfl)) rfl fun ac hs => ?_
    refine s_q hs (c_lssI (hs.ev rfl) (hs.ev rfl)) rfl fun ac hs => ?_
    refine s_end ?_
    refine then_n ?_
    refine s_cond hs rfl (fun hc => ?_) (fun hc => ?_)
    · try simp only [decide_eq_true_eq, decide_eq_false_iff_not, Bool.not_eq_true', Bool.not_eq_false', Bool.and_eq_true, Bool.or_eq_true, Bool.or_eq_false_iff] at hc
      have hkb : k < bs.length := by omega
      obtain ⟨pb, po, pT, pf, pall, rfl, hpb, hps⟩ := hqb.at' (by omega)
      obtain ⟨kd, tx, htx, hxl⟩ := hgb.2 k hkb
      have hrd := hqb.get hkb
      rw [show (bs.getD k (.nilIface, [])).2 = kd :: tx from htx] at hrd
      refine wp_skip ?_
      refine then_n ?_
      refine wp_seq ?_
      refine wp_block ?_
      refine wp_reg ?_
      refine s_q hs (c_move (hs.ev rfl)) rfl fun ac hs => ?_
      refine s_q hs (c_move (hs.ev rfl)) rfl fun ac hs => ?_
      refine s_q hs (c_move (hs.ev rfl)) rfl fun ac hs => ?_
      refine s_q hs (c_idxS (j := k) un30 ty34 (hs.ev rfl) (hs.ev rfl) (by omega) (by omega)) rfl fun ac hs => ?_
      refine s_q hs (c_loadS un34 rfl (hs.ev rfl) (hs.old hpb id) (seg_get (.nilIface, []) hps (by omega))) rfl fun ac hs => ?_
      refine s_call hs fu54 (.cons (hs.ev rfl) .nil) (ref06_Of kd tx _ hxl _ (hrd.fr0 hs.fr)) rfl fun ac ww v36 hf hp hs => ?_
      obtain rfl := hp
      replace hs := hs [] (.nil _ _)
      refine s_bslice hs un109 ty22 (.cons (hs.ev rfl) .nil) rfl (by intro v hv; simp only [List.mem_singleton] at hv; subst hv; simp [Value.cells]) (by decide) (show _ = (short kd tx).map B by simp [flatCells, Value.cells]) rfl fun ac ww g37 hs => ?_
      refine s_append (i := 1) hs un109 ty22 (by decide) rfl rfl rfl (Rd.of_seg (n := 1) (hs.seg (i := 0) rfl) (Nat.le_refl _) (by decide) (List.take_of_length_le (by simp))) (by simp) (all_map_B _) (by unfold maxLen; omega) (by omega) rfl fun ac ww v38 hf hnil hs => ?_
      rw [show short kd tx = ofT (txt bs k) from by rw [htx]; rfl] at hs
      refine s_q hs (c_assign (hs.ev rfl)) rfl fun ac hs => ?_
      refine s_end ?_
      replace hs := hs.pick (L' := [_, _]) (.cons _ (.refl _))
      refine blk_n ?_
      refine then_n ?_
      refine wp_reg ?_
      refine s_q hs (c_move (hs.ev rfl)) rfl fun ac hs => ?_
      refine s_q hs (c_addI (hs.ev rfl) (hs.ev rfl) (by omega) (by omega)) rfl fun ac hs => ?_
      refine s_q hs (c_assign (hs.ev rfl)) rfl fun ac hs => ?_
      refine s_end ?_
      refine then_n ?_
      exact ⟨bs.length - (k + 1), by (try simp only); omega, (k + 1, _), ⟨by (try simp only); omega, rfl⟩, St.next hs ⟨rfl, rfl, rfl, rfl, rfl, rfl, trivial⟩ (by rw [sums_succ, List.map_append]; try rfl)⟩
    · try simp only [decide_eq_true_eq, decide_eq_false_iff_not, Bool.not_eq_true', Bool.not_eq_false', Bool.and_eq_true, Bool.or_eq_true, Bool.or_eq_false_iff] at hc
      obtain rfl : k = bs.length := by omega
      refine wp_exit ?_
      refine then_e ?_
      refine then_e ?_
      refine blk_hit ?_
      refine then_n ?_
      refine wp_seq ?_
      refine wp_seq ?_
      refine wp_reg ?_
      refine s_q hs (c_assign (hs.ev rfl)) rfl fun ac hs => ?_
      refine s_end ?_
      replace hs := hs.sub (F' := [(0, _), (1, _), (4, _), (5, _), (6, _), (9, _)]) ⟨rfl, rfl, rfl, rfl, rfl, rfl, trivial⟩
      refine then_n ?_
      refine wp_block ?_
      refine s_loop hs (X := Nat) (fun i => [(9, I i)]) [(0, _), (1, _), (5, _), (6, _)] (fun _ => [_, _]) (fun n i => i ≤ xs.length ∧ n = xs.length - i ∧ ∀ i2, i2 < i → ∀ q, q < bs.length → hit xs bs i2 q = false) (_) (0) (⟨Nat.zero_le _, rfl, fun _ h => absurd h (by omega)⟩) ⟨rfl, rfl, rfl, rfl, rfl, trivial⟩ rfl ?_
      rintro n i ac ww hok hs
      simp only [List.cons_append, List.nil_append] at hs
      obtain ⟨hi, rfl, hno⟩ := hok
      refine wp_seq ?_
      refine wp_seq ?_
      refine wp_reg ?_
      refine s_q hs (c_move (hs.ev rfl)) rfl fun ac hs => ?_
      refine s_q hs (c_move (hs.ev rfl)) rfl fun ac hs => ?_
      refine s_q hs (c_lenS un30 (hs.ev rfl)) rfl fun ac hs => ?_
      refine s_q hs (c_lssI (hs.ev rfl) (hs.ev rfl)) rfl fun ac hs => ?_
      refine s_end ?_
      refine then_n ?_
      refine s_cond hs rfl (fun hc => ?_) (fun hc => ?_)
      · try simp only [decide_eq_true_eq, decide_eq_false_iff_not, Bool.not_eq_true', Bool.not_eq_false', Bool.and_eq_true, Bool.or_eq_true, Bool.or_eq_false_iff] at hc
        have hil : i < xs.length := by omega
        refine wp_skip ?_
        refine then_n ?_
        refine wp_seq ?_
        refine wp_block ?_
        refine wp_seq ?_
        refine wp_reg ?_
        refine s_q hs (c_assign (hs.ev rfl)) rfl fun ac hs => ?_
        refine s_end ?_
        refine then_n ?_
        refine wp_block ?_
        refine s_loop hs (X := Nat) (fun q => [(10, I q)]) [(0, _), (1, _), (5, _), (6, _), (9, _), (39, _), (40, _), (41, _), (42, _)] (fun _ => [_, _]) (fun n q => q ≤ bs.length ∧ n = bs.length - q ∧ ∀ q2, q2 < q → hit xs bs i q2 = false) (_) (0) (⟨Nat.zero_le _, rfl, fun _ h => absurd h (by omega)⟩) ⟨rfl, rfl, rfl, rfl, rfl, rfl, rfl, rfl, rfl, rfl, trivial⟩ rfl ?_
        rintro n q ac ww hok hs
        simp only [List.cons_append, List.nil_append] at hs
        obtain ⟨hq, rfl, hno2⟩ := hok
        refine wp_seq ?_
        refine wp_seq ?_
        refine wp_reg ?_
        refine s_q hs (c_move (hs.ev rfl)) rfl fun ac hs => ?_
        refine s_q hs (c_move (hs.ev rfl)) rfl fun ac hs => ?_
        refine s_q hs (c_lenS un30 (hs.ev rfl)) rfl fun ac hs => ?_
        refine s_q hs (c_lssI (hs.ev rfl) (hs.ev rfl)) rfl fun ac hs => ?_
        refine s_end ?_
        refine then_n ?_
        refine s_cond hs rfl (fun hc => ?_) (fun hc => ?_)
        · try simp only [decide_eq_true_eq, decide_eq_false_iff_not, Bool.not_eq_true', Bool.not_eq_false', Bool.and_eq_true, Bool.or_eq_true, Bool.or_eq_false_iff] at hc
          have hql : q < bs.length := by omega
          obtain ⟨sg, scap, scur, rfl, hsg, hsn, hsm, hss, hst⟩ := hs.row_at (i := 1) rfl (by omega)
          obtain ⟨tg, tcap, tcur, rfl, htg, htn, htm, hts, htt⟩ := hs.row_at (i := 0) rfl (by omega)
          obtain ⟨pa, pao, paT, paf, paall, rfl, hpa, hpas⟩ := hqa.at' (by omega)
          obtain ⟨pb, po, pT, pf, pall, rfl, hpb, hps⟩ := hqb.at' (by omega)
          have hra := hqa.get hil
          have hrb := hqb.get hql
          refine wp_skip ?_
          refine then_n ?_
          refine wp_seq ?_
          refine wp_block ?_
          refine wp_seq ?_
          refine wp_region_rg pmix 22 (by kernel_rfl) rfl hs ?_
          simp only [List.take_succ_cons, List.take_zero]
          refine rg_q (fun ac ww h => c_move (h.ev rfl)) rfl ?_
          refine rg_q (fun ac ww h => c_move (h.ev rfl)) rfl ?_
          refine rg_q (fun ac ww h => c_idxS (j := i) un109 ty22 (h.ev rfl) (h.ev rfl) (by omega) (by omega)) rfl ?_
          refine rg_q (fun ac ww h => c_loadA ty22 rfl (h.ev rfl) (h.blk hsg) ((rowpiece hst (sums_len _ _) hil).trans (by rw [sums_piece _ hil])) (by simp)) rfl ?_
          refine rg_q (fun ac ww h => c_move (h.ev rfl)) rfl ?_
          refine rg_q (fun ac ww h => c_move (h.ev rfl)) rfl ?_
          refine rg_q (fun ac ww h => c_idxS (j := q) un109 ty22 (h.ev rfl) (h.ev rfl) (by omega) (by omega)) rfl ?_
          refine rg_q (fun ac ww h => c_loadA ty22 rfl (h.ev rfl) (h.blk htg) ((rowpiece htt (sums_len _ _) hql).trans (by rw [sums_piece _ hql])) (by simp)) rfl ?_
          refine rg_q (fun ac ww h => c_eqlAB un22 ty5 eg22 (h.ev rfl) (h.ev rfl) (ofT_length _) (ofT_length _)) rfl ?_
          refine rg_q (fun ac ww h => c_move (h.ev rfl)) rfl ?_
          refine rg_g rfl rfl (fun hg ac ww h => c_move (h.ev rfl)) rfl ?_
          refine rg_g rfl rfl (fun hg ac ww h => c_move (h.ev rfl)) rfl ?_
          refine rg_g rfl rfl (fun hg ac ww h => c_idxS (j := i) un30 ty34 (gev (h.ev rfl) hg) (gev (h.ev rfl) hg) (by omega) (by omega)) rfl ?_
          refine rg_g rfl rfl (fun hg ac ww h => c_loadS un34 rfl (gev (h.ev rfl) hg) (h.blk (hs.old hpa id)) (seg_get (.nilIface, []) hpas (by omega))) rfl ?_
          refine rg_g rfl rfl (fun hg ac ww h => c_cvST un34 un5 un9 (gev (h.ev rfl) hg) ((hra.fr0 hs.fr).fr0 h.fr)) rfl ?_
          refine rg_g rfl rfl (fun hg ac ww h => c_move (h.ev rfl)) rfl ?_
          refine rg_g rfl rfl (fun hg ac ww h => c_move (h.ev rfl)) rfl ?_
          refine rg_g rfl rfl (fun hg ac ww h => c_idxS (j := q) un30 ty34 (gev (h.ev rfl) hg) (gev (h.ev rfl) hg) (by omega) (by omega)) rfl ?_
          refine rg_g rfl rfl (fun hg ac ww h => c_loadS un34 rfl (gev (h.ev rfl) hg) (h.blk (hs.old hpb id)) (seg_get (.nilIface, []) hps (by omega))) rfl ?_
          refine rg_g rfl rfl (fun hg ac ww h => c_cvST un34 un5 un9 (gev (h.ev rfl) hg) ((hrb.fr0 hs.fr).fr0 h.fr)) rfl ?_
          refine rg_g rfl rfl (fun hg ac ww h => c_neqTT (gev (h.ev rfl) hg) (gev (h.ev rfl) hg)) rfl ?_
          refine rg_q (fun ac ww h => c_to (c_and (h.ev rfl) (h.ev rfl)) ((show Value.bool _ = Value.bool (hit xs bs i q) from congrArg Value.bool (by unfold hit; rw [bneL]; rfl)))) rfl ?_
          refine rg_nil fun ac ww L' hf hfe hs => ?_
          simp only [List.drop_succ_cons, List.drop_zero]
          obtain rfl : L' = [] := hfe
          replace hs := hs.toL (List.nil_append _)
          refine s_end ?_
          refine then_n ?_
          refine s_cond hs rfl (fun hc => ?_) (fun hc => ?_)
          · skip
            refine wp_seq ?_
            refine wp_reg ?_
            refine s_q hs (c_assign (hs.ev rfl)) rfl fun ac hs => ?_
            refine s_end ?_
            refine then_n ?_
            refine wp_ret ?_
            refine blk_r ?_
            refine then_r ?_
            refine then_r ?_
            refine blk_r ?_
            refine blk_r ?_
            refine then_r ?_
            refine then_r ?_
            refine blk_r ?_
            refine then_r ?_
            refine s_ret hs rfl (.tmp (hs.tmp rfl) .nil) rfl ⟨_, rfl, hs.fr, ?_⟩
            show Value.bool true = _
            rw [clash_hit hil hql hc]
          · skip
            refine wp_skip ?_
            refine blk_n ?_
            refine then_n ?_
            refine wp_reg ?_
            refine s_q hs (c_move (hs.ev rfl)) rfl fun ac hs => ?_
            refine s_q hs (c_addI (hs.ev rfl) (hs.ev rfl) (by omega) (by omega)) rfl fun ac hs => ?_
            refine s_q hs (c_assign (hs.ev rfl)) rfl fun ac hs => ?_
            refine s_end ?_
            refine then_n ?_
            exact ⟨bs.length - (q + 1), by omega, q + 1, ⟨by omega, rfl, fun q2 h2 => by
                by_cases e : q2 = q
                · subst e; exact hc
                · exact hno2 q2 (by omega)⟩, St.next hs ⟨rfl, rfl, rfl, rfl, rfl, rfl, rfl, rfl, rfl, rfl, trivial⟩ rfl⟩
        · try simp only [decide_eq_true_eq, decide_eq_false_iff_not, Bool.not_eq_true', Bool.not_eq_false', Bool.and_eq_true, Bool.or_eq_true, Bool.or_eq_false_iff] at hc
          obtain rfl : q = bs.length := by omega
          refine wp_exit ?_
          refine then_e ?_
          refine then_e ?_
          refine blk_hit ?_
          refine blk_n ?_
          refine then_n ?_
          refine wp_reg ?_
          refine s_q hs (c_move (hs.ev rfl)) rfl fun ac hs => ?_
          refine s_q hs (c_addI (hs.ev rfl) (hs.ev rfl) (by omega) (by omega)) rfl fun ac hs => ?_
          refine s_q hs (c_assign (hs.ev rfl)) rfl fun ac hs => ?_
          refine s_end ?_
          refine then_n ?_
          exact ⟨xs.length - (i + 1), by omega, i + 1, ⟨by omega, rfl, fun i2 h2 q hq => by
              by_cases e : i2 = i
              · subst e; exact hno2 q (by omega)
              · exact hno i2 (by omega) q hq⟩, St.next hs ⟨rfl, rfl, rfl, rfl, rfl, trivial⟩ rfl⟩
      · try simp only [decide_eq_true_eq, decide_eq_false_iff_not, Bool.not_eq_true', Bool.not_eq_false', Bool.and_eq_true, Bool.or_eq_true, Bool.or_eq_false_iff] at hc
        obtain rfl : i = xs.length := by omega
        refine wp_exit ?_
        refine then_e ?_
        refine then_e ?_
        refine blk_hit ?_
        refine then_n ?_
        refine wp_seq ?_
        refine wp_reg ?_
        refine s_q hs (c_assign (hs.ev rfl)) rfl fun ac hs => ?_
        refine s_end ?_
        replace hs := hs.sub (F' := [(4, _)]) ⟨rfl, trivial⟩
        refine then_n ?_
        refine wp_ret ?_
        refine s_ret hs rfl (.tmp (hs.tmp rfl) .nil) rfl ⟨_, rfl, hs.fr, ?_⟩
        show Value.bool false = _
        rw [clash_none fun i hi q hq => hno i hi q hq]

end Go.Proofs.Ytmgnnclkjkbmdaa
end

/- Links of a key below where a signature has them. -/
section
set_option linter.unusedSimpArgs false
set_option linter.unusedVariables false
set_option maxRecDepth 100000
namespace Go.Proofs.Ytmgnnclkjkbmdaa
open Go Go.Fw

open Sha Ots
def belowAt (d : Int) (i : UInt32) (k : Nat → List UInt8) (m signed s : List UInt8) (c : Nat) : Bool := decide (dgN m c < dgN signed c) && decide (linkN d i (c : Int) 0 (k c) (dgN m c) = chunk s c)
theorem belowN_succ (d : Int) (i : UInt32) (k : Nat → List UInt8) (m signed s : List UInt8) (n : Nat) : belowN d i k m signed s (n + 1) = (belowN d i k m signed s n || belowAt d i k m signed s n) := by simp [belowN, belowAt, List.range_succ]
theorem belowN_hit {d : Int} {i : UInt32} {k : Nat → List UInt8} {m signed s : List UInt8} {c : Nat} (hc : c < 68) (h : belowAt d i k m signed s c = true) : belowN d i k m signed s 68 = true := by
  unfold belowAt at h
  rw [Bool.and_eq_true, decide_eq_true_iff, decide_eq_true_iff] at h
  exact below_at hc h.1 h.2
theorem good_of {ps : List (Value × List UInt8)} {ls : List (List UInt8)} (h : ps.map (·.2) = ls) (hl : ls.length ≤ 1000000) (ha : ∀ t ∈ ls, ∃ kd tx, t = kd :: tx ∧ tx.length ≤ 140737488355199) : Good ps := by
  refine ⟨by rw [← h, List.length_map] at hl; exact hl, fun k hk => ?_⟩
  exact ha _ (h ▸ txt_mem hk)
theorem linkX_good {d : Int} {i : UInt32} {ch : Int} {st : Nat} {s : List UInt8} (hs : s.length = 16) : ∃ kd tx, linkX d i ch st s = kd :: tx ∧ tx.length ≤ 140737488355199 := ⟨_, _, rfl, by simp [linkT, hs]⟩
theorem pub_good {d : Int} {i : UInt32} {k : Nat → List UInt8} (hk : ∀ c, (k c).length = 16) : ∀ t ∈ pubTs d i k 68 ++ [pressX d i (tops d i k)], ∃ kd tx, t = kd :: tx ∧ tx.length ≤ 140737488355199 := by
  intro t ht
  rcases List.mem_append.1 ht with ht | ht
  · obtain ⟨c, _, hc⟩ := List.mem_flatMap.1 ht
    obtain ⟨j, _, rfl⟩ := linkTs_mem.1 hc
    exact linkX_good (linkN_length (hk c) j)
  · simp only [List.mem_singleton] at ht; subst ht
    exact ⟨_, _, rfl, by simp [tops_length hk]⟩
theorem rec_good {d : Int} {i : UInt32} {m s : List UInt8} (hs : s.length = 1088) : ∀ t ∈ recTs d i (dgN m) s 68 ++ [pressX d i (rises d i (dgN m) s 68)], ∃ kd tx, t = kd :: tx ∧ tx.length ≤ 140737488355199 := by
  intro t ht
  rcases List.mem_append.1 ht with ht | ht
  · obtain ⟨c, hc0, hc⟩ := List.mem_flatMap.1 ht
    obtain ⟨j, _, rfl⟩ := linkTs_mem.1 hc
    exact linkX_good (linkN_length (chunk_length hs (List.mem_range.1 hc0)) j)
  · simp only [List.mem_singleton] at ht; subst ht
    exact ⟨_, _, rfl, by simp [rises_length hs (Nat.le_refl _)]⟩
/-- One link of a signature, put in its place. -/
def upd (s : List UInt8) (c : Nat) (x : List UInt8) : List UInt8 := s.take (16 * c) ++ x ++ s.drop (16 * c + 16)
theorem upd_length {s x : List UInt8} {c : Nat} (hs : s.length = 1088) (hc : c < 68) (hx : x.length = 16) : (upd s c x).length = 1088 := by simp only [upd, List.length_append, List.length_take, List.length_drop]; omega
theorem upd_set (s x : List UInt8) (c : Nat) : (s.map B).take (0 + c * 16) ++ x.map B ++ (s.map B).drop (0 + c * 16 + 16) = (upd s c x).map B := by
  rw [Nat.zero_add, Nat.mul_comm c 16, upd]
  simp only [List.map_append, List.map_take, List.map_drop]
theorem at_off (s : List UInt8) {c j : Nat} (h : 16 * c + j < s.length) : (s.map B).toArray.toList[0 + c * 16 + j * 1]? = some (B (s.getD (16 * c + j) 0)) := by
  rw [show 0 + c * 16 + j * 1 = 16 * c + j from by omega]
  simp [List.getD, h]
theorem set_off (s : List UInt8) {c j : Nat} (x : UInt8) (h : 16 * c + j < s.length) : (s.map B).take (0 + c * 16 + j * 1) ++ [B x] ++ (s.map B).drop (0 + c * 16 + j * 1 + 1) = (s.set (16 * c + j) x).map B := by
  have := map_set (f := B) (l := s) (i := 16 * c + j) x h
  rw [show 0 + c * 16 + j * 1 = 0 + (16 * c + j) * 1 from by omega]
  exact this
theorem xor_zero_set (s : List UInt8) (j : Nat) (h : j < s.length) : s.set j (s.getD j 0 ^^^ 0) = s := by
  rw [UInt8.xor_zero]
  apply List.ext_getElem
  · simp
  · intro q h1 h2
    rw [List.getElem_set]
    split
    · rename_i e; subst e; simp [List.getD, h]
    · rfl

-- fingerpostref10.Below
set_option maxHeartbeats 4000000 in
theorem ref10_Below (seed : List UInt8) (d : Int) (i : UInt32) (m signed s : List UInt8) (hsd : seed.length = 32) (hm : m.length = 16) (hgl : signed.length = 16) (hs1 : s.length = 1088) (w : World)  : Ctr Try.prog 65 [.agg (seed.map B).toArray, .agg #[I d, U i], .agg (m.map B).toArray, .agg (signed.map B).toArray, .agg (s.map B).toArray] w (fun _ => False) (fun v _ => v = .bool (belowN d i (startK d i seed) m signed s 68)) := by
  refine fn_start (N := 52) Try.func65 rfl rfl rfl fun ac hk => ?_
  have hs := St.start hk w
  refine wp_seq ?_
  refine wp_reg ?_
  refine s_box hs rfl rfl rfl fun ac ww g5 hs => ?_
  refine s_box hs rfl rfl rfl fun ac ww g6 hs => ?_
  refine s_box hs rfl rfl rfl fun ac ww g7 hs => ?_
  refine s_box hs rfl rfl rfl fun ac ww g8 hs => ?_
  refine s_box hs rfl rfl rfl fun ac ww g9 hs => ?_
  refine s_q hs (c_assign (hs.ev rfl)) rfl fun ac hs => ?_
  refine s_end ?_
  replace hs := hs.sub (F' := [(5, _), (6, _), (7, _), (8, _), (9, _), (10, _)]) ⟨rfl, rfl, rfl, rfl, rfl, rfl, trivial⟩
  refine then_n ?_
  refine wp_seq ?_
  refine wp_region_rg pmix 6 (by kernel_rfl) rfl hs ?_
  simp only [List.take_succ_cons, List.take_zero]
  refine rg_q (fun ac ww h => c_loadW ty22 rfl (h.ev rfl) (h.blk (hs.seg (i := 2) rfl)) (by rw [List.length_map, hm])) rfl ?_
  refine rg_call fu40 (fun ac ww h => (.cons (h.ev rfl) .nil)) (fun ww hf => ref10_Digits m hm ww) rfl ?_
  refine rg_q (fun ac ww h => c_loadW ty22 rfl (h.ev rfl) (h.blk (hs.seg (i := 1) rfl)) (by rw [List.length_map, hgl])) rfl ?_
  refine rg_call fu40 (fun ac ww h => (.cons (h.ev rfl) .nil)) (fun ww hf => ref10_Digits signed hgl ww) rfl ?_
  refine rg_alloc ty23 rfl ?_
  refine rg_alloc ty23 rfl ?_
  refine rg_nil fun ac ww L' hf hfe hs => ?_
  simp only [List.drop_succ_cons, List.drop_zero]
  obtain ⟨v12, L12, M12, h12, e12, ⟨v11, L11, M11, h11, e11, rfl, rfl⟩, rfl⟩ := hfe
  replace hs := hs.add h12
  replace hs := hs.add h11
  obtain ⟨g12, rfl, rfl⟩ := e12
  obtain ⟨g11, rfl, rfl⟩ := e11
  refine s_storeW (i := 1) hs ty23 rfl rfl rfl (by simp) (all_map_B _) rfl fun ww hs => ?_
  refine s_storeW (i := 0) hs ty23 rfl rfl rfl (by simp) (all_map_B _) rfl fun ww hs => ?_
  refine s_end ?_
  replace hs := hs.sub (F' := [(5, _), (6, _), (9, _), (10, _), (11, _), (12, _)]) ⟨rfl, rfl, rfl, rfl, rfl, rfl, trivial⟩
  refine then_n ?_
  refine wp_seq ?_
  refine wp_seq ?_
  refine wp_reg ?_
  refine s_q hs (c_assign (hs.ev rfl)) rfl fun ac hs => ?_
  refine s_end ?_
  refine then_n ?_
  refine wp_block ?_
  refine s_loop hs (X := Nat) (fun k => [(13, I k)]) [(5, _), (6, _), (9, _), (11, _), (12, _)] (fun _ => [_, _, _, _, _, _, _]) (fun n k => k ≤ 68 ∧ n = 68 - k ∧ belowN d i (startK d i seed) m signed s k = false) (_) (0) (⟨Nat.zero_le _, rfl, rfl⟩) ⟨rfl, rfl, rfl, rfl, rfl, rfl, trivial⟩ rfl ?_
  rintro n k ac ww hok hs
  simp only [List.cons_append, List.nil_append] at hs
  obtain ⟨hk, rfl, hno⟩ := hok
  refine wp_seq ?_
  refine wp_seq ?_
  refine wp_reg ?_
  refine s_q hs (c_move (hs.ev rfl)) rfl fun ac hs => ?_
  refine s_q hs (c_lssI (hs.ev rfl) (hs.ev rfl)) rfl fun ac hs => ?_
  refine s_end ?_
  refine then_n ?_
  refine s_cond hs rfl (fun hc => ?_) (fun hc => ?_)
  · try simp only [decide_eq_true_eq, decide_eq_false_iff_not, Bool.not_eq_true', Bool.not_eq_false', Bool.and_eq_true, Bool.or_eq_true, Bool.or_eq_false_iff] at hc
    have hk68 : k < 68 := by omega
    have hcl := chunk_length hs1 hk68
    refine wp_skip ?_
    refine then_n ?_
    refine wp_seq ?_
    refine wp_block ?_
    refine wp_seq ?_
    refine wp_region_rgX (jl := 13) pmix 15 (by kernel_rfl) (by decide) rfl rfl rfl rfl rfl rfl (by kernel_rfl) rfl rfl hs ?_
    simp only [List.take_succ_cons, List.take_zero]
    refine rg_q (fun ac ww h => c_loadW ty29 ag29 (h.ev rfl) (h.blk (hs.seg (i := 5) rfl)) (by rfl)) rfl ?_
    refine rg_q (fun ac ww h => c_move (h.ev rfl)) rfl ?_
    refine rg_q (fun ac ww h => c_move (h.ev rfl)) rfl ?_
    refine rg_q (fun ac ww h => c_idxA (j := k) un23 ty5 (h.ev rfl) (h.ev rfl) (by omega) (by omega)) rfl ?_
    refine rg_q (fun ac ww h => c_loadS un5 rfl (h.ev rfl) (h.blk (hs.seg (i := 1) rfl)) ((map_get (l := digits m) 0 (by rw [digits_length]; omega)).trans (by rw [dgt_getD m k hk68]))) rfl ?_
    refine rg_q (fun ac ww h => c_cvBI un5 un3 (h.ev rfl)) rfl ?_
    refine rg_q (fun ac ww h => c_loadW ty40 rfl (h.ev rfl) (h.blk (hs.seg (i := 6) rfl)) (by rw [List.length_map, hsd])) rfl ?_
    refine rg_q (fun ac ww h => c_loadW ty29 ag29 (h.ev rfl) (h.blk (hs.seg (i := 5) rfl)) (by rfl)) rfl ?_
    refine rg_q (fun ac ww h => c_move (h.ev rfl)) rfl ?_
    refine rg_call fu164 (fun ac ww h => (.cons (h.ev rfl) (.cons (h.ev rfl) (.cons (h.ev rfl) .nil)))) (fun ww hf => ref10_Start seed d i (k : Int) hsd ww) rfl ?_
    refine rg_callE (tupE (.agg ((linkN d i (k : Int) 0 (startK d i seed k) (dgN m k)).map B).toArray) (textsE 34 5 (linkTs d i (k : Int) 0 (startK d i seed k) (dgN m k)))) (fun _ _ _ _ _ h => h) fu63 (fun ac ww h => ?_) rfl ?_
    · exact ⟨_, .cons (h.ev rfl) (.cons (h.ev rfl) (.cons (h.ev rfl) (.cons (h.ev rfl) (.cons (h.ev rfl) .nil)))), ref10_Run d i (k : Int) 0 (dgN m k) (startK d i seed k) rfl (dgN_le m k) _⟩
    refine rg_moveT rfl rfl rfl ?_
    refine rg_ext0 rfl rfl rfl ?_
    refine rg_ext1 rfl rfl rfl ?_
    refine rg_alloc ty22 rfl ?_
    refine rg_nil fun ac ww L' hf hfe hs hlk => ?_
    simp only [List.drop_succ_cons, List.drop_zero]
    obtain ⟨v14, L14, M14, h14, e14, ⟨v37, L37, M37, h37, e37, ⟨v24, L24, M24, h24, e24, ⟨v35, L35, M35, h35, e35, rfl, rfl⟩, rfl⟩, rfl⟩, rfl⟩ := hfe
    replace hs := hs.add h14
    replace hs := hs.add h37
    replace hs := hs.add h24
    replace hs := hs.add h35
    obtain ⟨g14, rfl, rfl⟩ := e14
    obtain ⟨tv35, rfl, e35⟩ := e35
    obtain ⟨-, rfl⟩ := e24
    obtain rfl := lk_move (j := 11) hlk (by decide) rfl (by kernel_rfl) h24 h35
    obtain ⟨-, rfl⟩ := e37
    obtain rfl := lk_ext (j := 13) hlk (by decide) rfl (by kernel_rfl) h37 h24 rfl
    obtain ⟨ps35, hps35, rfl⟩ := e35
    refine sk_storeW (i := 0) hs ty22 rfl rfl rfl (by rw [List.length_map, linkN_length (startK_length d i seed k)]) (all_map_B _) rfl fun ww hs => ?_
    refine s_q hs (c_assign (hs.ev rfl)) rfl fun ac hs => ?_
    refine s_end ?_
    replace hs := hs.sub (F' := [(5, _), (6, _), (9, _), (11, _), (12, _), (13, _), (14, _), (20, _), (21, _), (24, _), (25, _), (26, _), (27, _), (28, _), (29, _), (30, _), (31, _), (32, _), (33, _), (34, _), (35, _), (36, _), (37, _)]) ⟨rfl, rfl, rfl, rfl, rfl, rfl, rfl, rfl, rfl, rfl, rfl, rfl, rfl, rfl, rfl, rfl, rfl, rfl, rfl, rfl, rfl, rfl, rfl, trivial⟩
    refine then_n ?_
    refine wp_seq ?_
    refine wp_region_rg pmix 14 (by kernel_rfl) rfl hs ?_
    simp only [List.take_succ_cons, List.take_zero]
    refine rg_q (fun ac ww h => c_move (h.ev rfl)) rfl ?_
    refine rg_q (fun ac ww h => c_idxA (j := k) un23 ty5 (h.ev rfl) (h.ev rfl) (by omega) (by omega)) rfl ?_
    refine rg_q (fun ac ww h => c_loadS un5 rfl (h.ev rfl) (h.blk (hs.seg (i := 3) rfl)) ((map_get (l := digits m) 0 (by rw [digits_length]; omega)).trans (by rw [dgt_getD m k hk68]))) rfl ?_
    refine rg_q (fun ac ww h => c_move (h.ev rfl)) rfl ?_
    refine rg_q (fun ac ww h => c_idxA (j := k) un23 ty5 (h.ev rfl) (h.ev rfl) (by omega) (by omega)) rfl ?_
    refine rg_q (fun ac ww h => c_loadS un5 rfl (h.ev rfl) (h.blk (hs.seg (i := 2) rfl)) ((map_get (l := digits signed) 0 (by rw [digits_length]; omega)).trans (by rw [dgt_getD signed k hk68]))) rfl ?_
    refine rg_q (fun ac ww h => c_lssB (h.ev rfl) (h.ev rfl)) rfl ?_
    refine rg_q (fun ac ww h => c_move (h.ev rfl)) rfl ?_
    refine rg_g rfl rfl (fun hg ac ww h => c_loadW ty22 rfl (h.ev rfl) (h.blk (hs.seg (i := 0) rfl)) (by rw [List.length_map, linkN_length (startK_length d i seed k)])) rfl ?_
    refine rg_g rfl rfl (fun hg ac ww h => c_move (h.ev rfl)) rfl ?_
    refine rg_g rfl rfl (fun hg ac ww h => c_idxA (j := k) un33 ty22 (h.ev rfl) (gev (h.ev rfl) hg) (by omega) (by omega)) rfl ?_
    refine rg_g rfl rfl (fun hg ac ww h => c_loadA ty22 rfl (gev (h.ev rfl) hg) (h.blk (hs.seg (i := 4) rfl)) (chunk_at s k) (by rw [List.length_map, hcl])) rfl ?_
    refine rg_g rfl rfl (fun hg ac ww h => c_eqlAB un22 ty5 eg22 (gev (h.ev rfl) hg) (gev (h.ev rfl) hg) (linkN_length (startK_length d i seed k) _) hcl) rfl ?_
    refine rg_q (fun ac ww h => c_to (c_and (h.ev rfl) (h.ev rfl)) ((show Value.bool _ = Value.bool (belowAt d i (startK d i seed) m signed s k) from rfl))) rfl ?_
    refine rg_nil fun ac ww L' hf hfe hs => ?_
    simp only [List.drop_succ_cons, List.drop_zero]
    obtain rfl : L' = [] := hfe
    replace hs := hs.toL (List.nil_append _)
    refine s_end ?_
    refine then_n ?_
    refine s_cond hs rfl (fun hc => ?_) (fun hc => ?_)
    · skip
      refine wp_seq ?_
      refine wp_reg ?_
      refine s_q hs (c_assign (hs.ev rfl)) rfl fun ac hs => ?_
      refine s_end ?_
      refine then_n ?_
      refine wp_ret ?_
      refine blk_r ?_
      refine then_r ?_
      refine then_r ?_
      refine blk_r ?_
      refine then_r ?_
      refine s_ret hs rfl (.tmp (hs.tmp rfl) .nil) rfl ⟨_, rfl, hs.fr, ?_⟩
      show Value.bool true = _
      rw [belowN_hit hk68 hc]
    · skip
      refine wp_skip ?_
      refine blk_n ?_
      refine then_n ?_
      refine wp_reg ?_
      refine s_q hs (c_move (hs.ev rfl)) rfl fun ac hs => ?_
      refine s_q hs (c_addI (hs.ev rfl) (hs.ev rfl) (by omega) (by omega)) rfl fun ac hs => ?_
      refine s_q hs (c_assign (hs.ev rfl)) rfl fun ac hs => ?_
      refine s_end ?_
      refine then_n ?_
      replace hs := hs.pick (L' := [_, _, _, _, _, _, _]) (.cons _ (.cons _ (.refl _)))
      exact ⟨68 - (k + 1), by omega, k + 1, ⟨by omega, rfl, by rw [belowN_succ, hno, hc]; rfl⟩, St.next hs ⟨rfl, rfl, rfl, rfl, rfl, rfl, trivial⟩ rfl⟩
  · try simp only [decide_eq_true_eq, decide_eq_false_iff_not, Bool.not_eq_true', Bool.not_eq_false', Bool.and_eq_true, Bool.or_eq_true, Bool.or_eq_false_iff] at hc
    obtain rfl : k = 68 := by omega
    refine wp_exit ?_
    refine then_e ?_
    refine then_e ?_
    refine blk_hit ?_
    refine then_n ?_
    refine wp_seq ?_
    refine wp_reg ?_
    refine s_q hs (c_assign (hs.ev rfl)) rfl fun ac hs => ?_
    refine s_end ?_
    replace hs := hs.sub (F' := [(10, _)]) ⟨rfl, trivial⟩
    refine then_n ?_
    refine wp_ret ?_
    refine s_ret hs rfl (.tmp (hs.tmp rfl) .nil) rfl ⟨_, rfl, hs.fr, ?_⟩
    show Value.bool false = _
    rw [hno]

end Go.Proofs.Ytmgnnclkjkbmdaa
end

/- More conversions. -/
section
set_option linter.unusedSimpArgs false
set_option linter.unusedVariables false
namespace Go.Fw
open Go
section
variable {P : Program} {a : Act} {w : World} {d : Option Tmp} {ty : TypeId} {pos : String} {aft : Array Edge} {g : Option (Nat × Bool)} {x y z : Operand} {t u : TypeId}
theorem c_cvVI {ds : TypeDesc} {b : UInt64} (hs : P.underlying t = some ds) (hd : P.underlying u = some (.int .i64)) (hx : a.eval x = V b) (hb : b.toNat ≤ 9223372036854775807) : (execOp a.eval ⟨d, .convert t u x, ty, pos, aft, g⟩).run P w = .ok (.value (I b.toNat)) w := by
  rw [c_conv hs hd hx, wrap64_in (by omega) (by omega)]
end
end Go.Fw
end

/- The law of what is sound. -/
section
set_option linter.unusedSimpArgs false
set_option linter.unusedVariables false
set_option maxRecDepth 100000
namespace Go.Proofs.Ytmgnnclkjkbmdaa
open Go Go.Fw

open Sha Ots
theorem notboth {m signed : List UInt8} {turn : UInt8} (h : ¬ (m = signed ∧ turn = 0)) : (!decide (m = signed) || !decide (turn = 0)) = true := by
  by_cases e1 : m = signed
  · by_cases e2 : turn = 0
    · exact absurd ⟨e1, e2⟩ h
    · simp [e2]
  · simp [e1]

-- fingerpostlaw10.OtsSound
set_option maxHeartbeats 4000000 in
theorem law_OtsSound (seed : List UInt8) (d : Int) (i : UInt32) (signed m : List UInt8) (n : Int) (turn : UInt8) (hsd : seed.length = 32) (hgl : signed.length = 16) (hm : m.length = 16) (w : World)  : Ctr Try.prog 12 [.agg (seed.map B).toArray, .agg #[I d, U i], .agg (signed.map B).toArray, .agg (m.map B).toArray, I n, B turn] w (fun _ => False) (fun v _ => v = .bool true) := by
  refine fn_start (N := 139) Try.func12 rfl rfl rfl fun ac hk => ?_
  have hs := St.start hk w
  refine wp_seq ?_
  refine wp_reg ?_
  refine s_box hs rfl rfl rfl fun ac ww g6 hs => ?_
  refine s_box hs rfl rfl rfl fun ac ww g7 hs => ?_
  refine s_box hs rfl rfl rfl fun ac ww g8 hs => ?_
  refine s_box hs rfl rfl rfl fun ac ww g9 hs => ?_
  refine s_q hs (c_assign (hs.ev rfl)) rfl fun ac hs => ?_
  refine s_end ?_
  replace hs := hs.sub (F' := [(4, _), (5, _), (6, _), (7, _), (8, _), (9, _), (12, _)]) ⟨rfl, rfl, rfl, rfl, rfl, rfl, rfl, trivial⟩
  refine then_n ?_
  refine wp_seq ?_
  refine wp_reg ?_
  refine s_q hs (c_loadW ty40 rfl (hs.ev rfl) (hs.seg (i := 3) rfl) (by rw [List.length_map, hsd])) rfl fun ac hs => ?_
  refine s_q hs (c_loadW ty29 ag29 (hs.ev rfl) (hs.seg (i := 2) rfl) (by rfl)) rfl fun ac hs => ?_
  refine s_q hs (c_loadW ty22 rfl (hs.ev rfl) (hs.seg (i := 0) rfl) (by rw [List.length_map, hm])) rfl fun ac hs => ?_
  refine s_call hs fu62 (.cons (hs.ev rfl) (.cons (hs.ev rfl) (.cons (hs.ev rfl) .nil))) (ref10_Sign seed d i m hsd hm _) rfl fun ac ww v25 hf hp hs => ?_
  obtain rfl := hp
  replace hs := hs [] (.nil _ _)
  refine s_alloc hs ty33 rfl fun ac ww g13 hs => ?_
  refine s_storeW (i := 0) hs ty33 rfl rfl rfl (by rw [List.length_map, signs_length (startK_length d i seed)]) (all_map_B _) rfl fun ww hs => ?_
  refine s_end ?_
  replace hs := hs.sub (F' := [(4, _), (5, _), (6, _), (7, _), (8, _), (9, _), (12, _), (13, _)]) ⟨rfl, rfl, rfl, rfl, rfl, rfl, rfl, rfl, trivial⟩
  refine then_n ?_
  refine wp_seq ?_
  refine wp_seq ?_
  refine wp_reg ?_
  refine s_q hs (c_loadW ty22 rfl (hs.ev rfl) (hs.seg (i := 1) rfl) (by rw [List.length_map, hm])) rfl fun ac hs => ?_
  refine s_q hs (c_loadW ty22 rfl (hs.ev rfl) (hs.seg (i := 2) rfl) (by rw [List.length_map, hgl])) rfl fun ac hs => ?_
  refine s_q hs (c_neqAB un22 ty5 eg22 (hs.ev rfl) (hs.ev rfl) hm hgl) rfl fun ac hs => ?_
  refine s_end ?_
  replace hs := hs.sub (F' := [(4, _), (5, _), (6, _), (7, _), (8, _), (9, _), (12, _), (13, _), (28, _)]) ⟨rfl, rfl, rfl, rfl, rfl, rfl, rfl, rfl, rfl, trivial⟩
  refine then_n ?_
  refine s_cond hs rfl (fun hc => ?_) (fun hc => ?_)
  · try simp only [decide_eq_true_eq, decide_eq_false_iff_not, Bool.not_eq_true', Bool.not_eq_false', Bool.and_eq_true, Bool.or_eq_true, Bool.or_eq_false_iff] at hc
    have hne : ¬ m = signed := hc
    refine wp_seq ?_
    refine wp_reg ?_
    refine s_q hs (c_loadW ty40 rfl (hs.ev rfl) (hs.seg (i := 4) rfl) (by rw [List.length_map, hsd])) rfl fun ac hs => ?_
    refine s_q hs (c_loadW ty29 ag29 (hs.ev rfl) (hs.seg (i := 3) rfl) (by rfl)) rfl fun ac hs => ?_
    refine s_q hs (c_loadW ty22 rfl (hs.ev rfl) (hs.seg (i := 2) rfl) (by rw [List.length_map, hgl])) rfl fun ac hs => ?_
    refine s_call hs fu62 (.cons (hs.ev rfl) (.cons (hs.ev rfl) (.cons (hs.ev rfl) .nil))) (ref10_Sign seed d i signed hsd hgl _) rfl fun ac ww v32 hf hp hs => ?_
    obtain rfl := hp
    replace hs := hs [] (.nil _ _)
    refine s_storeW (i := 0) hs ty33 rfl rfl rfl (by rw [List.length_map, signs_length (startK_length d i seed)]) (all_map_B _) (by rw [List.length_map, signs_length (startK_length d i seed)]) fun ww hs => ?_
    refine s_end ?_
    replace hs := hs.sub (F' := [(4, _), (5, _), (6, _), (7, _), (8, _), (9, _), (12, _), (13, _)]) ⟨rfl, rfl, rfl, rfl, rfl, rfl, rfl, rfl, trivial⟩
    refine then_n ?_
    refine wp_seq ?_
    refine wp_region_rg pmix 6 (by kernel_rfl) rfl hs ?_
    simp only [List.take_succ_cons, List.take_zero]
    refine rg_q (fun ac ww h => c_loadW ty22 rfl (h.ev rfl) (h.blk (hs.seg (i := 1) rfl)) (by rw [List.length_map, hm])) rfl ?_
    refine rg_call fu40 (fun ac ww h => (.cons (h.ev rfl) .nil)) (fun ww hf => ref10_Digits m hm ww) rfl ?_
    refine rg_q (fun ac ww h => c_loadW ty22 rfl (h.ev rfl) (h.blk (hs.seg (i := 2) rfl)) (by rw [List.length_map, hgl])) rfl ?_
    refine rg_call fu40 (fun ac ww h => (.cons (h.ev rfl) .nil)) (fun ww hf => ref10_Digits signed hgl ww) rfl ?_
    refine rg_alloc ty23 rfl ?_
    refine rg_alloc ty23 rfl ?_
    refine rg_nil fun ac ww L' hf hfe hs => ?_
    simp only [List.drop_succ_cons, List.drop_zero]
    obtain ⟨v15, L15, M15, h15, e15, ⟨v14, L14, M14, h14, e14, rfl, rfl⟩, rfl⟩ := hfe
    replace hs := hs.add h15
    replace hs := hs.add h14
    obtain ⟨g15, rfl, rfl⟩ := e15
    obtain ⟨g14, rfl, rfl⟩ := e14
    refine s_storeW (i := 1) hs ty23 rfl rfl rfl (by simp) (all_map_B _) rfl fun ww hs => ?_
    refine s_storeW (i := 0) hs ty23 rfl rfl rfl (by simp) (all_map_B _) rfl fun ww hs => ?_
    refine s_end ?_
    replace hs := hs.sub (F' := [(4, _), (5, _), (6, _), (7, _), (8, _), (9, _), (12, _), (13, _), (14, _), (15, _)]) ⟨rfl, rfl, rfl, rfl, rfl, rfl, rfl, rfl, rfl, rfl, trivial⟩
    refine then_n ?_
    refine wp_seq ?_
    refine wp_reg ?_
    refine s_q hs (c_move (hs.ev rfl)) rfl fun ac hs => ?_
    refine s_end ?_
    refine then_n ?_
    refine wp_block ?_
    refine s_loop hs (X := Nat × List UInt8) (fun x => [(37, I x.1)]) [(4, _), (5, _), (6, _), (7, _), (8, _), (9, _), (12, _), (13, _), (14, _), (15, _)] (fun x => [_, _, .seg g13 (x.2.map B) 33, _, _, _, _]) (fun n x => x.1 ≤ 68 ∧ n = 68 - x.1 ∧ x.2.length = 1088) (_) ((0, _)) (⟨Nat.zero_le _, rfl, signs_length (startK_length d i seed) signed⟩) ⟨rfl, rfl, rfl, rfl, rfl, rfl, rfl, rfl, rfl, rfl, rfl, trivial⟩ rfl ?_
    rintro n ⟨k, s⟩ ac ww hok hs
    simp only [List.cons_append, List.nil_append] at hs
    obtain ⟨hk, rfl, hs1⟩ := hok
    simp only at hk hs1 hs
    refine wp_seq ?_
    refine wp_reg ?_
    refine s_q hs (c_lssI (hs.ev rfl) (hs.ev rfl)) rfl fun ac hs => ?_
    refine s_end ?_
    refine then_n ?_
    refine wp_seq ?_
    refine s_cond hs rfl (fun hc => ?_) (fun hc => ?_)
    · try simp only [decide_eq_true_eq, decide_eq_false_iff_not, Bool.not_eq_true', Bool.not_eq_false', Bool.and_eq_true, Bool.or_eq_true, Bool.or_eq_false_iff] at hc
      have hk68 : k < 68 := by omega
      have hcl := chunk_length hs1 hk68
      refine wp_skip ?_
      refine then_n ?_
      refine wp_seq ?_
      refine wp_block ?_
      refine wp_seq ?_
      refine wp_reg ?_
      refine s_q hs (c_move (hs.ev rfl)) rfl fun ac hs => ?_
      refine s_q hs (c_assign (hs.ev rfl)) rfl fun ac hs => ?_
      refine s_end ?_
      refine then_n ?_
      refine wp_seq ?_
      refine wp_region_rg pmix 6 (by kernel_rfl) rfl hs ?_
      simp only [List.take_succ_cons, List.take_zero]
      refine rg_q (fun ac ww h => c_move (h.ev rfl)) rfl ?_
      refine rg_q (fun ac ww h => c_idxA (j := k) un23 ty5 (h.ev rfl) (h.ev rfl) (by omega) (by omega)) rfl ?_
      refine rg_q (fun ac ww h => c_loadS un5 rfl (h.ev rfl) (h.blk (hs.seg (i := 1) rfl)) ((map_get (l := digits m) 0 (by rw [digits_length]; omega)).trans (by rw [dgt_getD m k hk68]))) rfl ?_
      refine rg_q (fun ac ww h => c_move (h.ev rfl)) rfl ?_
      refine rg_q (fun ac ww h => c_idxA (j := k) un23 ty5 (h.ev rfl) (h.ev rfl) (by omega) (by omega)) rfl ?_
      refine rg_q (fun ac ww h => c_loadS un5 rfl (h.ev rfl) (h.blk (hs.seg (i := 0) rfl)) ((map_get (l := digits signed) 0 (by rw [digits_length]; omega)).trans (by rw [dgt_getD signed k hk68]))) rfl ?_
      refine rg_nil fun ac ww L' hf hfe hs => ?_
      simp only [List.drop_succ_cons, List.drop_zero]
      obtain rfl : L' = [] := hfe
      replace hs := hs.toL (List.nil_append _)
      refine s_q hs (c_gtrB (hs.ev rfl) (hs.ev rfl)) rfl fun ac hs => ?_
      refine s_end ?_
      refine then_n ?_
      refine s_cond hs rfl (fun hc => ?_) (fun hc => ?_)
      · skip
        obtain ⟨s9, hs9d, hs9⟩ : ∃ s9, s9 = upd s k (linkN d i (k : Int) (dgN signed k) (chunk s k) (dgN m k - dgN signed k)) ∧ s9.length = 1088 := ⟨_, rfl, upd_length hs1 hk68 (linkN_length hcl _)⟩
        refine wp_region_rgX (jl := 17) pmix 19 (by kernel_rfl) (by decide) rfl rfl rfl rfl rfl rfl (by kernel_rfl) rfl rfl hs ?_
        simp only [List.take_succ_cons, List.take_zero]
        refine rg_q (fun ac ww h => c_move (h.ev rfl)) rfl ?_
        refine rg_q (fun ac ww h => c_loadW ty29 ag29 (h.ev rfl) (h.blk (hs.seg (i := 5) rfl)) (by rfl)) rfl ?_
        refine rg_q (fun ac ww h => c_move (h.ev rfl)) rfl ?_
        refine rg_q (fun ac ww h => c_move (h.ev rfl)) rfl ?_
        refine rg_q (fun ac ww h => c_idxA (j := k) un23 ty5 (h.ev rfl) (h.ev rfl) (by omega) (by omega)) rfl ?_
        refine rg_q (fun ac ww h => c_loadS un5 rfl (h.ev rfl) (h.blk (hs.seg (i := 0) rfl)) ((map_get (l := digits signed) 0 (by rw [digits_length]; omega)).trans (by rw [dgt_getD signed k hk68]))) rfl ?_
        refine rg_q (fun ac ww h => c_cvBI un5 un3 (h.ev rfl)) rfl ?_
        refine rg_q (fun ac ww h => c_move (h.ev rfl)) rfl ?_
        refine rg_q (fun ac ww h => c_idxA (j := k) un23 ty5 (h.ev rfl) (h.ev rfl) (by omega) (by omega)) rfl ?_
        refine rg_q (fun ac ww h => c_loadS un5 rfl (h.ev rfl) (h.blk (hs.seg (i := 1) rfl)) ((map_get (l := digits m) 0 (by rw [digits_length]; omega)).trans (by rw [dgt_getD m k hk68]))) rfl ?_
        refine rg_q (fun ac ww h => c_cvBI un5 un3 (h.ev rfl)) rfl ?_
        refine rg_q (fun ac ww h => c_move (h.ev rfl)) rfl ?_
        refine rg_q (fun ac ww h => c_idxA (j := k) un33 ty22 (h.ev rfl) (h.ev rfl) (by omega) (by omega)) rfl ?_
        refine rg_q (fun ac ww h => c_loadA ty22 rfl (h.ev rfl) (h.blk (hs.seg (i := 2) rfl)) (chunk_at s k) (by rw [List.length_map, hcl])) rfl ?_
        refine rg_callE (tupE (.agg ((linkN d i (k : Int) (dgN signed k) (chunk s k) (dgN m k - dgN signed k)).map B).toArray) (textsE 34 5 (linkTs d i (k : Int) (dgN signed k) (chunk s k) (dgN m k - dgN signed k)))) (fun _ _ _ _ _ h => h) fu63 (fun ac ww h => ?_) rfl ?_
        · exact ⟨_, .cons (h.ev rfl) (.cons (h.ev rfl) (.cons (h.ev rfl) (.cons (h.ev rfl) (.cons (h.ev rfl) .nil)))), ref10_Run d i (k : Int) (dgN signed k) (dgN m k) (chunk s k) hcl (dgN_le m k) _⟩
        refine rg_moveT rfl rfl rfl ?_
        refine rg_ext0 rfl rfl rfl ?_
        refine rg_ext1 rfl rfl rfl ?_
        refine rg_q (fun ac ww h => c_idxA (j := k) un33 ty22 (h.ev rfl) (h.ev rfl) (by omega) (by omega)) rfl ?_
        refine rg_nil fun ac ww L' hf hfe hs hlk => ?_
        simp only [List.drop_succ_cons, List.drop_zero]
        obtain ⟨v64, L64, M64, h64, e64, ⟨v47, L47, M47, h47, e47, ⟨v62, L62, M62, h62, e62, rfl, rfl⟩, rfl⟩, rfl⟩ := hfe
        replace hs := hs.add h64
        replace hs := hs.add h47
        replace hs := hs.add h62
        obtain ⟨tv62, rfl, e62⟩ := e62
        obtain ⟨-, rfl⟩ := e47
        obtain rfl := lk_move (j := 15) hlk (by decide) rfl (by kernel_rfl) h47 h62
        obtain ⟨-, rfl⟩ := e64
        obtain rfl := lk_ext (j := 17) hlk (by decide) rfl (by kernel_rfl) h64 h47 rfl
        obtain ⟨ps62, hps62, rfl⟩ := e62
        refine sk_store (i := 3) hs ty22 rfl rfl rfl rfl (show (List.map B (linkN d i (k : Int) (dgN signed k) (chunk s k) (dgN m k - dgN signed k))).length = 16 by rw [List.length_map, linkN_length hcl]) (all_map_B _) (by rw [List.length_map]; omega) (upd_set s _ k) fun ww hs => ?_
        refine s_end ?_
        replace hs := hs.pick (L' := [_, _, _, _, _, _, _]) (.cons _ (.refl _))
        rw [← hs9d] at hs
        replace hs := hs.sub (F' := [(4, _), (5, _), (6, _), (7, _), (8, _), (9, _), (12, _), (13, _), (14, _), (15, _), (16, _), (37, _), (38, _), (39, _), (40, _), (41, _), (42, _), (43, _), (44, _), (45, _), (46, _), (47, _), (48, _), (49, _), (50, _), (51, _), (52, _), (53, _), (54, _), (55, _), (56, _), (57, _), (58, _), (59, _), (60, _), (61, _), (62, _), (63, _), (65, _)]) ⟨rfl, rfl, rfl, rfl, rfl, rfl, rfl, rfl, rfl, rfl, rfl, rfl, rfl, rfl, rfl, rfl, rfl, rfl, rfl, rfl, rfl, rfl, rfl, rfl, rfl, rfl, rfl, rfl, rfl, rfl, rfl, rfl, rfl, rfl, rfl, rfl, rfl, rfl, rfl, trivial⟩
        refine blk_n ?_
        refine then_n ?_
        refine wp_reg ?_
        refine s_q hs (c_addI (hs.ev rfl) (hs.ev rfl) (by omega) (by omega)) rfl fun ac hs => ?_
        refine s_q hs (c_move (hs.ev rfl)) rfl fun ac hs => ?_
        refine s_end ?_
        refine then_n ?_
        exact ⟨68 - (k + 1), by (try simp only); omega, (k + 1, s9), ⟨by (try simp only); omega, rfl, hs9⟩, St.next hs ⟨rfl, rfl, rfl, rfl, rfl, rfl, rfl, rfl, rfl, rfl, rfl, trivial⟩ rfl⟩
      · skip
        obtain ⟨s9, hs9d, hs9⟩ : ∃ s9, s9 = s ∧ s9.length = 1088 := ⟨s, rfl, hs1⟩
        rw [← hs9d] at hs
        refine wp_skip ?_
        refine blk_n ?_
        refine then_n ?_
        refine wp_reg ?_
        refine s_q hs (c_addI (hs.ev rfl) (hs.ev rfl) (by omega) (by omega)) rfl fun ac hs => ?_
        refine s_q hs (c_move (hs.ev rfl)) rfl fun ac hs => ?_
        refine s_end ?_
        refine then_n ?_
        exact ⟨68 - (k + 1), by (try simp only); omega, (k + 1, s9), ⟨by (try simp only); omega, rfl, hs9⟩, St.next hs ⟨rfl, rfl, rfl, rfl, rfl, rfl, rfl, rfl, rfl, rfl, rfl, trivial⟩ rfl⟩
    · try simp only [decide_eq_true_eq, decide_eq_false_iff_not, Bool.not_eq_true', Bool.not_eq_false', Bool.and_eq_true, Bool.or_eq_true, Bool.or_eq_false_iff] at hc
      have hown : m = signed → s = signs d i (startK d i seed) m := fun e => absurd e hne
      replace hs := hs.pick (L' := [_, _, _, _, _]) (.cons _ (.cons _ (.refl _)))
      refine wp_exit ?_
      refine then_e ?_
      refine then_e ?_
      refine blk_hit ?_
      refine then_n ?_
      refine wp_seq ?_
      refine wp_reg ?_
      refine s_q hs (c_move (hs.ev rfl)) rfl fun ac hs => ?_
      refine s_q hs (c_cvIV un3 un75 (hs.ev rfl)) rfl fun ac hs => ?_
      refine s_q hs (c_remV (hs.ev rfl) (St.ev (v := V 68) hs rfl) (by decide)) rfl fun ac hs => ?_
      refine s_q hs (c_cvVI un75 un3 (hs.ev rfl) (by rw [UInt64.toNat_mod]; have := Nat.mod_lt (i64 n).toNat (show (0 : Nat) < (68 : UInt64).toNat by decide); have e : (68 : UInt64).toNat = 68 := rfl; omega)) rfl fun ac hs => ?_
      obtain ⟨ci, hci, hc68⟩ : ∃ ci : Nat, (i64 n % 68).toNat = ci ∧ ci < 68 := ⟨_, rfl, by rw [UInt64.toNat_mod]; exact Nat.mod_lt _ (by decide)⟩
      rw [hci] at hs
      have hoff : 16 * ci + ci % 16 < s.length := by omega
      refine s_q hs (c_assign (hs.ev rfl)) rfl fun ac hs => ?_
      refine s_end ?_
      replace hs := hs.sub (F' := [(5, _), (6, _), (7, _), (8, _), (9, _), (12, _), (13, _), (17, _)]) ⟨rfl, rfl, rfl, rfl, rfl, rfl, rfl, rfl, trivial⟩
      refine then_n ?_
      refine wp_seq ?_
      refine wp_region_rg pmix 9 (by kernel_rfl) rfl hs ?_
      simp only [List.take_succ_cons, List.take_zero]
      refine rg_q (fun ac ww h => c_move (h.ev rfl)) rfl ?_
      refine rg_q (fun ac ww h => c_move (h.ev rfl)) rfl ?_
      refine rg_q (fun ac ww h => c_remI (h.ev rfl) (h.ev rfl) (by omega) (by omega)) rfl ?_
      refine rg_q (fun ac ww h => c_idxA (j := ci) un33 ty22 (h.ev rfl) (h.ev rfl) (by omega) (by omega)) rfl ?_
      refine rg_q (fun ac ww h => c_idxA (j := ci % 16) un22 ty5 (h.ev rfl) (h.ev rfl) (by omega) (by omega)) rfl ?_
      refine rg_q (fun ac ww h => c_loadS un5 rfl (h.ev rfl) (h.blk (hs.seg (i := 0) rfl)) (at_off s hoff)) rfl ?_
      refine rg_q (fun ac ww h => c_move (h.ev rfl)) rfl ?_
      refine rg_q (fun ac ww h => c_xorB (h.ev rfl) (h.ev rfl)) rfl ?_
      refine rg_q (fun ac ww h => c_idxA (j := ci) un33 ty22 (h.ev rfl) (h.ev rfl) (by omega) (by omega)) rfl ?_
      refine rg_nil fun ac ww L' hf hfe hs => ?_
      simp only [List.drop_succ_cons, List.drop_zero]
      obtain rfl : L' = [] := hfe
      replace hs := hs.toL (List.nil_append _)
      refine s_q hs (c_idxA (j := ci % 16) un22 ty5 (hs.ev rfl) (hs.ev rfl) (by omega) (by omega)) rfl fun ac hs => ?_
      refine s_store (i := 0) hs ty5 rfl rfl rfl rfl rfl rfl (by rw [List.length_map]; omega) (set_off s _ hoff) fun ww hs => ?_
      obtain ⟨s2, hs2⟩ : ∃ s2, s2 = s.set (16 * ci + ci % 16) (s.getD (16 * ci + ci % 16) 0 ^^^ turn) := ⟨_, rfl⟩
      rw [← hs2] at hs
      have hs2l : s2.length = 1088 := by rw [hs2, List.length_set]; exact hs1
      have hown2 : m = signed → turn = 0 → s2 = signs d i (startK d i seed) m := fun e1 e2 => by rw [hs2, e2, xor_zero_set s _ hoff]; exact hown e1
      refine s_end ?_
      replace hs := hs.sub (F' := [(5, _), (6, _), (7, _), (8, _), (9, _), (12, _), (13, _)]) ⟨rfl, rfl, rfl, rfl, rfl, rfl, rfl, trivial⟩
      refine then_n ?_
      refine wp_seq ?_
      refine wp_reg ?_
      refine s_q hs (c_loadW ty40 rfl (hs.ev rfl) (hs.seg (i := 4) rfl) (by rw [List.length_map, hsd])) rfl fun ac hs => ?_
      refine s_q hs (c_loadW ty29 ag29 (hs.ev rfl) (hs.seg (i := 3) rfl) (by rfl)) rfl fun ac hs => ?_
      refine s_call hs fu64 (.cons (hs.ev rfl) (.cons (hs.ev rfl) .nil)) (ref10_Public seed d i hsd _) rfl fun ac ww v84 hf hp hs => ?_
      obtain ⟨L', ⟨tv1, rfl, ps1, hps1, rfl⟩, hh⟩ := hp
      replace hs := hs _ hh
      refine s_q hs (c_move (hs.ev rfl)) rfl fun ac hs => ?_
      refine s_q hs (c_extract (hs.ev rfl) rfl) rfl fun ac hs => ?_
      refine s_q hs (c_extract (hs.ev rfl) rfl) rfl fun ac hs => ?_
      refine s_alloc hs ty22 rfl fun ac ww g18 hs => ?_
      refine s_storeW (i := 0) hs ty22 rfl rfl rfl (by simp) (all_map_B _) rfl fun ww hs => ?_
      refine s_q hs (c_assign (hs.ev rfl)) rfl fun ac hs => ?_
      refine s_end ?_
      replace hs := hs.sub (F' := [(5, _), (6, _), (7, _), (8, _), (9, _), (12, _), (13, _), (18, _), (19, _)]) ⟨rfl, rfl, rfl, rfl, rfl, rfl, rfl, rfl, rfl, trivial⟩
      refine then_n ?_
      refine wp_seq ?_
      refine wp_seq ?_
      refine wp_region_rg pmix 7 (by kernel_rfl) rfl hs ?_
      simp only [List.take_succ_cons, List.take_zero]
      refine rg_q (fun ac ww h => c_loadW ty29 ag29 (h.ev rfl) (h.blk (hs.seg (i := 5) rfl)) (by rfl)) rfl ?_
      refine rg_call fu53 (fun ac ww h => (.cons (h.ev rfl) .nil)) (fun ww hf => law10_To d i ww) rfl ?_
      refine rg_q (fun ac ww h => c_loadW ty22 rfl (h.ev rfl) (h.blk (hs.seg (i := 3) rfl)) (by rw [List.length_map, hm])) rfl ?_
      refine rg_q (fun ac ww h => c_loadW ty33 rfl (h.ev rfl) (h.blk (hs.seg (i := 2) rfl)) (by rw [List.length_map, hs2l])) rfl ?_
      refine rg_call fu61 (fun ac ww h => (.cons (h.ev rfl) .nil)) (fun ww hf => law10_ToSig s2 hs2l ww) rfl ?_
      refine rg_call fu60 (fun ac ww h => (.cons (h.ev rfl) (.cons (h.ev rfl) (.cons (h.ev rfl) .nil)))) (fun ww hf => ots_Recover d i m s2 hm hs2l ww) rfl ?_
      refine rg_q (fun ac ww h => c_loadW ty22 rfl (h.ev rfl) (h.blk (hs.seg (i := 0) rfl)) (by simp)) rfl ?_
      refine rg_nil fun ac ww L' hf hfe hs => ?_
      simp only [List.drop_succ_cons, List.drop_zero]
      obtain rfl : L' = [] := hfe
      replace hs := hs.toL (List.nil_append _)
      refine s_q hs (c_neqAB un54 ty5 eg54 (hs.ev rfl) (hs.ev rfl) (press_length _ _ _) (press_length _ _ _)) rfl fun ac hs => ?_
      refine s_end ?_
      replace hs := hs.sub (F' := [(5, _), (6, _), (7, _), (8, _), (9, _), (12, _), (13, _), (19, _), (94, _)]) ⟨rfl, rfl, rfl, rfl, rfl, rfl, rfl, rfl, rfl, trivial⟩
      refine then_n ?_
      refine s_cond hs rfl (fun hc => ?_) (fun hc => ?_)
      · try simp only [decide_eq_true_eq, decide_eq_false_iff_not, Bool.not_eq_true', Bool.not_eq_false', Bool.and_eq_true, Bool.or_eq_true, Bool.or_eq_false_iff] at hc
        have hbad : ¬ (m = signed ∧ turn = 0) := fun e => hc (by rw [hown2 e.1 e.2, rise_own (startK_length d i seed)])
        refine wp_seq ?_
        refine wp_reg ?_
        refine s_call hs fu37 .nil (law10_awake _) rfl fun ac ww v95 hf hp hs => ?_
        obtain rfl := hp
        replace hs := hs [] (.nil _ _)
        refine s_q hs (c_move (hs.ev rfl)) rfl fun ac hs => ?_
        refine s_yes hs rfl rfl ?_
        refine s_q hs (c_loadW ty22 rfl (hs.ev rfl) (hs.seg (i := 3) rfl) (by rw [List.length_map, hm])) rfl fun ac hs => ?_
        refine s_yes hs rfl rfl ?_
        refine s_q hs (c_loadW ty22 rfl (hs.ev rfl) (hs.seg (i := 4) rfl) (by rw [List.length_map, hgl])) rfl fun ac hs => ?_
        refine s_yes hs rfl rfl ?_
        refine s_q hs (c_neqAB un22 ty5 eg22 (hs.ev rfl) (hs.ev rfl) hm hgl) rfl fun ac hs => ?_
        refine s_yes hs rfl rfl ?_
        refine s_q hs (c_move (hs.ev rfl)) rfl fun ac hs => ?_
        refine s_g hs rfl rfl (fun hg => c_move (hs.ev rfl)) rfl fun ac hs => ?_
        refine s_g hs rfl rfl (fun hg => c_neqB (gev (hs.ev rfl) hg) (St.ev (v := B 0) hs rfl)) rfl fun ac hs => ?_
        refine s_yes hs rfl rfl ?_
        refine s_q hs (c_or (hs.ev rfl) (hs.ev rfl)) rfl fun ac hs => ?_
        refine s_q hs (c_to (c_pick (hs.ev rfl) (hs.ev rfl) (hs.ev rfl)) ((show Value.bool _ = Value.bool true from congrArg Value.bool (notboth hbad)))) rfl fun ac hs => ?_
        refine s_q hs (c_assign (hs.ev rfl)) rfl fun ac hs => ?_
        refine s_end ?_
        replace hs := hs.sub (F' := [(6, _), (7, _), (8, _), (9, _), (12, _), (13, _), (19, _)]) ⟨rfl, rfl, rfl, rfl, rfl, rfl, rfl, trivial⟩
        refine then_n ?_
        refine wp_ret ?_
        refine then_r ?_
        refine s_ret hs rfl (.tmp (hs.tmp rfl) .nil) rfl ⟨_, rfl, hs.fr, ?_⟩
        rfl
      · try simp only [decide_eq_true_eq, decide_eq_false_iff_not, Bool.not_eq_true', Bool.not_eq_false', Bool.and_eq_true, Bool.or_eq_true, Bool.or_eq_false_iff] at hc
        have hgood : press d i (rises d i (dgN m) s2 68) = press d i (tops d i (startK d i seed)) := hc
        refine wp_skip ?_
        refine then_n ?_
        refine wp_seq ?_
        refine wp_reg ?_
        refine s_q hs (c_loadW ty29 ag29 (hs.ev rfl) (hs.seg (i := 5) rfl) (by rfl)) rfl fun ac hs => ?_
        refine s_q hs (c_loadW ty22 rfl (hs.ev rfl) (hs.seg (i := 3) rfl) (by rw [List.length_map, hm])) rfl fun ac hs => ?_
        refine s_q hs (c_loadW ty33 rfl (hs.ev rfl) (hs.seg (i := 2) rfl) (by rw [List.length_map, hs2l])) rfl fun ac hs => ?_
        refine s_call hs fu38 (.cons (hs.ev rfl) (.cons (hs.ev rfl) (.cons (hs.ev rfl) .nil))) (ref10_Recover d i m s2 hm hs2l _) rfl fun ac ww v109 hf hp hs => ?_
        obtain ⟨L', ⟨tv2, rfl, ps2, hps2, rfl⟩, hh⟩ := hp
        replace hs := hs _ hh
        refine s_q hs (c_move (hs.ev rfl)) rfl fun ac hs => ?_
        refine s_q hs (c_extract (hs.ev rfl) rfl) rfl fun ac hs => ?_
        refine s_q hs (c_extract (hs.ev rfl) rfl) rfl fun ac hs => ?_
        refine s_alloc hs ty22 rfl fun ac ww g20 hs => ?_
        refine s_storeW (i := 0) hs ty22 rfl rfl rfl (by simp) (all_map_B _) rfl fun ww hs => ?_
        have hg1 : Good ps1 := good_of hps1 (by rw [List.length_append, pubTs_length]; simp) (pub_good (startK_length d i seed))
        have hg2 : Good ps2 := good_of hps2 (by have := recTs_length d i (dgN m) s2 68; rw [List.length_append]; simp; omega) (rec_good hs2l)
        have hsound := sound (startK_length d i seed) hm hgl hs2l hgood
        refine s_q hs (c_assign (hs.ev rfl)) rfl fun ac hs => ?_
        refine s_end ?_
        replace hs := hs.sub (F' := [(6, _), (7, _), (8, _), (9, _), (12, _), (13, _), (19, _), (21, _)]) ⟨rfl, rfl, rfl, rfl, rfl, rfl, rfl, rfl, trivial⟩
        refine then_n ?_
        refine wp_seq ?_
        refine wp_region_rg pmix 28 (by kernel_rfl) rfl hs ?_
        simp only [List.take_succ_cons, List.take_zero]
        refine rg_call fu37 (fun ac ww h => .nil) (fun ww hf => law10_awake _) rfl ?_
        refine rg_q (fun ac ww h => c_move (h.ev rfl)) rfl ?_
        refine rg_yes rfl rfl (fun ac ww h => c_loadW ty22 rfl (h.ev rfl) (h.blk (hs.seg (i := 5) rfl)) (by rw [List.length_map, hm])) rfl ?_
        refine rg_yes rfl rfl (fun ac ww h => c_loadW ty22 rfl (h.ev rfl) (h.blk (hs.seg (i := 6) rfl)) (by rw [List.length_map, hgl])) rfl ?_
        refine rg_yes rfl rfl (fun ac ww h => c_eqlAB un22 ty5 eg22 (h.ev rfl) (h.ev rfl) hm hgl) rfl ?_
        refine rg_yes rfl rfl (fun ac ww h => c_move (h.ev rfl)) rfl ?_
        refine rg_g rfl rfl (fun hg ac ww h => c_loadW ty33 rfl (h.ev rfl) (h.blk (hs.seg (i := 4) rfl)) (by rw [List.length_map, hs2l])) rfl ?_
        refine rg_g rfl rfl (fun hg ac ww h => c_loadW ty40 rfl (h.ev rfl) (h.blk (hs.seg (i := 8) rfl)) (by rw [List.length_map, hsd])) rfl ?_
        refine rg_g rfl rfl (fun hg ac ww h => c_loadW ty29 ag29 (h.ev rfl) (h.blk (hs.seg (i := 7) rfl)) (by rfl)) rfl ?_
        refine rg_g rfl rfl (fun hg ac ww h => c_loadW ty22 rfl (h.ev rfl) (h.blk (hs.seg (i := 5) rfl)) (by rw [List.length_map, hm])) rfl ?_
        refine rg_gcall rfl rfl fu62 (fun hg ac ww h => (.cons (gev (h.ev rfl) hg) (.cons (gev (h.ev rfl) hg) (.cons (gev (h.ev rfl) hg) .nil)))) (fun hg ww hf => ref10_Sign seed d i m hsd hm ww) rfl ?_
        refine rg_g rfl rfl (fun hg ac ww h => c_eqlABB un33 ty22 ty5 (by decide) eg33 (gev (h.ev rfl) hg) (gev (h.ev rfl) hg) hs2l (signs_length (startK_length d i seed) m)) rfl ?_
        refine rg_yes rfl rfl (fun ac ww h => c_and (h.ev rfl) (h.ev rfl)) rfl ?_
        refine rg_yes rfl rfl (fun ac ww h => c_move (h.ev rfl)) rfl ?_
        refine rg_g rfl rfl (fun hg ac ww h => c_loadW ty40 rfl (h.ev rfl) (h.blk (hs.seg (i := 8) rfl)) (by rw [List.length_map, hsd])) rfl ?_
        refine rg_g rfl rfl (fun hg ac ww h => c_loadW ty29 ag29 (h.ev rfl) (h.blk (hs.seg (i := 7) rfl)) (by rfl)) rfl ?_
        refine rg_g rfl rfl (fun hg ac ww h => c_loadW ty22 rfl (h.ev rfl) (h.blk (hs.seg (i := 5) rfl)) (by rw [List.length_map, hm])) rfl ?_
        refine rg_g rfl rfl (fun hg ac ww h => c_loadW ty22 rfl (h.ev rfl) (h.blk (hs.seg (i := 6) rfl)) (by rw [List.length_map, hgl])) rfl ?_
        refine rg_g rfl rfl (fun hg ac ww h => c_loadW ty33 rfl (h.ev rfl) (h.blk (hs.seg (i := 4) rfl)) (by rw [List.length_map, hs2l])) rfl ?_
        refine rg_gcall rfl rfl fu65 (fun hg ac ww h => (.cons (gev (h.ev rfl) hg) (.cons (gev (h.ev rfl) hg) (.cons (gev (h.ev rfl) hg) (.cons (gev (h.ev rfl) hg) (.cons (gev (h.ev rfl) hg) .nil)))))) (fun hg ww hf => ref10_Below seed d i m signed s2 hsd hm hgl hs2l ww) rfl ?_
        refine rg_yes rfl rfl (fun ac ww h => c_or (h.ev rfl) (h.ev rfl)) rfl ?_
        refine rg_yes rfl rfl (fun ac ww h => c_move (h.ev rfl)) rfl ?_
        refine rg_g rfl rfl (fun hg ac ww h => c_move (h.ev rfl)) rfl ?_
        refine rg_g rfl rfl (fun hg ac ww h => c_move (h.ev rfl)) rfl ?_
        refine rg_gcall rfl rfl fu66 (fun hg ac ww h => (.cons (gev (h.ev rfl) hg) (.cons (gev (h.ev rfl) hg) .nil))) (fun hg ww hf => ref06_Clash ps1 ps2 _ _ hg1 hg2 ww ((RdP.texts (hs.get (i := 3) rfl)).fr0 hf) ((RdP.texts (hs.get (i := 1) rfl)).fr0 hf)) rfl ?_
        refine rg_yes rfl rfl (fun ac ww h => c_or (h.ev rfl) (h.ev rfl)) rfl ?_
        refine rg_q (fun ac ww h => c_to (c_pick (h.ev rfl) (h.ev rfl) (h.ev rfl)) ((show Value.bool _ = Value.bool true from congrArg Value.bool (by rw [hps1, hps2]; simpa using hsound)))) rfl ?_
        refine rg_q (fun ac ww h => c_assign (h.ev rfl)) rfl ?_
        refine rg_nil fun ac ww L' hf hfe hs => ?_
        simp only [List.drop_succ_cons, List.drop_zero]
        obtain rfl : L' = [] := hfe
        replace hs := hs.toL (List.nil_append _)
        refine s_end ?_
        replace hs := hs.sub (F' := [(12, _)]) ⟨rfl, trivial⟩
        refine then_n ?_
        refine wp_ret ?_
        refine s_ret hs rfl (.tmp (hs.tmp rfl) .nil) rfl ⟨_, rfl, hs.fr, ?_⟩
        rfl
  · try simp only [decide_eq_true_eq, decide_eq_false_iff_not, Bool.not_eq_true', Bool.not_eq_false', Bool.and_eq_true, Bool.or_eq_true, Bool.or_eq_false_iff] at hc
    have heq : m = signed := hc
    obtain ⟨s, hsdef⟩ : ∃ s, s = signs d i (startK d i seed) m := ⟨_, rfl⟩
    rw [← hsdef] at hs
    have hs1 : s.length = 1088 := by rw [hsdef]; exact signs_length (startK_length d i seed) m
    have hown : m = signed → s = signs d i (startK d i seed) m := fun _ => hsdef
    refine wp_skip ?_
    refine then_n ?_
    refine wp_seq ?_
    refine wp_reg ?_
    refine s_q hs (c_move (hs.ev rfl)) rfl fun ac hs => ?_
    refine s_q hs (c_cvIV un3 un75 (hs.ev rfl)) rfl fun ac hs => ?_
    refine s_q hs (c_remV (hs.ev rfl) (St.ev (v := V 68) hs rfl) (by decide)) rfl fun ac hs => ?_
    refine s_q hs (c_cvVI un75 un3 (hs.ev rfl) (by rw [UInt64.toNat_mod]; have := Nat.mod_lt (i64 n).toNat (show (0 : Nat) < (68 : UInt64).toNat by decide); have e : (68 : UInt64).toNat = 68 := rfl; omega)) rfl fun ac hs => ?_
    obtain ⟨ci, hci, hc68⟩ : ∃ ci : Nat, (i64 n % 68).toNat = ci ∧ ci < 68 := ⟨_, rfl, by rw [UInt64.toNat_mod]; exact Nat.mod_lt _ (by decide)⟩
    rw [hci] at hs
    have hoff : 16 * ci + ci % 16 < s.length := by omega
    refine s_q hs (c_assign (hs.ev rfl)) rfl fun ac hs => ?_
    refine s_end ?_
    replace hs := hs.sub (F' := [(5, _), (6, _), (7, _), (8, _), (9, _), (12, _), (13, _), (17, _)]) ⟨rfl, rfl, rfl, rfl, rfl, rfl, rfl, rfl, trivial⟩
    refine then_n ?_
    refine wp_seq ?_
    refine wp_region_rg pmix 9 (by kernel_rfl) rfl hs ?_
    simp only [List.take_succ_cons, List.take_zero]
    refine rg_q (fun ac ww h => c_move (h.ev rfl)) rfl ?_
    refine rg_q (fun ac ww h => c_move (h.ev rfl)) rfl ?_
    refine rg_q (fun ac ww h => c_remI (h.ev rfl) (h.ev rfl) (by omega) (by omega)) rfl ?_
    refine rg_q (fun ac ww h => c_idxA (j := ci) un33 ty22 (h.ev rfl) (h.ev rfl) (by omega) (by omega)) rfl ?_
    refine rg_q (fun ac ww h => c_idxA (j := ci % 16) un22 ty5 (h.ev rfl) (h.ev rfl) (by omega) (by omega)) rfl ?_
    refine rg_q (fun ac ww h => c_loadS un5 rfl (h.ev rfl) (h.blk (hs.seg (i := 0) rfl)) (at_off s hoff)) rfl ?_
    refine rg_q (fun ac ww h => c_move (h.ev rfl)) rfl ?_
    refine rg_q (fun ac ww h => c_xorB (h.ev rfl) (h.ev rfl)) rfl ?_
    refine rg_q (fun ac ww h => c_idxA (j := ci) un33 ty22 (h.ev rfl) (h.ev rfl) (by omega) (by omega)) rfl ?_
    refine rg_nil fun ac ww L' hf hfe hs => ?_
    simp only [List.drop_succ_cons, List.drop_zero]
    obtain rfl : L' = [] := hfe
    replace hs := hs.toL (List.nil_append _)
    refine s_q hs (c_idxA (j := ci % 16) un22 ty5 (hs.ev rfl) (hs.ev rfl) (by omega) (by omega)) rfl fun ac hs => ?_
    refine s_store (i := 0) hs ty5 rfl rfl rfl rfl rfl rfl (by rw [List.length_map]; omega) (set_off s _ hoff) fun ww hs => ?_
    obtain ⟨s2, hs2⟩ : ∃ s2, s2 = s.set (16 * ci + ci % 16) (s.getD (16 * ci + ci % 16) 0 ^^^ turn) := ⟨_, rfl⟩
    rw [← hs2] at hs
    have hs2l : s2.length = 1088 := by rw [hs2, List.length_set]; exact hs1
    have hown2 : m = signed → turn = 0 → s2 = signs d i (startK d i seed) m := fun e1 e2 => by rw [hs2, e2, xor_zero_set s _ hoff]; exact hown e1
    refine s_end ?_
    replace hs := hs.sub (F' := [(5, _), (6, _), (7, _), (8, _), (9, _), (12, _), (13, _)]) ⟨rfl, rfl, rfl, rfl, rfl, rfl, rfl, trivial⟩
    refine then_n ?_
    refine wp_seq ?_
    refine wp_reg ?_
    refine s_q hs (c_loadW ty40 rfl (hs.ev rfl) (hs.seg (i := 4) rfl) (by rw [List.length_map, hsd])) rfl fun ac hs => ?_
    refine s_q hs (c_loadW ty29 ag29 (hs.ev rfl) (hs.seg (i := 3) rfl) (by rfl)) rfl fun ac hs => ?_
    refine s_call hs fu64 (.cons (hs.ev rfl) (.cons (hs.ev rfl) .nil)) (ref10_Public seed d i hsd _) rfl fun ac ww v84 hf hp hs => ?_
    obtain ⟨L', ⟨tv1, rfl, ps1, hps1, rfl⟩, hh⟩ := hp
    replace hs := hs _ hh
    refine s_q hs (c_move (hs.ev rfl)) rfl fun ac hs => ?_
    refine s_q hs (c_extract (hs.ev rfl) rfl) rfl fun ac hs => ?_
    refine s_q hs (c_extract (hs.ev rfl) rfl) rfl fun ac hs => ?_
    refine s_alloc hs ty22 rfl fun ac ww g18 hs => ?_
    refine s_storeW (i := 0) hs ty22 rfl rfl rfl (by simp) (all_map_B _) rfl fun ww hs => ?_
    refine s_q hs (c_assign (hs.ev rfl)) rfl fun ac hs => ?_
    refine s_end ?_
    replace hs := hs.sub (F' := [(5, _), (6, _), (7, _), (8, _), (9, _), (12, _), (13, _), (18, _), (19, _)]) ⟨rfl, rfl, rfl, rfl, rfl, rfl, rfl, rfl, rfl, trivial⟩
    refine then_n ?_
    refine wp_seq ?_
    refine wp_seq ?_
    refine wp_region_rg pmix 7 (by kernel_rfl) rfl hs ?_
    simp only [List.take_succ_cons, List.take_zero]
    refine rg_q (fun ac ww h => c_loadW ty29 ag29 (h.ev rfl) (h.blk (hs.seg (i := 5) rfl)) (by rfl)) rfl ?_
    refine rg_call fu53 (fun ac ww h => (.cons (h.ev rfl) .nil)) (fun ww hf => law10_To d i ww) rfl ?_
    refine rg_q (fun ac ww h => c_loadW ty22 rfl (h.ev rfl) (h.blk (hs.seg (i := 3) rfl)) (by rw [List.length_map, hm])) rfl ?_
    refine rg_q (fun ac ww h => c_loadW ty33 rfl (h.ev rfl) (h.blk (hs.seg (i := 2) rfl)) (by rw [List.length_map, hs2l])) rfl ?_
    refine rg_call fu61 (fun ac ww h => (.cons (h.ev rfl) .nil)) (fun ww hf => law10_ToSig s2 hs2l ww) rfl ?_
    refine rg_call fu60 (fun ac ww h => (.cons (h.ev rfl) (.cons (h.ev rfl) (.cons (h.ev rfl) .nil)))) (fun ww hf => ots_Recover d i m s2 hm hs2l ww) rfl ?_
    refine rg_q (fun ac ww h => c_loadW ty22 rfl (h.ev rfl) (h.blk (hs.seg (i := 0) rfl)) (by simp)) rfl ?_
    refine rg_nil fun ac ww L' hf hfe hs => ?_
    simp only [List.drop_succ_cons, List.drop_zero]
    obtain rfl : L' = [] := hfe
    replace hs := hs.toL (List.nil_append _)
    refine s_q hs (c_neqAB un54 ty5 eg54 (hs.ev rfl) (hs.ev rfl) (press_length _ _ _) (press_length _ _ _)) rfl fun ac hs => ?_
    refine s_end ?_
    replace hs := hs.sub (F' := [(5, _), (6, _), (7, _), (8, _), (9, _), (12, _), (13, _), (19, _), (94, _)]) ⟨rfl, rfl, rfl, rfl, rfl, rfl, rfl, rfl, rfl, trivial⟩
    refine then_n ?_
    refine s_cond hs rfl (fun hc => ?_) (fun hc => ?_)
    · try simp only [decide_eq_true_eq, decide_eq_false_iff_not, Bool.not_eq_true', Bool.not_eq_false', Bool.and_eq_true, Bool.or_eq_true, Bool.or_eq_false_iff] at hc
      have hbad : ¬ (m = signed ∧ turn = 0) := fun e => hc (by rw [hown2 e.1 e.2, rise_own (startK_length d i seed)])
      refine wp_seq ?_
      refine wp_reg ?_
      refine s_call hs fu37 .nil (law10_awake _) rfl fun ac ww v95 hf hp hs => ?_
      obtain rfl := hp
      replace hs := hs [] (.nil _ _)
      refine s_q hs (c_move (hs.ev rfl)) rfl fun ac hs => ?_
      refine s_yes hs rfl rfl ?_
      refine s_q hs (c_loadW ty22 rfl (hs.ev rfl) (hs.seg (i := 3) rfl) (by rw [List.length_map, hm])) rfl fun ac hs => ?_
      refine s_yes hs rfl rfl ?_
      refine s_q hs (c_loadW ty22 rfl (hs.ev rfl) (hs.seg (i := 4) rfl) (by rw [List.length_map, hgl])) rfl fun ac hs => ?_
      refine s_yes hs rfl rfl ?_
      refine s_q hs (c_neqAB un22 ty5 eg22 (hs.ev rfl) (hs.ev rfl) hm hgl) rfl fun ac hs => ?_
      refine s_yes hs rfl rfl ?_
      refine s_q hs (c_move (hs.ev rfl)) rfl fun ac hs => ?_
      refine s_g hs rfl rfl (fun hg => c_move (hs.ev rfl)) rfl fun ac hs => ?_
      refine s_g hs rfl rfl (fun hg => c_neqB (gev (hs.ev rfl) hg) (St.ev (v := B 0) hs rfl)) rfl fun ac hs => ?_
      refine s_yes hs rfl rfl ?_
      refine s_q hs (c_or (hs.ev rfl) (hs.ev rfl)) rfl fun ac hs => ?_
      refine s_q hs (c_to (c_pick (hs.ev rfl) (hs.ev rfl) (hs.ev rfl)) ((show Value.bool _ = Value.bool true from congrArg Value.bool (notboth hbad)))) rfl fun ac hs => ?_
      refine s_q hs (c_assign (hs.ev rfl)) rfl fun ac hs => ?_
      refine s_end ?_
      replace hs := hs.sub (F' := [(6, _), (7, _), (8, _), (9, _), (12, _), (13, _), (19, _)]) ⟨rfl, rfl, rfl, rfl, rfl, rfl, rfl, trivial⟩
      refine then_n ?_
      refine wp_ret ?_
      refine then_r ?_
      refine s_ret hs rfl (.tmp (hs.tmp rfl) .nil) rfl ⟨_, rfl, hs.fr, ?_⟩
      rfl
    · try simp only [decide_eq_true_eq, decide_eq_false_iff_not, Bool.not_eq_true', Bool.not_eq_false', Bool.and_eq_true, Bool.or_eq_true, Bool.or_eq_false_iff] at hc
      have hgood : press d i (rises d i (dgN m) s2 68) = press d i (tops d i (startK d i seed)) := hc
      refine wp_skip ?_
      refine then_n ?_
      refine wp_seq ?_
      refine wp_reg ?_
      refine s_q hs (c_loadW ty29 ag29 (hs.ev rfl) (hs.seg (i := 5) rfl) (by rfl)) rfl fun ac hs => ?_
      refine s_q hs (c_loadW ty22 rfl (hs.ev rfl) (hs.seg (i := 3) rfl) (by rw [List.length_map, hm])) rfl fun ac hs => ?_
      refine s_q hs (c_loadW ty33 rfl (hs.ev rfl) (hs.seg (i := 2) rfl) (by rw [List.length_map, hs2l])) rfl fun ac hs => ?_
      refine s_call hs fu38 (.cons (hs.ev rfl) (.cons (hs.ev rfl) (.cons (hs.ev rfl) .nil))) (ref10_Recover d i m s2 hm hs2l _) rfl fun ac ww v109 hf hp hs => ?_
      obtain ⟨L', ⟨tv2, rfl, ps2, hps2, rfl⟩, hh⟩ := hp
      replace hs := hs _ hh
      refine s_q hs (c_move (hs.ev rfl)) rfl fun ac hs => ?_
      refine s_q hs (c_extract (hs.ev rfl) rfl) rfl fun ac hs => ?_
      refine s_q hs (c_extract (hs.ev rfl) rfl) rfl fun ac hs => ?_
      refine s_alloc hs ty22 rfl fun ac ww g20 hs => ?_
      refine s_storeW (i := 0) hs ty22 rfl rfl rfl (by simp) (all_map_B _) rfl fun ww hs => ?_
      have hg1 : Good ps1 := good_of hps1 (by rw [List.length_append, pubTs_length]; simp) (pub_good (startK_length d i seed))
      have hg2 : Good ps2 := good_of hps2 (by have := recTs_length d i (dgN m) s2 68; rw [List.length_append]; simp; omega) (rec_good hs2l)
      have hsound := sound (startK_length d i seed) hm hgl hs2l hgood
      refine s_q hs (c_assign (hs.ev rfl)) rfl fun ac hs => ?_
      refine s_end ?_
      replace hs := hs.sub (F' := [(6, _), (7, _), (8, _), (9, _), (12, _), (13, _), (19, _), (21, _)]) ⟨rfl, rfl, rfl, rfl, rfl, rfl, rfl, rfl, trivial⟩
      refine then_n ?_
      refine wp_seq ?_
      refine wp_region_rg pmix 28 (by kernel_rfl) rfl hs ?_
      simp only [List.take_succ_cons, List.take_zero]
      refine rg_call fu37 (fun ac ww h => .nil) (fun ww hf => law10_awake _) rfl ?_
      refine rg_q (fun ac ww h => c_move (h.ev rfl)) rfl ?_
      refine rg_yes rfl rfl (fun ac ww h => c_loadW ty22 rfl (h.ev rfl) (h.blk (hs.seg (i := 5) rfl)) (by rw [List.length_map, hm])) rfl ?_
      refine rg_yes rfl rfl (fun ac ww h => c_loadW ty22 rfl (h.ev rfl) (h.blk (hs.seg (i := 6) rfl)) (by rw [List.length_map, hgl])) rfl ?_
      refine rg_yes rfl rfl (fun ac ww h => c_eqlAB un22 ty5 eg22 (h.ev rfl) (h.ev rfl) hm hgl) rfl ?_
      refine rg_yes rfl rfl (fun ac ww h => c_move (h.ev rfl)) rfl ?_
      refine rg_g rfl rfl (fun hg ac ww h => c_loadW ty33 rfl (h.ev rfl) (h.blk (hs.seg (i := 4) rfl)) (by rw [List.length_map, hs2l])) rfl ?_
      refine rg_g rfl rfl (fun hg ac ww h => c_loadW ty40 rfl (h.ev rfl) (h.blk (hs.seg (i := 8) rfl)) (by rw [List.length_map, hsd])) rfl ?_
      refine rg_g rfl rfl (fun hg ac ww h => c_loadW ty29 ag29 (h.ev rfl) (h.blk (hs.seg (i := 7) rfl)) (by rfl)) rfl ?_
      refine rg_g rfl rfl (fun hg ac ww h => c_loadW ty22 rfl (h.ev rfl) (h.blk (hs.seg (i := 5) rfl)) (by rw [List.length_map, hm])) rfl ?_
      refine rg_gcall rfl rfl fu62 (fun hg ac ww h => (.cons (gev (h.ev rfl) hg) (.cons (gev (h.ev rfl) hg) (.cons (gev (h.ev rfl) hg) .nil)))) (fun hg ww hf => ref10_Sign seed d i m hsd hm ww) rfl ?_
      refine rg_g rfl rfl (fun hg ac ww h => c_eqlABB un33 ty22 ty5 (by decide) eg33 (gev (h.ev rfl) hg) (gev (h.ev rfl) hg) hs2l (signs_length (startK_length d i seed) m)) rfl ?_
      refine rg_yes rfl rfl (fun ac ww h => c_and (h.ev rfl) (h.ev rfl)) rfl ?_
      refine rg_yes rfl rfl (fun ac ww h => c_move (h.ev rfl)) rfl ?_
      refine rg_g rfl rfl (fun hg ac ww h => c_loadW ty40 rfl (h.ev rfl) (h.blk (hs.seg (i := 8) rfl)) (by rw [List.length_map, hsd])) rfl ?_
      refine rg_g rfl rfl (fun hg ac ww h => c_loadW ty29 ag29 (h.ev rfl) (h.blk (hs.seg (i := 7) rfl)) (by rfl)) rfl ?_
      refine rg_g rfl rfl (fun hg ac ww h => c_loadW ty22 rfl (h.ev rfl) (h.blk (hs.seg (i := 5) rfl)) (by rw [List.length_map, hm])) rfl ?_
      refine rg_g rfl rfl (fun hg ac ww h => c_loadW ty22 rfl (h.ev rfl) (h.blk (hs.seg (i := 6) rfl)) (by rw [List.length_map, hgl])) rfl ?_
      refine rg_g rfl rfl (fun hg ac ww h => c_loadW ty33 rfl (h.ev rfl) (h.blk (hs.seg (i := 4) rfl)) (by rw [List.length_map, hs2l])) rfl ?_
      refine rg_gcall rfl rfl fu65 (fun hg ac ww h => (.cons (gev (h.ev rfl) hg) (.cons (gev (h.ev rfl) hg) (.cons (gev (h.ev rfl) hg) (.cons (gev (h.ev rfl) hg) (.cons (gev (h.ev rfl) hg) .nil)))))) (fun hg ww hf => ref10_Below seed d i m signed s2 hsd hm hgl hs2l ww) rfl ?_
      refine rg_yes rfl rfl (fun ac ww h => c_or (h.ev rfl) (h.ev rfl)) rfl ?_
      refine rg_yes rfl rfl (fun ac ww h => c_move (h.ev rfl)) rfl ?_
      refine rg_g rfl rfl (fun hg ac ww h => c_move (h.ev rfl)) rfl ?_
      refine rg_g rfl rfl (fun hg ac ww h => c_move (h.ev rfl)) rfl ?_
      refine rg_gcall rfl rfl fu66 (fun hg ac ww h => (.cons (gev (h.ev rfl) hg) (.cons (gev (h.ev rfl) hg) .nil))) (fun hg ww hf => ref06_Clash ps1 ps2 _ _ hg1 hg2 ww ((RdP.texts (hs.get (i := 3) rfl)).fr0 hf) ((RdP.texts (hs.get (i := 1) rfl)).fr0 hf)) rfl ?_
      refine rg_yes rfl rfl (fun ac ww h => c_or (h.ev rfl) (h.ev rfl)) rfl ?_
      refine rg_q (fun ac ww h => c_to (c_pick (h.ev rfl) (h.ev rfl) (h.ev rfl)) ((show Value.bool _ = Value.bool true from congrArg Value.bool (by rw [hps1, hps2]; simpa using hsound)))) rfl ?_
      refine rg_q (fun ac ww h => c_assign (h.ev rfl)) rfl ?_
      refine rg_nil fun ac ww L' hf hfe hs => ?_
      simp only [List.drop_succ_cons, List.drop_zero]
      obtain rfl : L' = [] := hfe
      replace hs := hs.toL (List.nil_append _)
      refine s_end ?_
      replace hs := hs.sub (F' := [(12, _)]) ⟨rfl, trivial⟩
      refine then_n ?_
      refine wp_ret ?_
      refine s_ret hs rfl (.tmp (hs.tmp rfl) .nil) rfl ⟨_, rfl, hs.fr, ?_⟩
      rfl

end Go.Proofs.Ytmgnnclkjkbmdaa
end
