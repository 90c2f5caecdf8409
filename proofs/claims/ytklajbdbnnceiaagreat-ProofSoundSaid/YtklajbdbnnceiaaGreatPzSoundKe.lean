/- Own texts of this seat, laid together for one claim (with what its proof uses alone). -/
import Derived.Test.YtklajbdbnnceiaaGreatPzSoundKd
section
/- Springs: rules, new ones. -/
set_option linter.unusedSimpArgs false
set_option linter.unusedVariables false
set_option maxRecDepth 100000
namespace Go.Proofs.YtklajbdbnnceiaaGreat
open Go Go.Fw
open Sha
def spRight (W S H : Int) : Bool := decide (0 ≤ levels W) && decide (1 ≤ S) && decide (S ≤ 16) && decide (0 ≤ H) && decide (H ≤ 6)
def spFits (W S H d : Int) (ep : UInt32) : Bool := spRight W S H && decide (0 ≤ d) && decide (d < W) && decide (ep.toNat ≤ (65536 : UInt32).toNat)
def spLight (W S H : Int) : Bool := spRight W S H && decide (H ≤ 3) && decide (S ≤ 8)
theorem spRight_iff {W S H : Int} : spRight W S H = true ↔ 0 ≤ levels W ∧ 1 ≤ S ∧ S ≤ 16 ∧ 0 ≤ H ∧ H ≤ 6 := by
  unfold spRight
  simp only [Bool.and_eq_true, decide_eq_true_eq]
  constructor
  · rintro ⟨⟨⟨⟨h1, h2⟩, h3⟩, h4⟩, h5⟩; exact ⟨h1, h2, h3, h4, h5⟩
  · rintro ⟨h1, h2, h3, h4, h5⟩; exact ⟨⟨⟨⟨h1, h2⟩, h3⟩, h4⟩, h5⟩
theorem spFits_iff {W S H d : Int} {ep : UInt32} : spFits W S H d ep = true ↔ spRight W S H = true ∧ 0 ≤ d ∧ d < W ∧ ep.toNat ≤ (65536 : UInt32).toNat := by
  unfold spFits
  simp only [Bool.and_eq_true, decide_eq_true_eq]
  constructor
  · rintro ⟨⟨⟨h1, h2⟩, h3⟩, h4⟩; exact ⟨h1, h2, h3, h4⟩
  · rintro ⟨h1, h2, h3, h4⟩; exact ⟨⟨⟨h1, h2⟩, h3⟩, h4⟩
/-- It is the spring of these. -/
structure SpIs (p : Spr) (W S H : Int) (seed : List UInt8) (d : Int) (ep : UInt32) : Prop where
  ok : p.Ok
  W : p.W = W
  S : (p.S : Int) = S
  H : (p.H : Int) = H
  seed : p.seed = seed
  d : p.d = d
  ep : p.ep = ep
theorem rep_cols (m : Nat) : (List.replicate m ([U 0] ++ [Value.int .i32 0] ++ [U 0] ++ [Value.slice none 0 0])).flatten = colsF (fun _ => colC none) m := by
  induction m with
  | zero => rfl
  | succ m ih => rw [List.replicate_succ', List.flatten_append, ih, colsF_succ]; rfl
theorem spr_build {cg : Nat} {W S H d : Int} {Sn Hn : Nat} {seed : List UInt8} {ep : UInt32} (hS : S = Sn) (hH : H = Hn) (hsd : seed.length = 32) :
    flatCells [.agg #[I W, I S, I H], .agg (seed.map B).toArray, I d, U ep, .slice (some ⟨cg, 0, none⟩) (2 ^ Hn) (2 ^ Hn)] ++ (List.replicate 3 (I 0) ++ (List.replicate 32 (0 : UInt8)).map B ++ [I 0] ++ [U 0] ++ [Value.slice none 0 0] ++ [U 0] ++ [Value.int .i32 0] ++ [U 0] ++ [Value.pointer none] ++ [I 0]).drop (flatCells [.agg #[I W, I S, I H], .agg (seed.map B).toArray, I d, U ep, .slice (some ⟨cg, 0, none⟩) (2 ^ Hn) (2 ^ Hn)]).length = sprC ⟨0, cg, W, Sn, Hn, seed, d, ep⟩ 0 0 (.pointer none) 0 := by
  have hl : (flatCells [.agg #[I W, I S, I H], .agg (seed.map B).toArray, I d, U ep, .slice (some ⟨cg, 0, none⟩) (2 ^ Hn) (2 ^ Hn)]).length = 38 := by simp [flatCells, Value.cells, hsd]
  rw [hl, hS, hH]
  simp [flatCells, Value.cells, sprC, Spr.m]
theorem int_of {n : Int} (h : 0 ≤ n) : ∃ k : Nat, n = k := ⟨n.toNat, by omega⟩
set_option maxHeartbeats 4000000 in
theorem spring_Right (W S H : Int) (w : World)  : Ctr Tryz.prog 63 [.agg #[I W, I S, I H]] w (fun _ => False) (fun v _ => v = .bool (spRight W S H)) := by
  refine fn_start (N := 27) Tryz.func63 rfl rfl rfl fun ac hk => ?_
  have hs := St.start hk w
  refine wp_seq ?_
  refine wp_reg ?_
  refine s_box hs rfl rfl rfl fun ac ww g1 hs => ?_
  refine s_q hs (c_assign (hs.ev rfl)) rfl fun ac hs => ?_
  refine s_end ?_
  replace hs := hs.sub (F' := [(1, _), (2, _)]) ⟨rfl, rfl, trivial⟩
  refine then_n ?_
  refine wp_seq ?_
  refine wp_reg ?_
  refine s_q hs (c_fld fl33_0 (hs.ev rfl)) rfl fun ac hs => ?_
  refine s_q hs (c_loadS un3 rfl (hs.ev rfl) (hs.seg (i := 0) rfl) rfl) rfl fun ac hs => ?_
  refine s_call hs fu101 (.cons (hs.ev rfl) .nil) (ladder_Levels W _) rfl fun ac ww v5 hf hp hs => ?_
  obtain rfl := hp
  replace hs := hs [] (.nil _ _)
  refine s_q hs (c_geqI (hs.ev rfl) (hs.ev rfl)) rfl fun ac hs => ?_
  refine s_q hs (c_move (hs.ev rfl)) rfl fun ac hs => ?_
  refine s_g hs rfl rfl (fun hg => c_fld fl33_1 (hs.ev rfl)) rfl fun ac hs => ?_
  refine s_g hs rfl rfl (fun hg => c_loadS un3 rfl (gev (hs.ev rfl) hg) (hs.seg (i := 0) rfl) rfl) rfl fun ac hs => ?_
  refine s_g hs rfl rfl (fun hg => c_geqI (gev (hs.ev rfl) hg) (hs.ev rfl)) rfl fun ac hs => ?_
  refine s_q hs (c_and (hs.ev rfl) (hs.ev rfl)) rfl fun ac hs => ?_
  refine s_q hs (c_move (hs.ev rfl)) rfl fun ac hs => ?_
  refine s_g hs rfl rfl (fun hg => c_fld fl33_1 (hs.ev rfl)) rfl fun ac hs => ?_
  refine s_g hs rfl rfl (fun hg => c_loadS un3 rfl (gev (hs.ev rfl) hg) (hs.seg (i := 0) rfl) rfl) rfl fun ac hs => ?_
  refine s_g hs rfl rfl (fun hg => c_leqI (gev (hs.ev rfl) hg) (hs.ev rfl)) rfl fun ac hs => ?_
  refine s_q hs (c_and (hs.ev rfl) (hs.ev rfl)) rfl fun ac hs => ?_
  refine s_q hs (c_move (hs.ev rfl)) rfl fun ac hs => ?_
  refine s_g hs rfl rfl (fun hg => c_fld fl33_2 (hs.ev rfl)) rfl fun ac hs => ?_
  refine s_g hs rfl rfl (fun hg => c_loadS un3 rfl (gev (hs.ev rfl) hg) (hs.seg (i := 0) rfl) rfl) rfl fun ac hs => ?_
  refine s_g hs rfl rfl (fun hg => c_geqI (gev (hs.ev rfl) hg) (hs.ev rfl)) rfl fun ac hs => ?_
  refine s_q hs (c_and (hs.ev rfl) (hs.ev rfl)) rfl fun ac hs => ?_
  refine s_q hs (c_move (hs.ev rfl)) rfl fun ac hs => ?_
  refine s_g hs rfl rfl (fun hg => c_fld fl33_2 (hs.ev rfl)) rfl fun ac hs => ?_
  refine s_g hs rfl rfl (fun hg => c_loadS un3 rfl (gev (hs.ev rfl) hg) (hs.seg (i := 0) rfl) rfl) rfl fun ac hs => ?_
  refine s_g hs rfl rfl (fun hg => c_leqI (gev (hs.ev rfl) hg) (hs.ev rfl)) rfl fun ac hs => ?_
  refine s_q hs (c_and (hs.ev rfl) (hs.ev rfl)) rfl fun ac hs => ?_
  refine s_q hs (c_assign (hs.ev rfl)) rfl fun ac hs => ?_
  refine s_end ?_
  replace hs := hs.sub (F' := [(2, _)]) ⟨rfl, trivial⟩
  refine then_n ?_
  refine wp_ret ?_
  refine s_ret hs rfl (.tmp (hs.tmp rfl) .nil) rfl ⟨_, rfl, hs.fr, ?_⟩
  rfl
set_option maxHeartbeats 4000000 in
theorem ref08_Right (W S H : Int) (w : World)  : Ctr Tryz.prog 61 [.agg #[I W, I S, I H]] w (fun _ => False) (fun v _ => v = .bool (spRight W S H)) := by
  refine fn_start (N := 27) Tryz.func61 rfl rfl rfl fun ac hk => ?_
  have hs := St.start hk w
  refine wp_seq ?_
  refine wp_reg ?_
  refine s_box hs rfl rfl rfl fun ac ww g1 hs => ?_
  refine s_q hs (c_assign (hs.ev rfl)) rfl fun ac hs => ?_
  refine s_end ?_
  replace hs := hs.sub (F' := [(1, _), (2, _)]) ⟨rfl, rfl, trivial⟩
  refine then_n ?_
  refine wp_seq ?_
  refine wp_reg ?_
  refine s_q hs (c_fld fl23_0 (hs.ev rfl)) rfl fun ac hs => ?_
  refine s_q hs (c_loadS un3 rfl (hs.ev rfl) (hs.seg (i := 0) rfl) rfl) rfl fun ac hs => ?_
  refine s_call hs fu88 (.cons (hs.ev rfl) .nil) (ref06_Levels W _) rfl fun ac ww v5 hf hp hs => ?_
  obtain rfl := hp
  replace hs := hs [] (.nil _ _)
  refine s_q hs (c_geqI (hs.ev rfl) (hs.ev rfl)) rfl fun ac hs => ?_
  refine s_q hs (c_move (hs.ev rfl)) rfl fun ac hs => ?_
  refine s_g hs rfl rfl (fun hg => c_fld fl23_1 (hs.ev rfl)) rfl fun ac hs => ?_
  refine s_g hs rfl rfl (fun hg => c_loadS un3 rfl (gev (hs.ev rfl) hg) (hs.seg (i := 0) rfl) rfl) rfl fun ac hs => ?_
  refine s_g hs rfl rfl (fun hg => c_geqI (gev (hs.ev rfl) hg) (hs.ev rfl)) rfl fun ac hs => ?_
  refine s_q hs (c_and (hs.ev rfl) (hs.ev rfl)) rfl fun ac hs => ?_
  refine s_q hs (c_move (hs.ev rfl)) rfl fun ac hs => ?_
  refine s_g hs rfl rfl (fun hg => c_fld fl23_1 (hs.ev rfl)) rfl fun ac hs => ?_
  refine s_g hs rfl rfl (fun hg => c_loadS un3 rfl (gev (hs.ev rfl) hg) (hs.seg (i := 0) rfl) rfl) rfl fun ac hs => ?_
  refine s_g hs rfl rfl (fun hg => c_leqI (gev (hs.ev rfl) hg) (hs.ev rfl)) rfl fun ac hs => ?_
  refine s_q hs (c_and (hs.ev rfl) (hs.ev rfl)) rfl fun ac hs => ?_
  refine s_q hs (c_move (hs.ev rfl)) rfl fun ac hs => ?_
  refine s_g hs rfl rfl (fun hg => c_fld fl23_2 (hs.ev rfl)) rfl fun ac hs => ?_
  refine s_g hs rfl rfl (fun hg => c_loadS un3 rfl (gev (hs.ev rfl) hg) (hs.seg (i := 0) rfl) rfl) rfl fun ac hs => ?_
  refine s_g hs rfl rfl (fun hg => c_geqI (gev (hs.ev rfl) hg) (hs.ev rfl)) rfl fun ac hs => ?_
  refine s_q hs (c_and (hs.ev rfl) (hs.ev rfl)) rfl fun ac hs => ?_
  refine s_q hs (c_move (hs.ev rfl)) rfl fun ac hs => ?_
  refine s_g hs rfl rfl (fun hg => c_fld fl23_2 (hs.ev rfl)) rfl fun ac hs => ?_
  refine s_g hs rfl rfl (fun hg => c_loadS un3 rfl (gev (hs.ev rfl) hg) (hs.seg (i := 0) rfl) rfl) rfl fun ac hs => ?_
  refine s_g hs rfl rfl (fun hg => c_leqI (gev (hs.ev rfl) hg) (hs.ev rfl)) rfl fun ac hs => ?_
  refine s_q hs (c_and (hs.ev rfl) (hs.ev rfl)) rfl fun ac hs => ?_
  refine s_q hs (c_assign (hs.ev rfl)) rfl fun ac hs => ?_
  refine s_end ?_
  replace hs := hs.sub (F' := [(2, _)]) ⟨rfl, trivial⟩
  refine then_n ?_
  refine wp_ret ?_
  refine s_ret hs rfl (.tmp (hs.tmp rfl) .nil) rfl ⟨_, rfl, hs.fr, ?_⟩
  rfl
set_option maxHeartbeats 4000000 in
theorem law08_Light (W S H : Int) (w : World)  : Ctr Tryz.prog 11 [.agg #[I W, I S, I H]] w (fun _ => False) (fun v _ => v = .bool (spLight W S H)) := by
  refine fn_start (N := 15) Tryz.func11 rfl rfl rfl fun ac hk => ?_
  have hs := St.start hk w
  refine wp_seq ?_
  refine wp_reg ?_
  refine s_box hs rfl rfl rfl fun ac ww g1 hs => ?_
  refine s_q hs (c_assign (hs.ev rfl)) rfl fun ac hs => ?_
  refine s_end ?_
  replace hs := hs.sub (F' := [(1, _), (2, _)]) ⟨rfl, rfl, trivial⟩
  refine then_n ?_
  refine wp_seq ?_
  refine wp_reg ?_
  refine s_q hs (c_loadW ty23 ag23 (hs.ev rfl) (hs.seg (i := 0) rfl) (by rfl)) rfl fun ac hs => ?_
  refine s_call hs fu61 (.cons (hs.ev rfl) .nil) (ref08_Right W S H _) rfl fun ac ww v4 hf hp hs => ?_
  obtain rfl := hp
  replace hs := hs [] (.nil _ _)
  refine s_q hs (c_move (hs.ev rfl)) rfl fun ac hs => ?_
  refine s_g hs rfl rfl (fun hg => c_fld fl23_2 (hs.ev rfl)) rfl fun ac hs => ?_
  refine s_g hs rfl rfl (fun hg => c_loadS un3 rfl (gev (hs.ev rfl) hg) (hs.seg (i := 0) rfl) rfl) rfl fun ac hs => ?_
  refine s_g hs rfl rfl (fun hg => c_leqI (gev (hs.ev rfl) hg) (hs.ev rfl)) rfl fun ac hs => ?_
  refine s_q hs (c_and (hs.ev rfl) (hs.ev rfl)) rfl fun ac hs => ?_
  refine s_q hs (c_move (hs.ev rfl)) rfl fun ac hs => ?_
  refine s_g hs rfl rfl (fun hg => c_fld fl23_1 (hs.ev rfl)) rfl fun ac hs => ?_
  refine s_g hs rfl rfl (fun hg => c_loadS un3 rfl (gev (hs.ev rfl) hg) (hs.seg (i := 0) rfl) rfl) rfl fun ac hs => ?_
  refine s_g hs rfl rfl (fun hg => c_leqI (gev (hs.ev rfl) hg) (hs.ev rfl)) rfl fun ac hs => ?_
  refine s_q hs (c_and (hs.ev rfl) (hs.ev rfl)) rfl fun ac hs => ?_
  refine s_q hs (c_assign (hs.ev rfl)) rfl fun ac hs => ?_
  refine s_end ?_
  replace hs := hs.sub (F' := [(2, _)]) ⟨rfl, trivial⟩
  refine then_n ?_
  refine wp_ret ?_
  refine s_ret hs rfl (.tmp (hs.tmp rfl) .nil) rfl ⟨_, rfl, hs.fr, ?_⟩
  rfl
set_option maxHeartbeats 4000000 in
theorem law08_To (W S H : Int) (w : World)  : Ctr Tryz.prog 15 [.agg #[I W, I S, I H]] w (fun _ => False) (fun v _ => v = .agg #[I W, I S, I H]) := by
  refine fn_start (N := 10) Tryz.func15 rfl rfl rfl fun ac hk => ?_
  have hs := St.start hk w
  refine wp_seq ?_
  refine wp_reg ?_
  refine s_box hs rfl rfl rfl fun ac ww g1 hs => ?_
  refine s_alloc hs ty33 rfl fun ac ww g2 hs => ?_
  refine s_end ?_
  replace hs := hs.sub (F' := [(1, _), (2, _)]) ⟨rfl, rfl, trivial⟩
  refine then_n ?_
  refine wp_seq ?_
  refine wp_reg ?_
  refine s_q hs (c_fld fl23_0 (hs.ev rfl)) rfl fun ac hs => ?_
  refine s_q hs (c_loadS un3 rfl (hs.ev rfl) (hs.seg (i := 1) rfl) rfl) rfl fun ac hs => ?_
  refine s_q hs (c_fld fl23_1 (hs.ev rfl)) rfl fun ac hs => ?_
  refine s_q hs (c_loadS un3 rfl (hs.ev rfl) (hs.seg (i := 1) rfl) rfl) rfl fun ac hs => ?_
  refine s_q hs (c_fld fl23_2 (hs.ev rfl)) rfl fun ac hs => ?_
  refine s_q hs (c_loadS un3 rfl (hs.ev rfl) (hs.seg (i := 1) rfl) rfl) rfl fun ac hs => ?_
  refine s_q hs (c_buildS ty33 bp33 (.cons (hs.ev rfl) (.cons (hs.ev rfl) (.cons (hs.ev rfl) .nil))) ⟨rfl, rfl, rfl, trivial⟩ (by simp [flatCells, Value.cells]) rfl) rfl fun ac hs => ?_
  refine s_storeW (i := 0) hs ty33 rfl rfl rfl (by rfl) (by rfl) (by simp) fun ww hs => ?_
  refine s_end ?_
  replace hs := hs.sub (F' := [(2, _)]) ⟨rfl, trivial⟩
  refine then_n ?_
  refine wp_ret ?_
  refine s_ret hs rfl (.cell (hs.tmp rfl) (run_loadA ty33 ag33 (hs.seg (i := 0) rfl) rfl (by rfl)) .nil) rfl ⟨_, rfl, hs.fr, ?_⟩
  rfl
set_option maxHeartbeats 4000000 in
theorem ref08_Many (W S : Int) (Hn : Nat) (h6 : Hn ≤ 6) (w : World)  : Ctr Tryz.prog 18 [.agg #[I W, I S, I Hn]] w (fun _ => False) (fun v _ => v = I (2 ^ Hn : Nat)) := by
  refine fn_start (N := 14) Tryz.func18 rfl rfl rfl fun ac hk => ?_
  have hs := St.start hk w
  refine wp_seq ?_
  refine wp_reg ?_
  refine s_box hs rfl rfl rfl fun ac ww g1 hs => ?_
  refine s_q hs (c_assign (hs.ev rfl)) rfl fun ac hs => ?_
  refine s_end ?_
  replace hs := hs.sub (F' := [(1, _), (2, _)]) ⟨rfl, rfl, trivial⟩
  refine then_n ?_
  refine wp_seq ?_
  refine wp_reg ?_
  refine s_q hs (c_assign (hs.ev rfl)) rfl fun ac hs => ?_
  refine s_end ?_
  refine then_n ?_
  refine wp_seq ?_
  refine wp_seq ?_
  refine wp_reg ?_
  refine s_q hs (c_assign (hs.ev rfl)) rfl fun ac hs => ?_
  refine s_end ?_
  refine then_n ?_
  refine wp_block ?_
  refine s_loop hs (X := Nat) (fun k => [(3, I (2 ^ k : Nat)), (4, I k)]) [(1, _), (2, _)] (fun _ => [_]) (fun n k => k ≤ Hn ∧ n = Hn - k) (_) (0) (⟨Nat.zero_le _, rfl⟩) ⟨rfl, rfl, rfl, rfl, trivial⟩ rfl ?_
  rintro n k ac ww hok hs
  simp only [List.cons_append, List.nil_append] at hs
  obtain ⟨hk, rfl⟩ := hok
  have hp8 := pow64 (lv := k) (by omega)
  have hp9 : 2 ^ (k + 1) = 2 ^ k * 2 := Nat.pow_succ ..
  refine wp_seq ?_
  refine wp_seq ?_
  refine wp_reg ?_
  refine s_q hs (c_move (hs.ev rfl)) rfl fun ac hs => ?_
  refine s_q hs (c_fld fl23_2 (hs.ev rfl)) rfl fun ac hs => ?_
  refine s_q hs (c_loadS un3 rfl (hs.ev rfl) (hs.seg (i := 0) rfl) rfl) rfl fun ac hs => ?_
  refine s_q hs (c_lssI (hs.ev rfl) (hs.ev rfl)) rfl fun ac hs => ?_
  refine s_end ?_
  refine then_n ?_
  refine s_cond hs rfl (fun hc => ?_) (fun hc => ?_)
  · try simp only [decide_eq_true_eq, decide_eq_false_iff_not, Bool.not_eq_true', Bool.not_eq_false', Bool.and_eq_true, Bool.or_eq_true, Bool.or_eq_false_iff] at hc
    refine wp_skip ?_
    refine then_n ?_
    refine wp_seq ?_
    refine wp_block ?_
    refine wp_reg ?_
    refine s_q hs (c_move (hs.ev rfl)) rfl fun ac hs => ?_
    refine s_q hs (c_mulI (hs.ev rfl) (hs.ev rfl) (by omega) (by omega)) rfl fun ac hs => ?_
    refine s_q hs (c_assign (hs.ev rfl)) rfl fun ac hs => ?_
    refine s_end ?_
    refine blk_n ?_
    refine then_n ?_
    refine wp_reg ?_
    refine s_q hs (c_move (hs.ev rfl)) rfl fun ac hs => ?_
    refine s_q hs (c_addI (hs.ev rfl) (hs.ev rfl) (by omega) (by omega)) rfl fun ac hs => ?_
    refine s_q hs (c_assign (hs.ev rfl)) rfl fun ac hs => ?_
    refine s_end ?_
    refine then_n ?_
    exact ⟨Hn - (k + 1), by omega, k + 1, ⟨by omega, rfl⟩, St.next hs ⟨(congrArg (fun z => some (I z)) (by omega)), rfl, rfl, rfl, trivial⟩ rfl⟩
  · try simp only [decide_eq_true_eq, decide_eq_false_iff_not, Bool.not_eq_true', Bool.not_eq_false', Bool.and_eq_true, Bool.or_eq_true, Bool.or_eq_false_iff] at hc
    obtain rfl : k = Hn := by omega
    refine wp_exit ?_
    refine then_e ?_
    refine then_e ?_
    refine blk_hit ?_
    refine then_n ?_
    refine wp_seq ?_
    refine wp_reg ?_
    refine s_q hs (c_move (hs.ev rfl)) rfl fun ac hs => ?_
    refine s_q hs (c_assign (hs.ev rfl)) rfl fun ac hs => ?_
    refine s_end ?_
    replace hs := hs.sub (F' := [(2, _)]) ⟨rfl, trivial⟩
    refine then_n ?_
    refine wp_ret ?_
    refine s_ret hs rfl (.tmp (hs.tmp rfl) .nil) rfl ⟨_, rfl, hs.fr, ?_⟩
    rfl
set_option maxHeartbeats 4000000 in
theorem spring_New (W S H d : Int) (ep : UInt32) (seed : List UInt8) (hsd : seed.length = 32) (w : World)  : Ctr Tryz.prog 14 [.agg #[I W, I S, I H], .agg (seed.map B).toArray, I d, U ep] w (fun _ => False) (fun v w' => (spFits W S H d ep = false ∧ v = .tuple #[.pointer none, I 1]) ∨ (spFits W S H d ep = true ∧ ∃ p, SpIs p W S H seed d ep ∧ SpAt w' p 0 (fun _ => none) none ∧ w.heap.size ≤ p.g ∧ w.heap.size ≤ p.cg ∧ v = .tuple #[.pointer (some ⟨p.g, 0, none⟩), I 0])) := by
  refine fn_start (N := 37) Tryz.func14 rfl rfl rfl fun ac hk => ?_
  have hs := St.start hk w
  refine wp_seq ?_
  refine wp_reg ?_
  refine s_box hs rfl rfl rfl fun ac ww g4 hs => ?_
  refine s_box hs rfl rfl rfl fun ac ww g5 hs => ?_
  refine s_q hs (c_assign (hs.ev rfl)) rfl fun ac hs => ?_
  refine s_q hs (c_assign (hs.ev rfl)) rfl fun ac hs => ?_
  refine s_end ?_
  replace hs := hs.sub (F' := [(2, _), (3, _), (4, _), (5, _), (8, _), (9, _)]) ⟨rfl, rfl, rfl, rfl, rfl, rfl, trivial⟩
  refine then_n ?_
  refine wp_seq ?_
  refine wp_seq ?_
  refine wp_reg ?_
  refine s_q hs (c_loadW ty33 ag33 (hs.ev rfl) (hs.seg (i := 1) rfl) (by rfl)) rfl fun ac hs => ?_
  refine s_call hs fu63 (.cons (hs.ev rfl) .nil) (spring_Right W S H _) rfl fun ac ww v11 hf hp hs => ?_
  obtain rfl := hp
  replace hs := hs [] (.nil _ _)
  refine s_q hs (c_not (hs.ev rfl)) rfl fun ac hs => ?_
  refine s_q hs (c_move (hs.ev rfl)) rfl fun ac hs => ?_
  refine s_g hs rfl rfl (fun hg => c_move (hs.ev rfl)) rfl fun ac hs => ?_
  refine s_g hs rfl rfl (fun hg => c_lssI (gev (hs.ev rfl) hg) (hs.ev rfl)) rfl fun ac hs => ?_
  refine s_q hs (c_or (hs.ev rfl) (hs.ev rfl)) rfl fun ac hs => ?_
  refine s_q hs (c_move (hs.ev rfl)) rfl fun ac hs => ?_
  refine s_g hs rfl rfl (fun hg => c_move (hs.ev rfl)) rfl fun ac hs => ?_
  refine s_g hs rfl rfl (fun hg => c_fld fl33_0 (hs.ev rfl)) rfl fun ac hs => ?_
  refine s_g hs rfl rfl (fun hg => c_loadS un3 rfl (gev (hs.ev rfl) hg) (hs.seg (i := 1) rfl) rfl) rfl fun ac hs => ?_
  refine s_g hs rfl rfl (fun hg => c_geqI (gev (hs.ev rfl) hg) (gev (hs.ev rfl) hg)) rfl fun ac hs => ?_
  refine s_q hs (c_or (hs.ev rfl) (hs.ev rfl)) rfl fun ac hs => ?_
  refine s_q hs (c_move (hs.ev rfl)) rfl fun ac hs => ?_
  refine s_g hs rfl rfl (fun hg => c_move (hs.ev rfl)) rfl fun ac hs => ?_
  refine s_g hs rfl rfl (fun hg => c_gtrU (gev (hs.ev rfl) hg) (St.ev (v := U 65536) hs rfl)) rfl fun ac hs => ?_
  refine s_q hs (c_or (hs.ev rfl) (hs.ev rfl)) rfl fun ac hs => ?_
  refine s_end ?_
  replace hs := hs.sub (F' := [(2, _), (3, _), (4, _), (5, _), (8, _), (9, _), (26, _)]) ⟨rfl, rfl, rfl, rfl, rfl, rfl, rfl, trivial⟩
  refine then_n ?_
  refine s_cond hs rfl (fun hc => ?_) (fun hc => ?_)
  · simp only [Bool.or_eq_true, decide_eq_true_eq, Bool.not_eq_true'] at hc
    have hno : spFits W S H d ep = false := by
      rw [← Bool.not_eq_true, spFits_iff]
      rintro ⟨h1, h2, h3, h4⟩
      rcases hc with ((hc | hc) | hc) | hc
      · rw [h1] at hc; cases hc
      · omega
      · omega
      · omega
    refine wp_seq ?_
    refine wp_reg ?_
    refine s_q hs (c_assign (hs.ev rfl)) rfl fun ac hs => ?_
    refine s_q hs (c_assign (hs.ev rfl)) rfl fun ac hs => ?_
    refine s_end ?_
    replace hs := hs.sub (F' := [(2, _), (3, _), (4, _), (5, _), (8, _), (9, _)]) ⟨rfl, rfl, rfl, rfl, rfl, rfl, trivial⟩
    refine then_n ?_
    refine wp_ret ?_
    refine then_r ?_
    refine s_ret hs rfl (.tmp (hs.tmp rfl) (.tmp (hs.tmp rfl) .nil)) rfl ⟨_, rfl, hs.fr, ?_⟩
    exact .inl ⟨hno, rfl⟩
  · simp only [Bool.or_eq_false_iff, decide_eq_false_iff_not, Bool.not_eq_false'] at hc
    obtain ⟨⟨⟨hr, hd0⟩, hdW⟩, hep⟩ := hc
    have hyes : spFits W S H d ep = true := spFits_iff.2 ⟨hr, by omega, by omega, by omega⟩
    obtain ⟨hlv, hS1, hS16, hH0, hH6⟩ := spRight_iff.1 hr
    obtain ⟨Sn, hSn⟩ := int_of (show 0 ≤ S by omega)
    obtain ⟨Hn, hHn⟩ := int_of hH0
    subst hHn
    subst hSn
    have hp64 := pow64 (lv := Hn) (by omega)
    have hpi := pow_le64 Hn (by omega)
    have hpj := pow_pos Hn
    refine wp_skip ?_
    refine then_n ?_
    refine wp_seq ?_
    refine wp_region_rg pmix 8 (by kernel_rfl) rfl hs ?_
    simp only [List.take_succ_cons, List.take_zero]
    refine rg_q (fun ac ww h => c_loadW ty33 ag33 (h.ev rfl) (h.blk (hs.seg (i := 1) rfl)) (by rfl)) rfl ?_
    refine rg_q (fun ac ww h => c_loadW ty129 rfl (h.ev rfl) (h.blk (hs.seg (i := 0) rfl)) (by rw [List.length_map, hsd])) rfl ?_
    refine rg_q (fun ac ww h => c_move (h.ev rfl)) rfl ?_
    refine rg_q (fun ac ww h => c_move (h.ev rfl)) rfl ?_
    refine rg_q (fun ac ww h => c_fld fl33_2 (h.ev rfl)) rfl ?_
    refine rg_q (fun ac ww h => c_loadS un3 rfl (h.ev rfl) (h.blk (hs.seg (i := 1) rfl)) rfl) rfl ?_
    refine rg_q (fun ac ww h => c_shlI (h.ev rfl) (h.ev rfl) (by omega) (by rw [Int.one_mul]; omega) (by rw [Int.one_mul]; omega)) rfl ?_
    refine rg_make (n := (2 ^ Hn)) un132 ty203 rfl rfl (by push_cast; omega) (by push_cast; omega) (by omega) (by unfold maxLen; omega) (rep_cols _) rfl ?_
    refine rg_nil fun ac ww L' hf hfe hs => ?_
    simp only [List.drop_succ_cons, List.drop_zero]
    obtain ⟨v34, L34, M34, h34, e34, rfl, rfl⟩ := hfe
    replace hs := hs.add h34
    obtain ⟨g34, rfl, rfl⟩ := e34
    refine s_q hs (c_buildS (zc := (sprC ⟨0, g34, W, Sn, Hn, seed, d, ep⟩ 0 0 (.pointer none) 0)) ty149 bp149 (.cons (hs.ev rfl) (.cons (hs.ev rfl) (.cons (hs.ev rfl) (.cons (hs.ev rfl) (.cons (hs.ev rfl) .nil))))) ⟨rfl, (by simp [Value.cells, hsd]), (by simp [Value.cells, hsd]), (by simp [Value.cells, hsd]), (by simp [Value.cells, hsd]), trivial⟩ (by simp [flatCells, Value.cells, hsd]) (spr_build rfl rfl hsd)) rfl fun ac hs => ?_
    refine s_box hs rfl rfl rfl fun ac ww g36 hs => ?_
    refine s_q hs (c_assign (hs.ev rfl)) rfl fun ac hs => ?_
    refine s_q hs (c_assign (hs.ev rfl)) rfl fun ac hs => ?_
    refine s_end ?_
    replace hs := hs.sub (F' := [(8, _), (9, _)]) ⟨rfl, rfl, trivial⟩
    refine then_n ?_
    refine wp_ret ?_
    refine s_ret hs rfl (.tmp (hs.tmp rfl) (.tmp (hs.tmp rfl) .nil)) rfl ⟨_, rfl, hs.fr, ?_⟩
    exact .inr ⟨hyes, ⟨g36, g34, W, Sn, Hn, seed, d, ep⟩, ⟨⟨fun e => apart_at hs.has.apart (i := 0) (j := 1) rfl rfl (by decide) g36 rfl e, (show Sn ≤ 16 by omega), (show Hn ≤ 6 by omega), hsd⟩, rfl, rfl, rfl, rfl, rfl, rfl⟩, ⟨(by show ww.heap[g36]? = _; rw [cnt_none]; exact hs.seg (i := 0) rfl), hs.seg (i := 1) rfl, (fun _ _ _ h => by cases h), (fun _ h => by cases h)⟩, (hs.own _ (List.mem_of_getElem? (i := 0) rfl) g36 rfl).resolve_right id, (hs.own _ (List.mem_of_getElem? (i := 1) rfl) g34 rfl).resolve_right id, rfl⟩
end Go.Proofs.YtklajbdbnnceiaaGreat
end

section
/- What a spring tells. -/
set_option linter.unusedSimpArgs false
set_option linter.unusedVariables false
set_option maxRecDepth 100000
namespace Go.Proofs.YtklajbdbnnceiaaGreat
open Go Go.Fw
open Sha
theorem keepB {N : Nat} {F : List (Nat × Value)} {p : Spr} (ho : p.Ok) {b : Nat} {xs0 : List Value} {T0 : TypeId} {ys zs : List Value} {T1 T2 : TypeId} {w w1 w' : World} {a : Act} (hs : St N F [.seg b xs0 T0, .seg p.g ys T1, .seg p.cg zs T2] (SpM p) w a w1) (hf : Fr (SpM p) w1 w') {xs ys' : List Value}
    (ha : w'.heap[p.g]? = some (.cells xs.toArray 149 (0, 0))) (hb : w'.heap[p.cg]? = some (.cells ys'.toArray 203 (0, 0))) : Has 0 w' [.seg b xs0 T0, .seg p.g xs 149, .seg p.cg ys' 203] ∧ ∀ e ∈ [Ent.seg b xs0 T0, .seg p.g xs 149, .seg p.cg ys' 203], ∀ k, e.keys k → w.heap.size ≤ k ∨ SpM p k := by
  refine ⟨Has.app (L := [_]) ((hs.has.pick (.cons_cons _ (List.nil_sublist _))).same hf.size fun e he k hk => ?_) (has2 ho.ne ha hb) fun e1 h1 e2 h2 kk hk1 hk2 => ?_, fun e he k hk => ?_⟩
  · simp only [List.mem_singleton] at he
    subst he
    exact hf.block k (hs.has.lt _ (by simp) k hk) fun hm => hm.elim (apart_at hs.has.apart (i := 0) (j := 1) rfl rfl (by decide) k hk) (apart_at hs.has.apart (i := 0) (j := 2) rfl rfl (by decide) k hk)
  · simp only [List.mem_singleton] at h1
    subst h1
    simp only [List.mem_cons, List.not_mem_nil, or_false] at h2
    rcases h2 with rfl | rfl
    · exact apart_at hs.has.apart (i := 0) (j := 1) rfl rfl (by decide) kk hk1 hk2
    · exact apart_at hs.has.apart (i := 0) (j := 2) rfl rfl (by decide) kk hk1 hk2
  · rcases List.mem_cons.1 he with rfl | he
    · exact hs.own _ (by simp) k hk
    · exact own2 e he k hk
theorem SpTree.after {w w1 w2 w3 : World} {p : Spr} {K K' : Nat → Option Value} {t : Option Value} {pv : Value} {M : Nat → Prop} (hsp : SpAt w p 0 K t) (hst : SpTree w2 p K t pv K') (hsn : SpNew w1 w2 p K t pv K') (h01 : w.heap.size ≤ w1.heap.size) (h03 : Fr (SpM p) w w3) (h23 : Fr M w2 w3)
    (hM : ∀ k, M k → k = p.g ∨ k = p.cg ∨ w.heap.size ≤ k ∧ k < w1.heap.size) (hg3 : w3.heap[p.g]? = w2.heap[p.g]?) (hc3 : w3.heap[p.cg]? = w2.heap[p.cg]?) : SpTree w3 p K t pv K' ∧ SpNew w w3 p K t pv K' := by
  have hM2 : ∀ k, M k → k = p.g ∨ k = p.cg ∨ k < w1.heap.size := fun k hk => (hM k hk).imp id fun h => h.imp id fun h => h.2
  refine ⟨⟨⟨hg3.trans hst.1.hg, hc3.trans hst.1.hc, fun q hq v hv => ?_, fun v hv => ?_⟩, hst.2.1, hst.2.2.1, hst.2.2.2⟩, fun q hq v hv => (hsn.1 q hq v hv).imp id fun h => h.back h01, hsn.2.imp id fun h => (h.frk h23 hM2).back h01⟩
  · rcases hsn.1 q hq v hv with h | h
    · exact (hsp.col q hq v h).fr h03
    · have hc := hst.1.col q hq v hv
      refine hc.frk h23 fun k hk hm => ?_
      have h5 := h k hk
      obtain ⟨b, cap, cur, rfl, _, _, _, _, h6, h7⟩ := hc
      simp only [Value.ownBlock, Option.some.injEq] at hk
      subst hk
      rcases hM2 _ hm with e | e | e
      · exact h6 e
      · exact h7 e
      · omega
  · cases hv
    refine ⟨?_, hst.2.1⟩
    rcases hsn.2 with h | h
    · exact (hsp.tree _ h).1.fr h03
    · exact (h.frk h23 hM2).at
def elOk (p : Spr) (q r : Int) : Bool := decide (0 ≤ q) && decide (q < (p.m : Int)) && decide (0 ≤ r) && decide (r ≤ (p.S : Int))
def elB (p : Spr) (q r : Int) : List UInt8 := if elOk p q r = true then el p q.toNat r.toNat else List.replicate 16 0
def elR (p : Spr) (q r : Int) : Int := if elOk p q r = true then 0 else 1
theorem elOk_iff {p : Spr} {q r : Int} : elOk p q r = true ↔ 0 ≤ q ∧ q < (p.m : Int) ∧ 0 ≤ r ∧ r ≤ (p.S : Int) := by
  unfold elOk
  simp only [Bool.and_eq_true, decide_eq_true_eq]
  constructor
  · rintro ⟨⟨⟨h1, h2⟩, h3⟩, h4⟩; exact ⟨h1, h2, h3, h4⟩
  · rintro ⟨h1, h2, h3, h4⟩; exact ⟨⟨⟨h1, h2⟩, h3⟩, h4⟩
/-- What is made when an element is asked for. -/
def elK (p : Spr) (K : Nat → Option Value) (q r : Int) (K' : Nat → Option Value) : Prop := if elOk p q r = true then ∃ v, (∀ u, K q.toNat = some u → u = v) ∧ K' = updF K q.toNat (some v) else K' = K
set_option maxHeartbeats 4000000 in
theorem spring_Rules (p : Spr) (ho : p.Ok) (lk : Int) (K : Nat → Option Value) (t : Option Value) (w : World) (hsp : SpAt w p lk K t) : Ctr Tryz.prog 74 [.pointer (some ⟨p.g, 0, none⟩)] w (fun _ => False) (fun v _ => v = .agg #[I p.W, I p.S, I p.H]) := by
  refine fn_start (N := 10) Tryz.func74 rfl rfl rfl fun ac hk => ?_
  have hs := St.start hk w
  refine wp_seq ?_
  refine wp_reg ?_
  refine s_alloc hs ty33 rfl fun ac ww g2 hs => ?_
  refine s_end ?_
  refine then_n ?_
  refine wp_seq ?_
  refine wp_seq ?_
  refine wp_reg ?_
  refine s_q hs (c_move (hs.ev rfl)) rfl fun ac hs => ?_
  refine s_q hs (c_eqlNil un29 (hs.ev rfl) (hs.ev rfl)) rfl fun ac hs => ?_
  refine s_end ?_
  replace hs := hs.sub (F' := [(0, _), (2, _), (4, _)]) ⟨rfl, rfl, rfl, trivial⟩
  refine then_n ?_
  refine wp_cond_false (hs.ev rfl) ?_
  refine wp_skip ?_
  refine then_n ?_
  refine wp_seq ?_
  refine wp_reg ?_
  refine s_q hs (c_move (hs.ev rfl)) rfl fun ac hs => ?_
  refine s_q hs (c_nil (hs.ev rfl)) rfl fun ac hs => ?_
  refine s_q hs (c_fld fl149_0 (hs.ev rfl)) rfl fun ac hs => ?_
  refine s_q hs (c_loadA ty33 ag33 (hs.ev rfl) (hs.old hsp.hg id) (show ((sprC p _ _ _ _).drop 0).take 3 = [I p.W, I p.S, I p.H] from rfl) rfl) rfl fun ac hs => ?_
  refine s_storeW (i := 0) hs ty33 rfl rfl rfl (by rfl) (by rfl) (by simp) fun ww hs => ?_
  refine s_end ?_
  replace hs := hs.sub (F' := [(2, _)]) ⟨rfl, trivial⟩
  refine then_n ?_
  refine wp_ret ?_
  refine s_ret hs rfl (.cell (hs.tmp rfl) (run_loadA ty33 ag33 (hs.seg (i := 0) rfl) rfl (by rfl)) .nil) rfl ⟨_, rfl, hs.fr, ?_⟩
  rfl
set_option maxHeartbeats 4000000 in
theorem spring_Root (p : Spr) (ho : p.Ok) (K : Nat → Option Value) (t : Option Value) (w : World) (hsp : SpAt w p 0 K t) : Ctr Tryz.prog 19 [.pointer (some ⟨p.g, 0, none⟩)] w (SpM p) (fun v w' => v = .agg ((gNode p.d p.ep (ends p p.m) p.H 0).map B).toArray ∧ ∃ K' pv, SpTree w' p K t pv K' ∧ SpNew w w' p K t pv K') := by
  have hls := ends_len p
  have hls16 : (ends p p.m).length = 16 * p.m := by omega
  have hrl : (gNode p.d p.ep (ends p p.m) p.H 0).length = 16 := gNode_length hls16 p.H 0 (by unfold Spr.m; omega)
  refine fn_start (N := 9) Tryz.func19 rfl rfl rfl fun ac hk => ?_
  have hs := St.start2 hk ho.ne hsp.hg hsp.hc
  refine wp_seq ?_
  refine wp_reg ?_
  refine s_alloc hs ty36 rfl fun ac ww g2 hs => ?_
  refine s_end ?_
  refine then_n ?_
  refine wp_seq ?_
  refine wp_seq ?_
  refine wp_reg ?_
  refine s_q hs (c_move (hs.ev rfl)) rfl fun ac hs => ?_
  refine s_q hs (c_eqlNil un29 (hs.ev rfl) (hs.ev rfl)) rfl fun ac hs => ?_
  refine s_end ?_
  replace hs := hs.sub (F' := [(0, _), (2, _), (4, _)]) ⟨rfl, rfl, rfl, trivial⟩
  refine then_n ?_
  refine wp_cond_false (hs.ev rfl) ?_
  refine wp_skip ?_
  refine then_n ?_
  refine wp_seq ?_
  refine wp_reg ?_
  refine s_q hs (c_move (hs.ev rfl)) rfl fun ac hs => ?_
  have hs1 := hs
  refine s_callL hs fu65 (.cons (hs.ev rfl) .nil) (spring_whole p ho K t _ (hsp.re hs.fr (hs.seg (i := 1) rfl) (hs.seg (i := 2) rfl) (fun _ _ _ h => .inl h) fun v h => ⟨.inl h, (hsp.tree v h).2⟩)) (fun k _ h => .inl h) rfl fun ac ww v7 hf hp hs => ?_
  obtain ⟨K', hst, hsn⟩ := hp
  obtain ⟨ha1, ha2⟩ := keepB ho hs1 hf hst.1.hg hst.1.hc
  replace hs := hs [.seg g2 _ 36, .seg p.g _ 149, .seg p.cg _ 203] ha1 ha2
  have hfr0 := hs.fr
  have hown0 := hs.own
  have hg2a := (hs1.own _ (List.mem_of_getElem? (i := 0) rfl) g2 rfl).resolve_right (fun hm => hm.elim (apart_at hs1.has.apart (i := 0) (j := 1) rfl rfl (by decide) g2 rfl) (apart_at hs1.has.apart (i := 0) (j := 2) rfl rfl (by decide) g2 rfl))
  have hg2b := hs1.has.lt _ (List.mem_of_getElem? (i := 0) rfl) g2 rfl
  have hsz1 := hs1.fr.size
  replace hs := hs.rebase
  refine s_call hs fu67 (.cons (hs.ev rfl) .nil) (grove_Root p.d p.ep (ends p p.m) p.m p.H _ hls ho.h6 rfl _ (hst.1.tree _ rfl).1.grove) rfl fun ac ww v8 hf hp hs => ?_
  obtain rfl := hp
  replace hs := hs [] (.nil _ _)
  refine s_storeW (i := 0) hs ty36 rfl rfl rfl (by rw [List.length_map, hrl]) (all_map_B _) rfl fun ww hs => ?_
  refine s_end ?_
  
  replace hs := hs.sub (F' := [(2, _)]) ⟨rfl, trivial⟩
  refine then_n ?_
  refine wp_ret ?_
  refine s_ret hs rfl (.cell (hs.tmp rfl) (run_loadA ty36 rfl (hs.seg (i := 0) rfl) (List.take_of_length_le (show (List.map B (gNode p.d p.ep (ends p p.m) p.H 0)).length ≤ 16 by rw [List.length_map, hrl]; exact Nat.le_refl _)) (show (List.map B (gNode p.d p.ep (ends p p.m) p.H 0)).length = 16 by rw [List.length_map, hrl])) .nil) rfl ⟨_, rfl, (Fr.rebase hfr0 hown0 hs.fr), ?_⟩
  have h9 := SpTree.after hsp hst hsn hsz1 (Fr.rebase hfr0 hown0 hs.fr) hs.fr (fun k ⟨e, he, hk⟩ => by
    simp only [List.mem_cons, List.not_mem_nil, or_false] at he
    rcases he with rfl | rfl | rfl
    · have hk : k = g2 := hk
      subst hk
      exact .inr (.inr ⟨hg2a, hg2b⟩)
    · exact .inl hk
    · exact .inr (.inl hk)) ((hs.seg (i := 1) rfl).trans hst.1.hg.symm) ((hs.seg (i := 2) rfl).trans hst.1.hc.symm)
  exact ⟨rfl, K', _, h9.1, h9.2⟩
end Go.Proofs.YtklajbdbnnceiaaGreat
end

section
/- What a spring tells: paths, elements. -/
set_option linter.unusedSimpArgs false
set_option linter.unusedVariables false
set_option maxRecDepth 100000
namespace Go.Proofs.YtklajbdbnnceiaaGreat
open Go Go.Fw
open Sha
theorem SpAt.after {w w1 w2 w3 : World} {p : Spr} {lk : Int} {K K' : Nat → Option Value} {t : Option Value} {M : Nat → Prop} (hsp : SpAt w p lk K t) (hsp2 : SpAt w2 p lk K' t) (hsn : ∀ q, q < p.m → ∀ v, K' q = some v → K q = some v ∨ freshV w1 v) (h03 : Fr (SpM p) w w3) (h23 : Fr M w2 w3)
    (hM : ∀ k, M k → k = p.g ∨ k = p.cg ∨ w.heap.size ≤ k ∧ k < w1.heap.size) (hg3 : w3.heap[p.g]? = w2.heap[p.g]?) (hc3 : w3.heap[p.cg]? = w2.heap[p.cg]?) : SpAt w3 p lk K' t := by
  have hM2 : ∀ k, M k → k = p.g ∨ k = p.cg ∨ k < w1.heap.size := fun k hk => (hM k hk).imp id fun h => h.imp id fun h => h.2
  refine ⟨hg3.trans hsp2.hg, hc3.trans hsp2.hc, fun q hq v hv => ?_, fun v hv => ⟨(hsp.tree v hv).1.fr h03, (hsp2.tree v hv).2⟩⟩
  rcases hsn q hq v hv with h | h
  · exact (hsp.col q hq v h).fr h03
  · have hc := hsp2.col q hq v hv
    refine hc.frk h23 fun k hk hm => ?_
    have h5 := h k hk
    obtain ⟨b, cap, cur, rfl, _, _, _, _, h6, h7⟩ := hc
    simp only [Value.ownBlock, Option.some.injEq] at hk
    subst hk
    rcases hM2 _ hm with e | e | e
    · exact h6 e
    · exact h7 e
    · omega
set_option maxHeartbeats 4000000 in
theorem spring_Path (p : Spr) (ho : p.Ok) (K : Nat → Option Value) (t : Option Value) (i : Int) (w : World) (hsp : SpAt w p 0 K t) : Ctr Tryz.prog 17 [.pointer (some ⟨p.g, 0, none⟩), I i] w (SpM p) (fun v w' => ∃ tv, v = .tuple #[tv, I (lfE p.m i)] ∧ Rd w' tv (pN p.m p.H i) ((pW p.d p.ep (ends p p.m) p.m p.H i).map B) ∧ (∀ k, tv.ownBlock = some k → w.heap.size ≤ k ∧ ¬ SpM p k) ∧ ∃ K' pv, SpTree w' p K t pv K' ∧ SpNew w w' p K t pv K') := by
  have hls := ends_len p
  have hls16 : (ends p p.m).length = 16 * p.m := by omega
  refine fn_start (N := 14) Tryz.func17 rfl rfl rfl fun ac hk => ?_
  have hs := St.start2 hk ho.ne hsp.hg hsp.hc
  refine wp_seq ?_
  refine wp_reg ?_
  refine s_q hs (c_assign (hs.ev rfl)) rfl fun ac hs => ?_
  refine s_q hs (c_assign (hs.ev rfl)) rfl fun ac hs => ?_
  refine s_end ?_
  refine then_n ?_
  refine wp_seq ?_
  refine wp_seq ?_
  refine wp_reg ?_
  refine s_q hs (c_move (hs.ev rfl)) rfl fun ac hs => ?_
  refine s_q hs (c_eqlNil un29 (hs.ev rfl) (hs.ev rfl)) rfl fun ac hs => ?_
  refine s_end ?_
  replace hs := hs.sub (F' := [(0, _), (1, _), (4, _), (5, _), (7, _)]) ⟨rfl, rfl, rfl, rfl, rfl, trivial⟩
  refine then_n ?_
  refine wp_cond_false (hs.ev rfl) ?_
  refine wp_skip ?_
  refine then_n ?_
  refine wp_seq ?_
  refine wp_reg ?_
  refine s_q hs (c_move (hs.ev rfl)) rfl fun ac hs => ?_
  have hsz1 := hs.fr.size
  refine s_callL hs fu65 (.cons (hs.ev rfl) .nil) (spring_whole p ho K t _ (hsp.re hs.fr (hs.seg (i := 0) rfl) (hs.seg (i := 1) rfl) (fun _ _ _ h => .inl h) fun v h => ⟨.inl h, (hsp.tree v h).2⟩)) (fun k _ h => .inl h) rfl fun ac ww v9 hf hp hs => ?_
  obtain ⟨K', hst, hsn⟩ := hp
  replace hs := hs [.seg p.g _ 149, .seg p.cg _ 203] (has2 ho.ne hst.1.hg hst.1.hc) own2
  refine s_q hs (c_move (hs.ev rfl)) rfl fun ac hs => ?_
  refine s_call hs fu66 (.cons (hs.ev rfl) (.cons (hs.ev rfl) .nil)) (grove_Path p.d p.ep (ends p p.m) p.m p.H _ hls ho.h6 rfl i _ (hst.1.tree _ rfl).1.grove) rfl fun ac ww v11 hf hp hs => ?_
  have hf11 := hf
  obtain ⟨L', ⟨tv1, rfl, rfl⟩, hh⟩ := hp
  replace hs := hs _ hh
  refine s_q hs (c_extract (hs.ev rfl) rfl) rfl fun ac hs => ?_
  refine s_q hs (c_extract (hs.ev rfl) rfl) rfl fun ac hs => ?_
  refine s_q hs (c_assign (hs.ev rfl)) rfl fun ac hs => ?_
  refine s_q hs (c_assign (hs.ev rfl)) rfl fun ac hs => ?_
  refine s_end ?_
  replace hs := hs.sub (F' := [(4, _), (5, _)]) ⟨rfl, rfl, trivial⟩
  refine then_n ?_
  refine wp_ret ?_
  refine s_ret hs rfl (.tmp (hs.tmp rfl) (.tmp (hs.tmp rfl) .nil)) rfl ⟨_, rfl, hs.fr, ?_⟩
  have h9 := SpTree.after hsp hst hsn hsz1 hs.fr hf11 (fun k hk => hk.elim) (hf11.block _ (heap_lt hst.1.hg) id) (hf11.block _ (heap_lt hst.1.hc) id)
  have hap : ∀ k, tv1.ownBlock = some k → ¬ SpM p k := fun k hk hm => hm.elim (apart_at hs.has.apart (i := 0) (j := 1) rfl rfl (by decide) k hk) (apart_at hs.has.apart (i := 0) (j := 2) rfl rfl (by decide) k hk)
  exact ⟨_, rfl, Rd.of_row (hs.get (i := 0) rfl), fun k hk => ⟨(hs.own _ (List.mem_of_getElem? (i := 0) rfl) k hk).resolve_right (hap k hk), hap k hk⟩, K', _, h9.1, h9.2⟩
set_option maxHeartbeats 4000000 in
theorem spring_Element (p : Spr) (ho : p.Ok) (K : Nat → Option Value) (t : Option Value) (q r : Int) (w : World) (hsp : SpAt w p 0 K t) : Ctr Tryz.prog 16 [.pointer (some ⟨p.g, 0, none⟩), I q, I r] w (SpM p) (fun v w' => v = .tuple #[.agg ((elB p q r).map B).toArray, I (elR p q r)] ∧ ∃ K', SpAt w' p 0 K' t ∧ elK p K q r K' ∧ ∀ k, k < p.m → ∀ v, K' k = some v → K k = some v ∨ freshV w v) := by
  refine fn_start (N := 44) Tryz.func16 rfl rfl rfl fun ac hk => ?_
  have hs := St.start2 hk ho.ne hsp.hg hsp.hc
  refine wp_seq ?_
  refine wp_reg ?_
  refine s_alloc hs ty36 rfl fun ac ww g6 hs => ?_
  refine s_q hs (c_assign (hs.ev rfl)) rfl fun ac hs => ?_
  refine s_end ?_
  refine then_n ?_
  refine wp_seq ?_
  refine wp_block ?_
  refine wp_seq ?_
  refine wp_reg ?_
  refine s_q hs (c_move (hs.ev rfl)) rfl fun ac hs => ?_
  refine s_q hs (c_eqlNil un29 (hs.ev rfl) (hs.ev rfl)) rfl fun ac hs => ?_
  refine s_q hs (c_assign (hs.ev rfl)) rfl fun ac hs => ?_
  refine s_end ?_
  replace hs := hs.sub (F' := [(0, _), (1, _), (2, _), (6, _), (7, _), (8, _)]) ⟨rfl, rfl, rfl, rfl, rfl, rfl, trivial⟩
  refine then_n ?_
  refine wp_cond_false (hs.ev rfl) ?_
  refine wp_seq ?_
  refine wp_reg ?_
  refine s_q hs (c_move (hs.ev rfl)) rfl fun ac hs => ?_
  refine s_q hs (c_lssI (hs.ev rfl) (hs.ev rfl)) rfl fun ac hs => ?_
  refine s_q hs (c_move (hs.ev rfl)) rfl fun ac hs => ?_
  refine s_g hs rfl rfl (fun hg => c_move (hs.ev rfl)) rfl fun ac hs => ?_
  refine s_g hs rfl rfl (fun hg => c_move (hs.ev rfl)) rfl fun ac hs => ?_
  refine s_g hs rfl rfl (fun hg => c_nil (gev (hs.ev rfl) hg)) rfl fun ac hs => ?_
  refine s_g hs rfl rfl (fun hg => c_fld fl149_4 (gev (hs.ev rfl) hg)) rfl fun ac hs => ?_
  refine s_g hs rfl rfl (fun hg => c_loadS un132 rfl (gev (hs.ev rfl) hg) (hs.seg (i := 1) rfl) ((sprC_at ho.seed 2).trans rfl)) rfl fun ac hs => ?_
  refine s_g hs rfl rfl (fun hg => c_lenS un132 (gev (hs.ev rfl) hg)) rfl fun ac hs => ?_
  refine s_g hs rfl rfl (fun hg => c_geqI (gev (hs.ev rfl) hg) (gev (hs.ev rfl) hg)) rfl fun ac hs => ?_
  refine s_q hs (c_or (hs.ev rfl) (hs.ev rfl)) rfl fun ac hs => ?_
  refine s_q hs (c_move (hs.ev rfl)) rfl fun ac hs => ?_
  refine s_g hs rfl rfl (fun hg => c_move (hs.ev rfl)) rfl fun ac hs => ?_
  refine s_g hs rfl rfl (fun hg => c_lssI (gev (hs.ev rfl) hg) (hs.ev rfl)) rfl fun ac hs => ?_
  refine s_q hs (c_or (hs.ev rfl) (hs.ev rfl)) rfl fun ac hs => ?_
  refine s_q hs (c_move (hs.ev rfl)) rfl fun ac hs => ?_
  refine s_g hs rfl rfl (fun hg => c_move (hs.ev rfl)) rfl fun ac hs => ?_
  refine s_g hs rfl rfl (fun hg => c_move (hs.ev rfl)) rfl fun ac hs => ?_
  refine s_g hs rfl rfl (fun hg => c_nil (gev (hs.ev rfl) hg)) rfl fun ac hs => ?_
  refine s_g hs rfl rfl (fun hg => c_fld fl149_0 (gev (hs.ev rfl) hg)) rfl fun ac hs => ?_
  refine s_g hs rfl rfl (fun hg => c_fld fl33_1 (gev (hs.ev rfl) hg)) rfl fun ac hs => ?_
  refine s_g hs rfl rfl (fun hg => c_loadS un3 rfl (gev (hs.ev rfl) hg) (hs.seg (i := 1) rfl) rfl) rfl fun ac hs => ?_
  refine s_g hs rfl rfl (fun hg => c_gtrI (gev (hs.ev rfl) hg) (gev (hs.ev rfl) hg)) rfl fun ac hs => ?_
  refine s_q hs (c_or (hs.ev rfl) (hs.ev rfl)) rfl fun ac hs => ?_
  refine s_q hs (c_assign (hs.ev rfl)) rfl fun ac hs => ?_
  refine s_end ?_
  replace hs := hs.sub (F' := [(0, _), (1, _), (2, _), (6, _), (7, _), (12, _)]) ⟨rfl, rfl, rfl, rfl, rfl, rfl, trivial⟩
  refine then_n ?_
  refine s_cond hs rfl (fun hc => ?_) (fun hc => ?_)
  · simp only [Bool.or_eq_true, decide_eq_true_eq] at hc
    have hno : ¬ elOk p q r = true := fun h => by
      rw [elOk_iff] at h
      omega
    refine wp_seq ?_
    refine wp_reg ?_
    refine s_q hs (c_buildA ty36 un36 ty5 (zc := (List.replicate 16 (0 : UInt8)).map B) (vs := []) .nil (by simp) (by simp [flatCells]) rfl) rfl fun ac hs => ?_
    refine s_storeW (i := 0) hs ty36 rfl rfl rfl (by simp) (all_map_B _) rfl fun ww hs => ?_
    refine s_q hs (c_assign (hs.ev rfl)) rfl fun ac hs => ?_
    refine s_end ?_
    replace hs := hs.sub (F' := [(0, _), (1, _), (2, _), (6, _), (7, _)]) ⟨rfl, rfl, rfl, rfl, rfl, trivial⟩
    refine then_n ?_
    refine wp_ret ?_
    refine blk_r ?_
    refine then_r ?_
    refine s_ret hs rfl (.cell (hs.tmp rfl) (run_loadA ty36 rfl (hs.seg (i := 0) rfl) (List.take_of_length_le (by simp)) (by simp)) (.tmp (hs.tmp rfl) .nil)) rfl ⟨_, rfl, hs.fr, ?_⟩
    rw [elB, elR, if_neg hno, if_neg hno]
    exact ⟨rfl, K, hsp.re hs.fr (hs.seg (i := 1) rfl) (hs.seg (i := 2) rfl) (fun _ _ _ h => .inl h) fun v h => ⟨.inl h, (hsp.tree v h).2⟩, (by rw [elK, if_neg hno]), fun _ _ _ => .inl⟩
  · simp only [Bool.or_eq_false_iff, decide_eq_false_iff_not] at hc
    have hyes : elOk p q r = true := elOk_iff.2 (by omega)
    obtain ⟨qn, rfl⟩ := int_of (show 0 ≤ q by omega)
    obtain ⟨rn, rfl⟩ := int_of (show 0 ≤ r by omega)
    have hqm : qn < p.m := by omega
    have hrS : rn ≤ p.S := by omega
    refine wp_skip ?_
    refine blk_n ?_
    refine then_n ?_
    refine wp_seq ?_
    refine wp_reg ?_
    refine s_q hs (c_move (hs.ev rfl)) rfl fun ac hs => ?_
    refine s_q hs (c_move (hs.ev rfl)) rfl fun ac hs => ?_
    have hs1 := hs
    obtain ⟨ww1, hww1⟩ : ∃ z, z = ww := ⟨_, rfl⟩
    refine s_callL hs fu64 (.cons (hs.ev rfl) (.cons (hs.ev rfl) .nil)) (spring_column p ho qn hqm 0 K t _ (hsp.re hs.fr (hs.seg (i := 1) rfl) (hs.seg (i := 2) rfl) (fun _ _ _ h => .inl h) fun v h => ⟨.inl h, (hsp.tree v h).2⟩)) (fun k _ h => .inl h) rfl fun ac ww v40 hf hp hs => ?_
    obtain ⟨hcu, hsp2, hfv⟩ := hp
    rw [← hww1] at hfv
    obtain ⟨b, cap, cur, rfl, hb9, hpc⟩ := (hsp2.col qn hqm v40 (updF_same _ _ _)).rd
    obtain ⟨ha1, ha2⟩ := keepB ho hs1 hf hsp2.hg hsp2.hc
    replace hs := hs [.seg g6 _ 36, .seg p.g _ 149, .seg p.cg _ 203] ha1 ha2
    have hfr0 := hs.fr
    have hown0 := hs.own
    have hg2a := (hs1.own _ (List.mem_of_getElem? (i := 0) rfl) g6 rfl).resolve_right (fun hm => hm.elim (apart_at hs1.has.apart (i := 0) (j := 1) rfl rfl (by decide) g6 rfl) (apart_at hs1.has.apart (i := 0) (j := 2) rfl rfl (by decide) g6 rfl))
    have hg2b := hww1 ▸ hs1.has.lt _ (List.mem_of_getElem? (i := 0) rfl) g6 rfl
    have hsz1 := hww1 ▸ hs1.fr.size
    replace hs := hs.rebase
    have hnew : ∀ k, k < p.m → ∀ v, updF K qn (some (.slice (some ⟨b, 0, none⟩) (p.S + 1) cap)) k = some v → K k = some v ∨ freshV ww1 v := fun k hk v hv => by
      unfold updF at hv
      split at hv
      · rename_i e
        subst e
        cases hv
        cases h : K k with
        | none => exact .inr (hfv h)
        | some u => rw [hcu u h]; exact .inl rfl
      · exact .inl hv
    refine s_q hs (c_move (hs.ev rfl)) rfl fun ac hs => ?_
    refine s_q hs (c_idxS (j := rn) un39 ty36 (hs.ev rfl) (hs.ev rfl) (by omega) (by omega)) rfl fun ac hs => ?_
    refine s_q hs (c_loadA ty36 rfl (hs.ev rfl) hb9 (hpc rn hrS) (by rw [List.length_map, el_length])) rfl fun ac hs => ?_
    refine s_storeW (i := 0) hs ty36 rfl rfl rfl (by rw [List.length_map, el_length]) (all_map_B _) rfl fun ww hs => ?_
    refine s_q hs (c_assign (hs.ev rfl)) rfl fun ac hs => ?_
    refine s_end ?_
    replace hs := hs.sub (F' := [(6, _), (7, _)]) ⟨rfl, rfl, trivial⟩
    refine then_n ?_
    refine wp_ret ?_
    refine s_ret hs rfl (.cell (hs.tmp rfl) (run_loadA ty36 rfl (hs.seg (i := 0) rfl) (List.take_of_length_le (show (List.map B (el p qn rn)).length ≤ 16 by rw [List.length_map, el_length]; exact Nat.le_refl _)) (show (List.map B (el p qn rn)).length = 16 by rw [List.length_map, el_length])) (.tmp (hs.tmp rfl) .nil)) rfl ⟨_, rfl, (Fr.rebase hfr0 hown0 hs.fr), ?_⟩
    have h9 := SpAt.after hsp hsp2 hnew (Fr.rebase hfr0 hown0 hs.fr) hs.fr (fun k ⟨e, he, hk⟩ => by
      simp only [List.mem_cons, List.not_mem_nil, or_false] at he
      rcases he with rfl | rfl | rfl
      · have hk : k = g6 := hk
        subst hk
        exact .inr (.inr ⟨hg2a, hg2b⟩)
      · exact .inl hk
      · exact .inr (.inl hk)) ((hs.seg (i := 1) rfl).trans hsp2.hg.symm) ((hs.seg (i := 2) rfl).trans hsp2.hc.symm)
    rw [elB, elR, if_pos hyes, if_pos hyes, Int.toNat_natCast, Int.toNat_natCast]
    exact ⟨rfl, _, h9, (by rw [elK, if_pos hyes, Int.toNat_natCast]; exact ⟨_, hcu, rfl⟩), fun k hk v hv => (hnew k hk v hv).imp id fun h => h.back hsz1⟩
end Go.Proofs.YtklajbdbnnceiaaGreat
end

section
/- Laws of springs: an example, nil ones. -/
set_option linter.unusedSimpArgs false
set_option linter.unusedVariables false
set_option maxRecDepth 100000
namespace Go.Proofs.YtklajbdbnnceiaaGreat
open Go Go.Fw
open Sha
theorem over_sp {p : Spr} {w0 w w' : World} (h : Fr0 w0 w) (k : Fr (SpM p) w w') (hg : w0.heap.size ≤ p.g) (hc : w0.heap.size ≤ p.cg) : Fr0 w0 w' := h.over k fun i hi => by
  rcases hi with rfl | rfl
  · exact hg
  · exact hc
end Go.Proofs.YtklajbdbnnceiaaGreat
end

section
/- Claims: whether they may be. -/
set_option linter.unusedSimpArgs false
set_option linter.unusedVariables false
set_option maxRecDepth 100000
namespace Go.Proofs.YtklajbdbnnceiaaGreat
open Go Go.Fw
open Sha
def clRight (W S H d mt sn : Int) (ep sq : UInt32) : Bool := spRight W S H && decide (0 ≤ d) && decide (d < W) && decide (0 ≤ sn) && decide (sn < W) && decide (ep.toNat ≤ (65536 : UInt32).toNat) && decide (sq.toNat < 2 ^ H.toNat) && decide (0 ≤ mt) && decide (mt < S)
theorem clRight_iff {W S H d mt sn : Int} {ep sq : UInt32} : clRight W S H d mt sn ep sq = true ↔ spRight W S H = true ∧ 0 ≤ d ∧ d < W ∧ 0 ≤ sn ∧ sn < W ∧ ep.toNat ≤ (65536 : UInt32).toNat ∧ sq.toNat < 2 ^ H.toNat ∧ 0 ≤ mt ∧ mt < S := by
  unfold clRight
  simp only [Bool.and_eq_true, decide_eq_true_eq, and_assoc]
theorem shl1 {n : Nat} (h : n ≤ 6) : ((1 : UInt32) <<< UInt32.ofNat n).toNat = 2 ^ n := by
  match n, h with
  | 0, _ => rfl
  | 1, _ => rfl
  | 2, _ => rfl
  | 3, _ => rfl
  | 4, _ => rfl
  | 5, _ => rfl
  | 6, _ => rfl
theorem upCost_b (x : Int) : 0 ≤ upCost x ∧ upCost x ≤ 100 := by
  unfold upCost
  split
  · omega
  · split <;> omega
theorem riseCost_b (x : Int) : 0 ≤ riseCost x ∧ riseCost x ≤ 100 := by
  unfold riseCost
  rcases levels_cases x with ⟨_, h⟩ | ⟨_, h⟩ | ⟨_, h⟩ | ⟨_, h⟩ | ⟨_, _, _, _, h⟩ <;> rw [h] <;> decide
theorem prod_b {a b : Int} (h1 : 0 ≤ a) (h2 : a ≤ 16) (h3 : 0 ≤ b) (h4 : b ≤ 100) : 0 ≤ a * b ∧ a * b ≤ 1600 := by
  refine ⟨Int.mul_nonneg h1 h3, ?_⟩
  have := Int.mul_le_mul h2 h4 h3 (by omega)
  omega
def clCost (W S H m : Int) : Int := if spRight W S H = true ∧ 0 ≤ m ∧ m < S then riseCost W + (S - m - 1) * upCost W + H else 0
theorem i64_toM {m : Nat} (h : m ≤ 1000) : (i64 (m : Int)).toNat = m := by
  have := i64_toNat (m : Int)
  omega
set_option maxHeartbeats 4000000 in
theorem law01_To (ep sq : UInt32) (mt : Int) (w : World)  : Ctr Tryz.prog 78 [.agg #[U ep, U sq, I mt]] w (fun _ => False) (fun v _ => v = .agg #[U ep, U sq, I mt]) := by
  refine fn_start (N := 10) Tryz.func78 rfl rfl rfl fun ac hk => ?_
  have hs := St.start hk w
  refine wp_seq ?_
  refine wp_reg ?_
  refine s_box hs rfl rfl rfl fun ac ww g1 hs => ?_
  refine s_alloc hs ty59 rfl fun ac ww g2 hs => ?_
  refine s_end ?_
  replace hs := hs.sub (F' := [(1, _), (2, _)]) ⟨rfl, rfl, trivial⟩
  refine then_n ?_
  refine wp_seq ?_
  refine wp_reg ?_
  refine s_q hs (c_fld fl52_0 (hs.ev rfl)) rfl fun ac hs => ?_
  refine s_q hs (c_loadS un25 rfl (hs.ev rfl) (hs.seg (i := 1) rfl) rfl) rfl fun ac hs => ?_
  refine s_q hs (c_fld fl52_1 (hs.ev rfl)) rfl fun ac hs => ?_
  refine s_q hs (c_loadS un25 rfl (hs.ev rfl) (hs.seg (i := 1) rfl) rfl) rfl fun ac hs => ?_
  refine s_q hs (c_fld fl52_2 (hs.ev rfl)) rfl fun ac hs => ?_
  refine s_q hs (c_loadS un3 rfl (hs.ev rfl) (hs.seg (i := 1) rfl) rfl) rfl fun ac hs => ?_
  refine s_q hs (c_buildS ty59 bp59 (.cons (hs.ev rfl) (.cons (hs.ev rfl) (.cons (hs.ev rfl) .nil))) ⟨rfl, rfl, rfl, trivial⟩ (by simp [flatCells, Value.cells]) rfl) rfl fun ac hs => ?_
  refine s_storeW (i := 0) hs ty59 rfl rfl rfl (by rfl) (by rfl) (by simp) fun ww hs => ?_
  refine s_end ?_
  replace hs := hs.sub (F' := [(2, _)]) ⟨rfl, trivial⟩
  refine then_n ?_
  refine wp_ret ?_
  refine s_ret hs rfl (.cell (hs.tmp rfl) (run_loadA ty59 ag59 (hs.seg (i := 0) rfl) rfl (by rfl)) .nil) rfl ⟨_, rfl, hs.fr, ?_⟩
  rfl
set_option maxHeartbeats 4000000 in
theorem law09_To (d mt sn : Int) (ep sq : UInt32) (w : World)  : Ctr Tryz.prog 27 [.agg #[I d, U ep, U sq, I mt, I sn]] w (fun _ => False) (fun v _ => v = .agg #[I d, U ep, U sq, I mt, I sn]) := by
  refine fn_start (N := 11) Tryz.func27 rfl rfl rfl fun ac hk => ?_
  have hs := St.start hk w
  refine wp_seq ?_
  refine wp_reg ?_
  refine s_box hs rfl rfl rfl fun ac ww g1 hs => ?_
  refine s_alloc hs ty61 rfl fun ac ww g2 hs => ?_
  refine s_end ?_
  replace hs := hs.sub (F' := [(1, _), (2, _)]) ⟨rfl, rfl, trivial⟩
  refine then_n ?_
  refine wp_seq ?_
  refine wp_region_rg pmix 7 (by kernel_rfl) rfl hs ?_
  simp only [List.take_succ_cons, List.take_zero]
  refine rg_q (fun ac ww h => c_fld fl54_0 (h.ev rfl)) rfl ?_
  refine rg_q (fun ac ww h => c_loadS un3 rfl (h.ev rfl) (h.blk (hs.seg (i := 1) rfl)) rfl) rfl ?_
  refine rg_q (fun ac ww h => c_fld fl54_1 (h.ev rfl)) rfl ?_
  refine rg_q (fun ac ww h => c_loadA ty52 ag52 (h.ev rfl) (h.blk (hs.seg (i := 1) rfl)) rfl (by rfl)) rfl ?_
  refine rg_call fu78 (fun ac ww h => (.cons (h.ev rfl) .nil)) (fun ww hf => law01_To ep sq mt ww) rfl ?_
  refine rg_q (fun ac ww h => c_fld fl54_2 (h.ev rfl)) rfl ?_
  refine rg_q (fun ac ww h => c_loadS un3 rfl (h.ev rfl) (h.blk (hs.seg (i := 1) rfl)) rfl) rfl ?_
  refine rg_nil fun ac ww L' hf hfe hs => ?_
  simp only [List.drop_succ_cons, List.drop_zero]
  obtain rfl : L' = [] := hfe
  replace hs := hs.toL (List.nil_append _)
  refine s_q hs (c_buildS ty61 bp61 (.cons (hs.ev rfl) (.cons (hs.ev rfl) (.cons (hs.ev rfl) .nil))) ⟨rfl, rfl, rfl, trivial⟩ (by simp [flatCells, Value.cells]) rfl) rfl fun ac hs => ?_
  refine s_storeW (i := 0) hs ty61 rfl rfl rfl (by rfl) (by rfl) (by simp) fun ww hs => ?_
  refine s_end ?_
  replace hs := hs.sub (F' := [(2, _)]) ⟨rfl, trivial⟩
  refine then_n ?_
  refine wp_ret ?_
  refine s_ret hs rfl (.cell (hs.tmp rfl) (run_loadA ty61 ag61 (hs.seg (i := 0) rfl) rfl (by rfl)) .nil) rfl ⟨_, rfl, hs.fr, ?_⟩
  rfl
set_option maxHeartbeats 4000000 in
theorem proof_place (d mt sn : Int) (ep sq : UInt32) (w : World)  : Ctr Tryz.prog 77 [.agg #[I d, U ep, U sq, I mt, I sn]] w (fun _ => False) (fun v _ => v = .agg #[I d, U ep, U sq]) := by
  refine fn_start (N := 12) Tryz.func77 rfl rfl rfl fun ac hk => ?_
  have hs := St.start hk w
  refine wp_seq ?_
  refine wp_reg ?_
  refine s_box hs rfl rfl rfl fun ac ww g1 hs => ?_
  refine s_alloc hs ty165 rfl fun ac ww g2 hs => ?_
  refine s_end ?_
  replace hs := hs.sub (F' := [(1, _), (2, _)]) ⟨rfl, rfl, trivial⟩
  refine then_n ?_
  refine wp_seq ?_
  refine wp_reg ?_
  refine s_q hs (c_fld fl61_0 (hs.ev rfl)) rfl fun ac hs => ?_
  refine s_q hs (c_loadS un3 rfl (hs.ev rfl) (hs.seg (i := 1) rfl) rfl) rfl fun ac hs => ?_
  refine s_q hs (c_fld fl61_1 (hs.ev rfl)) rfl fun ac hs => ?_
  refine s_q hs (c_fld fl59_0 (hs.ev rfl)) rfl fun ac hs => ?_
  refine s_q hs (c_loadS un25 rfl (hs.ev rfl) (hs.seg (i := 1) rfl) rfl) rfl fun ac hs => ?_
  refine s_q hs (c_fld fl61_1 (hs.ev rfl)) rfl fun ac hs => ?_
  refine s_q hs (c_fld fl59_1 (hs.ev rfl)) rfl fun ac hs => ?_
  refine s_q hs (c_loadS un25 rfl (hs.ev rfl) (hs.seg (i := 1) rfl) rfl) rfl fun ac hs => ?_
  refine s_q hs (c_buildS ty165 bp165 (.cons (hs.ev rfl) (.cons (hs.ev rfl) (.cons (hs.ev rfl) .nil))) ⟨rfl, rfl, rfl, trivial⟩ (by simp [flatCells, Value.cells]) rfl) rfl fun ac hs => ?_
  refine s_storeW (i := 0) hs ty165 rfl rfl rfl (by rfl) (by rfl) (by simp) fun ww hs => ?_
  refine s_end ?_
  replace hs := hs.sub (F' := [(2, _)]) ⟨rfl, trivial⟩
  refine then_n ?_
  refine wp_ret ?_
  refine s_ret hs rfl (.cell (hs.tmp rfl) (run_loadA ty165 ag165 (hs.seg (i := 0) rfl) rfl (by rfl)) .nil) rfl ⟨_, rfl, hs.fr, ?_⟩
  rfl
set_option maxHeartbeats 4000000 in
theorem proof_Right (W S H d mt sn : Int) (ep sq : UInt32) (w : World)  : Ctr Tryz.prog 75 [.agg #[I W, I S, I H], .agg #[I d, U ep, U sq, I mt, I sn]] w (fun _ => False) (fun v _ => v = .bool (clRight W S H d mt sn ep sq)) := by
  refine fn_start (N := 60) Tryz.func75 rfl rfl rfl fun ac hk => ?_
  have hs := St.start hk w
  refine wp_seq ?_
  refine wp_reg ?_
  cases hR : spRight W S H
  · refine s_box hs rfl rfl rfl fun ac ww g2 hs => ?_
    refine s_box hs rfl rfl rfl fun ac ww g3 hs => ?_
    refine s_q hs (c_assign (hs.ev rfl)) rfl fun ac hs => ?_
    refine s_end ?_
    replace hs := hs.sub (F' := [(2, _), (3, _), (4, _)]) ⟨rfl, rfl, rfl, trivial⟩
    refine then_n ?_
    refine wp_seq ?_
    refine wp_region_rg pmix 53 (by kernel_rfl) rfl hs ?_
    simp only [List.take_succ_cons, List.take_zero]
    refine rg_q (fun ac ww h => c_loadW ty33 ag33 (h.ev rfl) (h.blk (hs.seg (i := 1) rfl)) (by rfl)) rfl ?_
    refine rg_call fu63 (fun ac ww h => (.cons (h.ev rfl) .nil)) (fun ww hf => (hR ▸ spring_Right W S H ww)) rfl ?_
    refine rg_q (fun ac ww h => c_move (h.ev rfl)) rfl ?_
    refine rg_no rfl rfl rfl rfl ?_
    refine rg_no rfl rfl rfl rfl ?_
    refine rg_no rfl rfl rfl rfl ?_
    refine rg_q (fun ac ww h => c_pick (h.ev rfl) (h.ev rfl) (h.ev rfl)) rfl ?_
    refine rg_q (fun ac ww h => c_move (h.ev rfl)) rfl ?_
    refine rg_no rfl rfl rfl rfl ?_
    refine rg_no rfl rfl rfl rfl ?_
    refine rg_no rfl rfl rfl rfl ?_
    refine rg_no rfl rfl rfl rfl ?_
    refine rg_no rfl rfl rfl rfl ?_
    refine rg_q (fun ac ww h => c_pick (h.ev rfl) (h.ev rfl) (h.ev rfl)) rfl ?_
    refine rg_q (fun ac ww h => c_move (h.ev rfl)) rfl ?_
    refine rg_no rfl rfl rfl rfl ?_
    refine rg_no rfl rfl rfl rfl ?_
    refine rg_no rfl rfl rfl rfl ?_
    refine rg_q (fun ac ww h => c_pick (h.ev rfl) (h.ev rfl) (h.ev rfl)) rfl ?_
    refine rg_q (fun ac ww h => c_move (h.ev rfl)) rfl ?_
    refine rg_no rfl rfl rfl rfl ?_
    refine rg_no rfl rfl rfl rfl ?_
    refine rg_no rfl rfl rfl rfl ?_
    refine rg_no rfl rfl rfl rfl ?_
    refine rg_no rfl rfl rfl rfl ?_
    refine rg_q (fun ac ww h => c_pick (h.ev rfl) (h.ev rfl) (h.ev rfl)) rfl ?_
    refine rg_q (fun ac ww h => c_move (h.ev rfl)) rfl ?_
    refine rg_no rfl rfl rfl rfl ?_
    refine rg_no rfl rfl rfl rfl ?_
    refine rg_no rfl rfl rfl rfl ?_
    refine rg_no rfl rfl rfl rfl ?_
    refine rg_q (fun ac ww h => c_pick (h.ev rfl) (h.ev rfl) (h.ev rfl)) rfl ?_
    refine rg_q (fun ac ww h => c_move (h.ev rfl)) rfl ?_
    refine rg_no rfl rfl rfl rfl ?_
    refine rg_no rfl rfl rfl rfl ?_
    refine rg_no rfl rfl rfl rfl ?_
    refine rg_no rfl rfl rfl rfl ?_
    refine rg_no rfl rfl rfl rfl ?_
    refine rg_no rfl rfl rfl rfl ?_
    refine rg_no rfl rfl rfl rfl ?_
    refine rg_q (fun ac ww h => c_pick (h.ev rfl) (h.ev rfl) (h.ev rfl)) rfl ?_
    refine rg_q (fun ac ww h => c_move (h.ev rfl)) rfl ?_
    refine rg_no rfl rfl rfl rfl ?_
    refine rg_no rfl rfl rfl rfl ?_
    refine rg_no rfl rfl rfl rfl ?_
    refine rg_no rfl rfl rfl rfl ?_
    refine rg_q (fun ac ww h => c_pick (h.ev rfl) (h.ev rfl) (h.ev rfl)) rfl ?_
    refine rg_q (fun ac ww h => c_move (h.ev rfl)) rfl ?_
    refine rg_no rfl rfl rfl rfl ?_
    refine rg_no rfl rfl rfl rfl ?_
    refine rg_no rfl rfl rfl rfl ?_
    refine rg_no rfl rfl rfl rfl ?_
    refine rg_no rfl rfl rfl rfl ?_
    refine rg_nil fun ac ww L' hf hfe hs => ?_
    simp only [List.drop_succ_cons, List.drop_zero]
    obtain rfl : L' = [] := hfe
    replace hs := hs.toL (List.nil_append _)
    refine s_no hs rfl rfl rfl rfl fun ac hs => ?_
    refine s_q hs (c_pick (hs.ev rfl) (hs.ev rfl) (hs.ev rfl)) rfl fun ac hs => ?_
    refine s_q hs (c_assign (hs.ev rfl)) rfl fun ac hs => ?_
    refine s_end ?_
    replace hs := hs.sub (F' := [(4, _)]) ⟨rfl, trivial⟩
    refine then_n ?_
    refine wp_ret ?_
    refine s_ret hs rfl (.tmp (hs.tmp rfl) .nil) rfl ⟨_, rfl, hs.fr, ?_⟩
    show Value.bool _ = Value.bool _
    rw [clRight, hR]
    rfl
  · refine s_box hs rfl rfl rfl fun ac ww g2 hs => ?_
    obtain ⟨hlv, hS1, hS16, hH0, hH6⟩ := spRight_iff.1 hR
    obtain ⟨Hn, hHn⟩ := int_of hH0
    subst hHn
    refine s_box hs rfl rfl rfl fun ac ww g3 hs => ?_
    refine s_q hs (c_assign (hs.ev rfl)) rfl fun ac hs => ?_
    refine s_end ?_
    replace hs := hs.sub (F' := [(2, _), (3, _), (4, _)]) ⟨rfl, rfl, rfl, trivial⟩
    refine then_n ?_
    refine wp_seq ?_
    refine wp_region_rg pmix 53 (by kernel_rfl) rfl hs ?_
    simp only [List.take_succ_cons, List.take_zero]
    refine rg_q (fun ac ww h => c_loadW ty33 ag33 (h.ev rfl) (h.blk (hs.seg (i := 1) rfl)) (by rfl)) rfl ?_
    refine rg_call fu63 (fun ac ww h => (.cons (h.ev rfl) .nil)) (fun ww hf => (hR ▸ spring_Right W S Hn ww)) rfl ?_
    refine rg_q (fun ac ww h => c_move (h.ev rfl)) rfl ?_
    refine rg_g rfl rfl (fun hg ac ww h => c_fld fl61_0 (h.ev rfl)) rfl ?_
    refine rg_g rfl rfl (fun hg ac ww h => c_loadS un3 rfl (gev (h.ev rfl) hg) (h.blk (hs.seg (i := 0) rfl)) rfl) rfl ?_
    refine rg_g rfl rfl (fun hg ac ww h => c_geqI (gev (h.ev rfl) hg) (h.ev rfl)) rfl ?_
    refine rg_q (fun ac ww h => c_and (h.ev rfl) (h.ev rfl)) rfl ?_
    refine rg_q (fun ac ww h => c_move (h.ev rfl)) rfl ?_
    refine rg_g rfl rfl (fun hg ac ww h => c_fld fl61_0 (h.ev rfl)) rfl ?_
    refine rg_g rfl rfl (fun hg ac ww h => c_loadS un3 rfl (gev (h.ev rfl) hg) (h.blk (hs.seg (i := 0) rfl)) rfl) rfl ?_
    refine rg_g rfl rfl (fun hg ac ww h => c_fld fl33_0 (h.ev rfl)) rfl ?_
    refine rg_g rfl rfl (fun hg ac ww h => c_loadS un3 rfl (gev (h.ev rfl) hg) (h.blk (hs.seg (i := 1) rfl)) rfl) rfl ?_
    refine rg_g rfl rfl (fun hg ac ww h => c_lssI (gev (h.ev rfl) hg) (gev (h.ev rfl) hg)) rfl ?_
    refine rg_q (fun ac ww h => c_and (h.ev rfl) (h.ev rfl)) rfl ?_
    refine rg_q (fun ac ww h => c_move (h.ev rfl)) rfl ?_
    refine rg_g rfl rfl (fun hg ac ww h => c_fld fl61_2 (h.ev rfl)) rfl ?_
    refine rg_g rfl rfl (fun hg ac ww h => c_loadS un3 rfl (gev (h.ev rfl) hg) (h.blk (hs.seg (i := 0) rfl)) rfl) rfl ?_
    refine rg_g rfl rfl (fun hg ac ww h => c_geqI (gev (h.ev rfl) hg) (h.ev rfl)) rfl ?_
    refine rg_q (fun ac ww h => c_and (h.ev rfl) (h.ev rfl)) rfl ?_
    refine rg_q (fun ac ww h => c_move (h.ev rfl)) rfl ?_
    refine rg_g rfl rfl (fun hg ac ww h => c_fld fl61_2 (h.ev rfl)) rfl ?_
    refine rg_g rfl rfl (fun hg ac ww h => c_loadS un3 rfl (gev (h.ev rfl) hg) (h.blk (hs.seg (i := 0) rfl)) rfl) rfl ?_
    refine rg_g rfl rfl (fun hg ac ww h => c_fld fl33_0 (h.ev rfl)) rfl ?_
    refine rg_g rfl rfl (fun hg ac ww h => c_loadS un3 rfl (gev (h.ev rfl) hg) (h.blk (hs.seg (i := 1) rfl)) rfl) rfl ?_
    refine rg_g rfl rfl (fun hg ac ww h => c_lssI (gev (h.ev rfl) hg) (gev (h.ev rfl) hg)) rfl ?_
    refine rg_q (fun ac ww h => c_and (h.ev rfl) (h.ev rfl)) rfl ?_
    refine rg_q (fun ac ww h => c_move (h.ev rfl)) rfl ?_
    refine rg_g rfl rfl (fun hg ac ww h => c_fld fl61_1 (h.ev rfl)) rfl ?_
    refine rg_g rfl rfl (fun hg ac ww h => c_fld fl59_0 (gev (h.ev rfl) hg)) rfl ?_
    refine rg_g rfl rfl (fun hg ac ww h => c_loadS un25 rfl (gev (h.ev rfl) hg) (h.blk (hs.seg (i := 0) rfl)) rfl) rfl ?_
    refine rg_g rfl rfl (fun hg ac ww h => c_leqU (gev (h.ev rfl) hg) (RC.ev (v := U 65536) h rfl)) rfl ?_
    refine rg_q (fun ac ww h => c_and (h.ev rfl) (h.ev rfl)) rfl ?_
    refine rg_q (fun ac ww h => c_move (h.ev rfl)) rfl ?_
    refine rg_g rfl rfl (fun hg ac ww h => c_fld fl61_1 (h.ev rfl)) rfl ?_
    refine rg_g rfl rfl (fun hg ac ww h => c_fld fl59_1 (gev (h.ev rfl) hg)) rfl ?_
    refine rg_g rfl rfl (fun hg ac ww h => c_loadS un25 rfl (gev (h.ev rfl) hg) (h.blk (hs.seg (i := 0) rfl)) rfl) rfl ?_
    refine rg_g rfl rfl (fun hg ac ww h => c_fld fl33_2 (h.ev rfl)) rfl ?_
    refine rg_g rfl rfl (fun hg ac ww h => c_loadS un3 rfl (gev (h.ev rfl) hg) (h.blk (hs.seg (i := 1) rfl)) rfl) rfl ?_
    refine rg_g rfl rfl (fun hg ac ww h => c_shlU (n := Hn) (RC.ev (v := U 1) h rfl) (gev (h.ev rfl) hg) (by omega)) rfl ?_
    refine rg_g rfl rfl (fun hg ac ww h => c_to (c_lssU (gev (h.ev rfl) hg) (gev (h.ev rfl) hg)) ((congrArg (fun n : Nat => Value.bool (decide (sq.toNat < n))) (shl1 (by omega))))) rfl ?_
    refine rg_q (fun ac ww h => c_and (h.ev rfl) (h.ev rfl)) rfl ?_
    refine rg_q (fun ac ww h => c_move (h.ev rfl)) rfl ?_
    refine rg_g rfl rfl (fun hg ac ww h => c_fld fl61_1 (h.ev rfl)) rfl ?_
    refine rg_g rfl rfl (fun hg ac ww h => c_fld fl59_2 (gev (h.ev rfl) hg)) rfl ?_
    refine rg_g rfl rfl (fun hg ac ww h => c_loadS un3 rfl (gev (h.ev rfl) hg) (h.blk (hs.seg (i := 0) rfl)) rfl) rfl ?_
    refine rg_g rfl rfl (fun hg ac ww h => c_geqI (gev (h.ev rfl) hg) (h.ev rfl)) rfl ?_
    refine rg_q (fun ac ww h => c_and (h.ev rfl) (h.ev rfl)) rfl ?_
    refine rg_q (fun ac ww h => c_move (h.ev rfl)) rfl ?_
    refine rg_g rfl rfl (fun hg ac ww h => c_fld fl61_1 (h.ev rfl)) rfl ?_
    refine rg_g rfl rfl (fun hg ac ww h => c_fld fl59_2 (gev (h.ev rfl) hg)) rfl ?_
    refine rg_g rfl rfl (fun hg ac ww h => c_loadS un3 rfl (gev (h.ev rfl) hg) (h.blk (hs.seg (i := 0) rfl)) rfl) rfl ?_
    refine rg_g rfl rfl (fun hg ac ww h => c_fld fl33_1 (h.ev rfl)) rfl ?_
    refine rg_g rfl rfl (fun hg ac ww h => c_loadS un3 rfl (gev (h.ev rfl) hg) (h.blk (hs.seg (i := 1) rfl)) rfl) rfl ?_
    refine rg_nil fun ac ww L' hf hfe hs => ?_
    simp only [List.drop_succ_cons, List.drop_zero]
    obtain rfl : L' = [] := hfe
    replace hs := hs.toL (List.nil_append _)
    refine s_g hs rfl rfl (fun hg => c_lssI (gev (hs.ev rfl) hg) (gev (hs.ev rfl) hg)) rfl fun ac hs => ?_
    refine s_q hs (c_and (hs.ev rfl) (hs.ev rfl)) rfl fun ac hs => ?_
    refine s_q hs (c_assign (hs.ev rfl)) rfl fun ac hs => ?_
    refine s_end ?_
    replace hs := hs.sub (F' := [(4, _)]) ⟨rfl, trivial⟩
    refine then_n ?_
    refine wp_ret ?_
    refine s_ret hs rfl (.tmp (hs.tmp rfl) .nil) rfl ⟨_, rfl, hs.fr, ?_⟩
    show Value.bool _ = Value.bool _
    rw [clRight, hR]
    rfl
set_option maxHeartbeats 4000000 in
theorem ref09_Right (W S H d mt sn : Int) (ep sq : UInt32) (w : World)  : Ctr Tryz.prog 28 [.agg #[I W, I S, I H], .agg #[I d, U ep, U sq, I mt, I sn]] w (fun _ => False) (fun v _ => v = .bool (clRight W S H d mt sn ep sq)) := by
  refine fn_start (N := 60) Tryz.func28 rfl rfl rfl fun ac hk => ?_
  have hs := St.start hk w
  refine wp_seq ?_
  refine wp_reg ?_
  refine s_box hs rfl rfl rfl fun ac ww g2 hs => ?_
  refine s_box hs rfl rfl rfl fun ac ww g3 hs => ?_
  refine s_q hs (c_assign (hs.ev rfl)) rfl fun ac hs => ?_
  refine s_end ?_
  replace hs := hs.sub (F' := [(2, _), (3, _), (4, _)]) ⟨rfl, rfl, rfl, trivial⟩
  refine then_n ?_
  refine wp_seq ?_
  refine wp_seq ?_
  refine wp_reg ?_
  refine s_q hs (c_loadW ty23 ag23 (hs.ev rfl) (hs.seg (i := 1) rfl) (by rfl)) rfl fun ac hs => ?_
  refine s_call hs fu61 (.cons (hs.ev rfl) .nil) (ref08_Right W S H _) rfl fun ac ww v6 hf hp hs => ?_
  obtain rfl := hp
  replace hs := hs [] (.nil _ _)
  refine s_q hs (c_not (hs.ev rfl)) rfl fun ac hs => ?_
  refine s_q hs (c_move (hs.ev rfl)) rfl fun ac hs => ?_
  refine s_g hs rfl rfl (fun hg => c_fld fl54_0 (hs.ev rfl)) rfl fun ac hs => ?_
  refine s_g hs rfl rfl (fun hg => c_loadS un3 rfl (gev (hs.ev rfl) hg) (hs.seg (i := 0) rfl) rfl) rfl fun ac hs => ?_
  refine s_g hs rfl rfl (fun hg => c_lssI (gev (hs.ev rfl) hg) (hs.ev rfl)) rfl fun ac hs => ?_
  refine s_q hs (c_or (hs.ev rfl) (hs.ev rfl)) rfl fun ac hs => ?_
  refine s_q hs (c_move (hs.ev rfl)) rfl fun ac hs => ?_
  refine s_g hs rfl rfl (fun hg => c_fld fl54_0 (hs.ev rfl)) rfl fun ac hs => ?_
  refine s_g hs rfl rfl (fun hg => c_loadS un3 rfl (gev (hs.ev rfl) hg) (hs.seg (i := 0) rfl) rfl) rfl fun ac hs => ?_
  refine s_g hs rfl rfl (fun hg => c_fld fl23_0 (hs.ev rfl)) rfl fun ac hs => ?_
  refine s_g hs rfl rfl (fun hg => c_loadS un3 rfl (gev (hs.ev rfl) hg) (hs.seg (i := 1) rfl) rfl) rfl fun ac hs => ?_
  refine s_g hs rfl rfl (fun hg => c_geqI (gev (hs.ev rfl) hg) (gev (hs.ev rfl) hg)) rfl fun ac hs => ?_
  refine s_q hs (c_or (hs.ev rfl) (hs.ev rfl)) rfl fun ac hs => ?_
  refine s_q hs (c_move (hs.ev rfl)) rfl fun ac hs => ?_
  refine s_g hs rfl rfl (fun hg => c_fld fl54_2 (hs.ev rfl)) rfl fun ac hs => ?_
  refine s_g hs rfl rfl (fun hg => c_loadS un3 rfl (gev (hs.ev rfl) hg) (hs.seg (i := 0) rfl) rfl) rfl fun ac hs => ?_
  refine s_g hs rfl rfl (fun hg => c_lssI (gev (hs.ev rfl) hg) (hs.ev rfl)) rfl fun ac hs => ?_
  refine s_q hs (c_or (hs.ev rfl) (hs.ev rfl)) rfl fun ac hs => ?_
  refine s_q hs (c_move (hs.ev rfl)) rfl fun ac hs => ?_
  refine s_g hs rfl rfl (fun hg => c_fld fl54_2 (hs.ev rfl)) rfl fun ac hs => ?_
  refine s_g hs rfl rfl (fun hg => c_loadS un3 rfl (gev (hs.ev rfl) hg) (hs.seg (i := 0) rfl) rfl) rfl fun ac hs => ?_
  refine s_g hs rfl rfl (fun hg => c_fld fl23_0 (hs.ev rfl)) rfl fun ac hs => ?_
  refine s_g hs rfl rfl (fun hg => c_loadS un3 rfl (gev (hs.ev rfl) hg) (hs.seg (i := 1) rfl) rfl) rfl fun ac hs => ?_
  refine s_g hs rfl rfl (fun hg => c_geqI (gev (hs.ev rfl) hg) (gev (hs.ev rfl) hg)) rfl fun ac hs => ?_
  refine s_q hs (c_or (hs.ev rfl) (hs.ev rfl)) rfl fun ac hs => ?_
  refine s_q hs (c_move (hs.ev rfl)) rfl fun ac hs => ?_
  refine s_g hs rfl rfl (fun hg => c_fld fl54_1 (hs.ev rfl)) rfl fun ac hs => ?_
  refine s_g hs rfl rfl (fun hg => c_fld fl52_0 (gev (hs.ev rfl) hg)) rfl fun ac hs => ?_
  refine s_g hs rfl rfl (fun hg => c_loadS un25 rfl (gev (hs.ev rfl) hg) (hs.seg (i := 0) rfl) rfl) rfl fun ac hs => ?_
  refine s_g hs rfl rfl (fun hg => c_gtrU (gev (hs.ev rfl) hg) (St.ev (v := U 65536) hs rfl)) rfl fun ac hs => ?_
  refine s_q hs (c_or (hs.ev rfl) (hs.ev rfl)) rfl fun ac hs => ?_
  refine s_end ?_
  replace hs := hs.sub (F' := [(2, _), (3, _), (4, _), (37, _)]) ⟨rfl, rfl, rfl, rfl, trivial⟩
  refine then_n ?_
  refine s_cond hs rfl (fun hc => ?_) (fun hc => ?_)
  · simp only [Bool.or_eq_true, decide_eq_true_eq, Bool.not_eq_true'] at hc
    have hno : clRight W S H d mt sn ep sq = false := by
      rw [← Bool.not_eq_true, clRight_iff]
      rintro ⟨h1, h2, h3, h4, h5, h6, _⟩
      rw [h1] at hc
      simp only [Bool.true_eq_false, false_or] at hc
      omega
    refine wp_seq ?_
    refine wp_reg ?_
    refine s_q hs (c_assign (hs.ev rfl)) rfl fun ac hs => ?_
    refine s_end ?_
    replace hs := hs.sub (F' := [(2, _), (3, _), (4, _)]) ⟨rfl, rfl, rfl, trivial⟩
    refine then_n ?_
    refine wp_ret ?_
    refine then_r ?_
    refine s_ret hs rfl (.tmp (hs.tmp rfl) .nil) rfl ⟨_, rfl, hs.fr, ?_⟩
    show Value.bool false = _
    rw [hno]
  · simp only [Bool.or_eq_false_iff, decide_eq_false_iff_not, Bool.not_eq_false'] at hc
    obtain ⟨⟨⟨⟨⟨hR, hc1⟩, hc2⟩, hc3⟩, hc4⟩, hc5⟩ := hc
    obtain ⟨hlv, hS1, hS16, hH0, hH6⟩ := spRight_iff.1 hR
    obtain ⟨Hn, hHn⟩ := int_of hH0
    subst hHn
    have hp64 := pow64 (lv := Hn) (by omega)
    refine wp_skip ?_
    refine then_n ?_
    refine wp_seq ?_
    refine wp_region_rg pmix 20 (by kernel_rfl) rfl hs ?_
    simp only [List.take_succ_cons, List.take_zero]
    refine rg_q (fun ac ww h => c_fld fl54_1 (h.ev rfl)) rfl ?_
    refine rg_q (fun ac ww h => c_fld fl52_1 (h.ev rfl)) rfl ?_
    refine rg_q (fun ac ww h => c_loadS un25 rfl (h.ev rfl) (h.blk (hs.seg (i := 0) rfl)) rfl) rfl ?_
    refine rg_q (fun ac ww h => c_cvUV un25 un124 (h.ev rfl)) rfl ?_
    refine rg_q (fun ac ww h => c_loadW ty23 ag23 (h.ev rfl) (h.blk (hs.seg (i := 1) rfl)) (by rfl)) rfl ?_
    refine rg_call fu18 (fun ac ww h => (.cons (h.ev rfl) .nil)) (fun ww hf => ref08_Many W S Hn (by omega) ww) rfl ?_
    refine rg_q (fun ac ww h => c_cvIV un3 un124 (h.ev rfl)) rfl ?_
    refine rg_q (fun ac ww h => c_to (c_lssV (h.ev rfl) (h.ev rfl)) ((congrArg (fun b : Bool => Value.bool b) (show decide (sq.toUInt64.toNat < (i64 ((2 ^ Hn : Nat) : Int)).toNat) = decide (sq.toNat < 2 ^ Hn) by rw [i64_toM (by omega)]; simp)))) rfl ?_
    refine rg_q (fun ac ww h => c_move (h.ev rfl)) rfl ?_
    refine rg_g rfl rfl (fun hg ac ww h => c_fld fl54_1 (h.ev rfl)) rfl ?_
    refine rg_g rfl rfl (fun hg ac ww h => c_fld fl52_2 (gev (h.ev rfl) hg)) rfl ?_
    refine rg_g rfl rfl (fun hg ac ww h => c_loadS un3 rfl (gev (h.ev rfl) hg) (h.blk (hs.seg (i := 0) rfl)) rfl) rfl ?_
    refine rg_g rfl rfl (fun hg ac ww h => c_geqI (gev (h.ev rfl) hg) (h.ev rfl)) rfl ?_
    refine rg_q (fun ac ww h => c_and (h.ev rfl) (h.ev rfl)) rfl ?_
    refine rg_q (fun ac ww h => c_move (h.ev rfl)) rfl ?_
    refine rg_g rfl rfl (fun hg ac ww h => c_fld fl54_1 (h.ev rfl)) rfl ?_
    refine rg_g rfl rfl (fun hg ac ww h => c_fld fl52_2 (gev (h.ev rfl) hg)) rfl ?_
    refine rg_g rfl rfl (fun hg ac ww h => c_loadS un3 rfl (gev (h.ev rfl) hg) (h.blk (hs.seg (i := 0) rfl)) rfl) rfl ?_
    refine rg_g rfl rfl (fun hg ac ww h => c_fld fl23_1 (h.ev rfl)) rfl ?_
    refine rg_g rfl rfl (fun hg ac ww h => c_loadS un3 rfl (gev (h.ev rfl) hg) (h.blk (hs.seg (i := 1) rfl)) rfl) rfl ?_
    refine rg_nil fun ac ww L' hf hfe hs => ?_
    simp only [List.drop_succ_cons, List.drop_zero]
    obtain rfl : L' = [] := hfe
    replace hs := hs.toL (List.nil_append _)
    refine s_g hs rfl rfl (fun hg => c_lssI (gev (hs.ev rfl) hg) (gev (hs.ev rfl) hg)) rfl fun ac hs => ?_
    refine s_q hs (c_and (hs.ev rfl) (hs.ev rfl)) rfl fun ac hs => ?_
    refine s_q hs (c_assign (hs.ev rfl)) rfl fun ac hs => ?_
    refine s_end ?_
    replace hs := hs.sub (F' := [(4, _)]) ⟨rfl, trivial⟩
    refine then_n ?_
    refine wp_ret ?_
    refine s_ret hs rfl (.tmp (hs.tmp rfl) .nil) rfl ⟨_, rfl, hs.fr, ?_⟩
    show Value.bool _ = Value.bool _
    rw [clRight, hR, decide_eq_true (show 0 ≤ d by omega), decide_eq_true (show d < W by omega), decide_eq_true (show 0 ≤ sn by omega), decide_eq_true (show sn < W by omega), decide_eq_true (show ep.toNat ≤ (65536 : UInt32).toNat by omega)]
    rfl
end Go.Proofs.YtklajbdbnnceiaaGreat
end

section
/- What claims cost. -/
set_option linter.unusedSimpArgs false
set_option linter.unusedVariables false
set_option maxRecDepth 100000
namespace Go.Proofs.YtklajbdbnnceiaaGreat
open Go Go.Fw
open Sha
set_option maxHeartbeats 4000000 in
theorem proof_Cost (W S H m : Int) (w : World)  : Ctr Tryz.prog 73 [.agg #[I W, I S, I H], I m] w (fun _ => False) (fun v _ => v = I (clCost W S H m)) := by
  refine fn_start (N := 34) Tryz.func73 rfl rfl rfl fun ac hk => ?_
  have hs := St.start hk w
  refine wp_seq ?_
  refine wp_reg ?_
  refine s_box hs rfl rfl rfl fun ac ww g2 hs => ?_
  refine s_q hs (c_assign (hs.ev rfl)) rfl fun ac hs => ?_
  refine s_end ?_
  replace hs := hs.sub (F' := [(1, _), (2, _), (4, _)]) ⟨rfl, rfl, rfl, trivial⟩
  refine then_n ?_
  refine wp_seq ?_
  refine wp_seq ?_
  refine wp_reg ?_
  refine s_q hs (c_loadW ty33 ag33 (hs.ev rfl) (hs.seg (i := 0) rfl) (by rfl)) rfl fun ac hs => ?_
  refine s_call hs fu63 (.cons (hs.ev rfl) .nil) (spring_Right W S H _) rfl fun ac ww v6 hf hp hs => ?_
  obtain rfl := hp
  replace hs := hs [] (.nil _ _)
  refine s_q hs (c_not (hs.ev rfl)) rfl fun ac hs => ?_
  refine s_q hs (c_move (hs.ev rfl)) rfl fun ac hs => ?_
  refine s_g hs rfl rfl (fun hg => c_move (hs.ev rfl)) rfl fun ac hs => ?_
  refine s_g hs rfl rfl (fun hg => c_lssI (gev (hs.ev rfl) hg) (hs.ev rfl)) rfl fun ac hs => ?_
  refine s_q hs (c_or (hs.ev rfl) (hs.ev rfl)) rfl fun ac hs => ?_
  refine s_q hs (c_move (hs.ev rfl)) rfl fun ac hs => ?_
  refine s_g hs rfl rfl (fun hg => c_move (hs.ev rfl)) rfl fun ac hs => ?_
  refine s_g hs rfl rfl (fun hg => c_fld fl33_1 (hs.ev rfl)) rfl fun ac hs => ?_
  refine s_g hs rfl rfl (fun hg => c_loadS un3 rfl (gev (hs.ev rfl) hg) (hs.seg (i := 0) rfl) rfl) rfl fun ac hs => ?_
  refine s_g hs rfl rfl (fun hg => c_geqI (gev (hs.ev rfl) hg) (gev (hs.ev rfl) hg)) rfl fun ac hs => ?_
  refine s_q hs (c_or (hs.ev rfl) (hs.ev rfl)) rfl fun ac hs => ?_
  refine s_end ?_
  replace hs := hs.sub (F' := [(1, _), (2, _), (4, _), (17, _)]) ⟨rfl, rfl, rfl, rfl, trivial⟩
  refine then_n ?_
  refine s_cond hs rfl (fun hc => ?_) (fun hc => ?_)
  · simp only [Bool.or_eq_true, decide_eq_true_eq, Bool.not_eq_true'] at hc
    have hno : ¬ (spRight W S H = true ∧ 0 ≤ m ∧ m < S) := by
      rintro ⟨h1, h2⟩
      rw [h1] at hc
      simp only [Bool.true_eq_false, false_or] at hc
      omega
    refine wp_seq ?_
    refine wp_reg ?_
    refine s_q hs (c_assign (hs.ev rfl)) rfl fun ac hs => ?_
    refine s_end ?_
    replace hs := hs.sub (F' := [(1, _), (2, _), (4, _)]) ⟨rfl, rfl, rfl, trivial⟩
    refine then_n ?_
    refine wp_ret ?_
    refine then_r ?_
    refine s_ret hs rfl (.tmp (hs.tmp rfl) .nil) rfl ⟨_, rfl, hs.fr, ?_⟩
    show I _ = I _
    rw [clCost, if_neg hno]
  · simp only [Bool.or_eq_false_iff, decide_eq_false_iff_not, Bool.not_eq_false'] at hc
    obtain ⟨⟨hR, hm0⟩, hmS⟩ := hc
    obtain ⟨hlv, hS1, hS16, hH0, hH6⟩ := spRight_iff.1 hR
    have hub := upCost_b W
    have hrb := riseCost_b W
    have hpd := prod_b (a := S - m - 1) (b := upCost W) (by omega) (by omega) hub.1 hub.2
    refine wp_skip ?_
    refine then_n ?_
    refine wp_seq ?_
    refine wp_region_rg pmix 15 (by kernel_rfl) rfl hs ?_
    simp only [List.take_succ_cons, List.take_zero]
    refine rg_q (fun ac ww h => c_fld fl33_0 (h.ev rfl)) rfl ?_
    refine rg_q (fun ac ww h => c_loadS un3 rfl (h.ev rfl) (h.blk (hs.seg (i := 0) rfl)) rfl) rfl ?_
    refine rg_call fu112 (fun ac ww h => (.cons (h.ev rfl) .nil)) (fun ww hf => ladder_RiseCost W ww) rfl ?_
    refine rg_q (fun ac ww h => c_fld fl33_1 (h.ev rfl)) rfl ?_
    refine rg_q (fun ac ww h => c_loadS un3 rfl (h.ev rfl) (h.blk (hs.seg (i := 0) rfl)) rfl) rfl ?_
    refine rg_q (fun ac ww h => c_move (h.ev rfl)) rfl ?_
    refine rg_q (fun ac ww h => c_subI (h.ev rfl) (h.ev rfl) (by omega) (by omega)) rfl ?_
    refine rg_q (fun ac ww h => c_subI (h.ev rfl) (h.ev rfl) (by omega) (by omega)) rfl ?_
    refine rg_q (fun ac ww h => c_fld fl33_0 (h.ev rfl)) rfl ?_
    refine rg_q (fun ac ww h => c_loadS un3 rfl (h.ev rfl) (h.blk (hs.seg (i := 0) rfl)) rfl) rfl ?_
    refine rg_call fu113 (fun ac ww h => (.cons (h.ev rfl) .nil)) (fun ww hf => ladder_UpCost W ww) rfl ?_
    refine rg_q (fun ac ww h => c_mulI (h.ev rfl) (h.ev rfl) (by omega) (by omega)) rfl ?_
    refine rg_q (fun ac ww h => c_addI (h.ev rfl) (h.ev rfl) (by omega) (by omega)) rfl ?_
    refine rg_q (fun ac ww h => c_fld fl33_2 (h.ev rfl)) rfl ?_
    refine rg_q (fun ac ww h => c_loadS un3 rfl (h.ev rfl) (h.blk (hs.seg (i := 0) rfl)) rfl) rfl ?_
    refine rg_nil fun ac ww L' hf hfe hs => ?_
    simp only [List.drop_succ_cons, List.drop_zero]
    obtain rfl : L' = [] := hfe
    replace hs := hs.toL (List.nil_append _)
    refine s_q hs (c_addI (hs.ev rfl) (hs.ev rfl) (by omega) (by omega)) rfl fun ac hs => ?_
    refine s_q hs (c_assign (hs.ev rfl)) rfl fun ac hs => ?_
    refine s_end ?_
    replace hs := hs.sub (F' := [(4, _)]) ⟨rfl, trivial⟩
    refine then_n ?_
    refine wp_ret ?_
    refine s_ret hs rfl (.tmp (hs.tmp rfl) .nil) rfl ⟨_, rfl, hs.fr, ?_⟩
    show I _ = I _
    rw [clCost, if_pos ⟨hR, by omega, by omega⟩]
end Go.Proofs.YtklajbdbnnceiaaGreat
end

section
/- What a node shows and what it rises to, whatever is handed in. -/
set_option linter.unusedSimpArgs false
set_option linter.unusedVariables false
set_option maxRecDepth 100000
namespace Go.Proofs.YtklajbdbnnceiaaGreat
open Go Go.Fw
open Sha
def okS (r x id : Int) : Bool := rightB r x && decide (0 ≤ id) && decide (id < x)
theorem okS_spec {r x id : Int} (h : okS r x id = true) : ∃ lv W q : Nat, lv ≤ 3 ∧ W = 2 ^ lv ∧ x = (W : Int) ∧ levels x = lv ∧ id = (q : Int) ∧ q < W ∧ rightB r W = true := by
  unfold okS at h
  simp only [Bool.and_eq_true, decide_eq_true_eq] at h
  obtain ⟨lv, W, h1, h2, rfl, h4⟩ := right_lv h.1.1
  exact ⟨lv, W, id.toNat, h1, h2, rfl, h4, by omega, by omega, h.1.1⟩
theorem xor_beside (q : Nat) : q ^^^ 1 = besideI q := by
  have h1 : (q ^^^ 1) / 2 = q / 2 := by rw [Nat.xor_div_two]; simp
  have h2 : (q ^^^ 1) % 2 = (q + 1) % 2 := by
    have h := Nat.testBit_xor q 1 0
    simp only [Nat.testBit_zero] at h
    have h3 : ((q ^^^ 1) % 2 = 1) ↔ ¬ (q % 2 = 1) := by
      by_cases e : q % 2 = 1 <;> simp [e] at h ⊢ <;> omega
    omega
  unfold besideI
  split <;> omega
theorem beside_in {q n k : Nat} (h : q < 2 ^ n) (hk : k < n) : besideI (q / 2 ^ k) < 2 ^ (n - k) := by
  have h1 : q / 2 ^ k < 2 ^ (n - k) := by
    rw [Nat.div_lt_iff_lt_mul (Nat.two_pow_pos k), ← Nat.pow_add, show n - k + k = n by omega]
    exact h
  obtain ⟨h2, hh⟩ : ∃ h2, 2 ^ (n - k) = 2 * h2 := ⟨2 ^ (n - k - 1), by rw [show n - k = n - k - 1 + 1 by omega, Nat.pow_succ]; simp; omega⟩
  rw [hh] at h1 ⊢
  generalize q / 2 ^ k = z at h1 ⊢
  unfold besideI
  split <;> omega
/-- What is shown, and why not. -/
def shL (d : Int) (ep sq : UInt32) (r : Int) (e : List UInt8) (x id : Int) : List UInt8 := if okS r x id = true then lNode d ep sq r e 0 id.toNat else List.replicate 16 0
def shN (r x id : Int) : Nat := if okS r x id = true then (levels x).toNat else 0
def shW (d : Int) (ep sq : UInt32) (r : Int) (e : List UInt8) (x id : Int) : List UInt8 := if okS r x id = true then showW d ep sq r e id.toNat (levels x).toNat else []
def shE (r x id : Int) : Int := if okS r x id = true then 0 else 1
def rsB (d : Int) (ep sq : UInt32) (r x id : Int) (l ws : List UInt8) (n : Nat) : List UInt8 := if okS r x id = true then riseB d ep sq r id.toNat l ws (levels x).toNat n else List.replicate 16 0
def rsE (r x id : Int) (n : Nat) : Int := if okS r x id = true then riseE (levels x).toNat n else 1
def rsX (d : Int) (ep sq : UInt32) (r x id : Int) (l ws : List UInt8) (n : Nat) : List (List UInt8) := if okS r x id = true then riseX d ep sq r id.toNat l ws (levels x).toNat n else []
theorem shL_length (d : Int) (ep sq : UInt32) (r : Int) (e : List UInt8) (x id : Int) : (shL d ep sq r e x id).length = 16 := by
  unfold shL
  split
  · exact lNode_length _ _ _ _ _ _ _
  · simp
theorem shW_length (d : Int) (ep sq : UInt32) (r : Int) (e : List UInt8) (x id : Int) : (shW d ep sq r e x id).length = shN r x id * 16 := by
  unfold shW shN
  split
  · exact showW_length _ _ _ _ _ _ _
  · rfl
theorem shN_le (r x id : Int) : shN r x id ≤ 3 := by
  unfold shN
  split
  · rename_i h
    obtain ⟨lv, W, q, h1, h2, rfl, h4, _⟩ := okS_spec h
    rw [h4, Int.toNat_natCast]
    exact h1
  · omega
theorem rsB_length {d : Int} {ep sq : UInt32} {r x id : Int} {l ws : List UInt8} (hl : l.length = 16) (n : Nat) : (rsB d ep sq r x id l ws n).length = 16 := by
  unfold rsB
  split
  · exact riseB_length hl _ _
  · simp
/-- What is shown rises to the next element. -/
theorem meets {d : Int} {ep sq : UInt32} {r : Int} {e : List UInt8} {x id : Int} (h : okS r x id = true) : rsB d ep sq r x id (shL d ep sq r e x id) (shW d ep sq r e x id) (shN r x id) = upB d ep sq r e x ∧ rsE r x id (shN r x id) = 0 ∧ upN r x = 0 := by
  obtain ⟨lv, W, q, h1, h2, rfl, h4, rfl, h6, h7⟩ := okS_spec h
  rw [rsB, rsE, shL, shW, shN, if_pos h, if_pos h, if_pos h, if_pos h, if_pos h, h4, Int.toNat_natCast, Int.toNat_natCast, riseB, riseE, if_pos rfl, if_pos rfl, rise_honest, upB, upN, if_pos h7, if_pos h7, h4, Int.toNat_natCast, Nat.div_eq_of_lt (by rw [← h2]; exact h6)]
  exact ⟨rfl, rfl, rfl⟩
set_option maxHeartbeats 4000000 in
theorem ladder_Show (d : Int) (ep sq : UInt32) (r : Int) (e : List UInt8) (W lv q : Nat) (hel : e.length = 16) (hr : rightB r W = true) (hW : W = 2 ^ lv) (hlv : lv ≤ 3) (hxl : levels W = lv) (hqW : q < W) (w : World)  : Ctr Tryz.prog 76 [.agg #[I d, U ep, U sq], I r, .agg (e.map B).toArray, I W, I q] w (fun _ => False) (outE (tup3E (.agg ((lNode d ep sq r e 0 q).map B).toArray) (I 0) (rowS lv (showW d ep sq r e q lv))) w) := by
  have hW8 : W ≤ 8 := by rw [hW]; exact pow8 hlv
  refine fn_start (N := 64) Tryz.func76 rfl rfl rfl fun ac hk => ?_
  have hs := St.start hk w
  refine wp_seq ?_
  refine wp_reg ?_
  refine s_box hs rfl rfl rfl fun ac ww g5 hs => ?_
  refine s_box hs rfl rfl rfl fun ac ww g7 hs => ?_
  refine s_alloc hs ty36 rfl fun ac ww g10 hs => ?_
  refine s_q hs (c_assign (hs.ev rfl)) rfl fun ac hs => ?_
  refine s_q hs (c_assign (hs.ev rfl)) rfl fun ac hs => ?_
  refine s_end ?_
  replace hs := hs.sub (F' := [(1, _), (3, _), (4, _), (5, _), (7, _), (10, _), (11, _), (12, _)]) ⟨rfl, rfl, rfl, rfl, rfl, rfl, rfl, rfl, trivial⟩
  refine then_n ?_
  refine wp_seq ?_
  refine wp_seq ?_
  refine wp_reg ?_
  refine s_q hs (c_move (hs.ev rfl)) rfl fun ac hs => ?_
  refine s_q hs (c_move (hs.ev rfl)) rfl fun ac hs => ?_
  refine s_call hs fu114 (.cons (hs.ev rfl) (.cons (hs.ev rfl) .nil)) (ladder_right r W _) rfl fun ac ww v19 hf hp hs => ?_
  obtain rfl := hp
  replace hs := hs [] (.nil _ _)
  refine s_q hs (c_ff (c_not (hs.ev rfl)) (by rw [hr]; rfl)) rfl fun ac hs => ?_
  refine s_q hs (c_move (hs.ev rfl)) rfl fun ac hs => ?_
  refine s_yes hs rfl rfl ?_
  refine s_q hs (c_move (hs.ev rfl)) rfl fun ac hs => ?_
  refine s_yes hs rfl rfl ?_
  refine s_q hs (c_ff (c_lssI (hs.ev rfl) (hs.ev rfl)) (by simp; try omega)) rfl fun ac hs => ?_
  refine s_q hs (c_pick (hs.ev rfl) (hs.ev rfl) (hs.ev rfl)) rfl fun ac hs => ?_
  refine s_q hs (c_move (hs.ev rfl)) rfl fun ac hs => ?_
  refine s_yes hs rfl rfl ?_
  refine s_q hs (c_move (hs.ev rfl)) rfl fun ac hs => ?_
  refine s_yes hs rfl rfl ?_
  refine s_q hs (c_move (hs.ev rfl)) rfl fun ac hs => ?_
  refine s_yes hs rfl rfl ?_
  refine s_q hs (c_ff (c_geqI (hs.ev rfl) (hs.ev rfl)) (by simp; try omega)) rfl fun ac hs => ?_
  refine s_q hs (c_pick (hs.ev rfl) (hs.ev rfl) (hs.ev rfl)) rfl fun ac hs => ?_
  refine s_end ?_
  replace hs := hs.sub (F' := [(1, _), (3, _), (4, _), (5, _), (7, _), (10, _), (11, _), (12, _), (29, _)]) ⟨rfl, rfl, rfl, rfl, rfl, rfl, rfl, rfl, rfl, trivial⟩
  refine then_n ?_
  refine wp_cond_false (hs.ev rfl) ?_
  refine wp_skip ?_
  refine then_n ?_
  refine wp_seq ?_
  refine wp_reg ?_
  refine s_q hs (c_loadW ty165 ag165 (hs.ev rfl) (hs.seg (i := 2) rfl) (by rfl)) rfl fun ac hs => ?_
  refine s_q hs (c_move (hs.ev rfl)) rfl fun ac hs => ?_
  refine s_q hs (c_loadW ty36 rfl (hs.ev rfl) (hs.seg (i := 1) rfl) (by rw [List.length_map, hel])) rfl fun ac hs => ?_
  refine s_q hs (c_move (hs.ev rfl)) rfl fun ac hs => ?_
  refine s_call hs fu115 (.cons (hs.ev rfl) (.cons (hs.ev rfl) (.cons (hs.ev rfl) (.cons (hs.ev rfl) .nil)))) (ladder_tree d ep sq r e W lv hW hlv hel _) rfl fun ac ww v35 hf hp hs => ?_
  obtain ⟨L', ⟨ps, hps, rfl⟩, hh⟩ := hp
  replace hs := hs _ hh
  have hpl : ps.length = lv + 1 := by have := congrArg List.length hps; simpa using this
  obtain ⟨og, ocap, ocur, rfl, hog, hon, hom, hot⟩ := texts_at (hs.get (i := 0) rfl) (by omega)
  refine s_q hs (c_assign (hs.ev rfl)) rfl fun ac hs => ?_
  refine s_end ?_
  replace hs := hs.sub (F' := [(4, _), (10, _), (11, _), (12, _), (13, _)]) ⟨rfl, rfl, rfl, rfl, rfl, trivial⟩
  refine then_n ?_
  refine wp_seq ?_
  refine wp_reg ?_
  refine s_q hs (c_assign (hs.ev rfl)) rfl fun ac hs => ?_
  refine s_end ?_
  replace hs := hs.nilrow 36 16
  refine then_n ?_
  refine wp_seq ?_
  refine wp_seq ?_
  refine wp_reg ?_
  refine s_q hs (c_move (hs.ev rfl)) rfl fun ac hs => ?_
  refine s_q hs (c_assign (hs.ev rfl)) rfl fun ac hs => ?_
  refine s_q hs (c_assign (hs.ev rfl)) rfl fun ac hs => ?_
  refine s_end ?_
  replace hs := hs.sub (F' := [(4, _), (10, _), (11, _), (12, _), (13, _), (14, _), (15, _), (16, _)]) ⟨rfl, rfl, rfl, rfl, rfl, rfl, rfl, rfl, trivial⟩
  refine then_n ?_
  refine wp_block ?_
  refine s_loop hs (X := Nat × Value) (fun x => [(14, x.2), (15, I x.1), (16, I (q / 2 ^ x.1 : Nat))]) [(4, _), (10, _), (11, _), (12, _), (13, _)] (fun x => [.row x.2 x.1 ((showW d ep sq r e q x.1).map B) 36 16, _, _, _, _]) (fun j x => x.1 ≤ lv ∧ j = lv - x.1) (_) ((0, _)) (⟨Nat.zero_le _, rfl⟩) ⟨rfl, rfl, (congrArg (fun z : Nat => some (I z)) (by simp)), rfl, rfl, rfl, rfl, rfl, trivial⟩ rfl ?_
  rintro n ⟨k, v⟩ ac ww hok hs
  simp only [List.cons_append, List.nil_append] at hs
  obtain ⟨hk, rfl⟩ := hok
  simp only at hk hs
  obtain ⟨qk, hqk⟩ : ∃ qk : Nat, q / 2 ^ k = qk := ⟨_, rfl⟩
  have hqle : qk ≤ q := hqk ▸ Nat.div_le_self _ _
  rw [hqk] at hs
  have hsl := showW_length d ep sq r e q k
  refine wp_seq ?_
  refine wp_seq ?_
  refine wp_reg ?_
  refine s_q hs (c_move (hs.ev rfl)) rfl fun ac hs => ?_
  refine s_q hs (c_move (hs.ev rfl)) rfl fun ac hs => ?_
  refine s_q hs (c_lenS un209 (hs.ev rfl)) rfl fun ac hs => ?_
  refine s_q hs (c_to (c_subI (hs.ev rfl) (hs.ev rfl) (by omega) (by omega)) ((congrArg I (show ((ps.length : Int) - 1 = (lv : Int)) by omega)))) rfl fun ac hs => ?_
  refine s_q hs (c_lssI (hs.ev rfl) (hs.ev rfl)) rfl fun ac hs => ?_
  refine s_end ?_
  refine then_n ?_
  refine s_cond hs rfl (fun hc => ?_) (fun hc => ?_)
  · try simp only [decide_eq_true_eq, decide_eq_false_iff_not, Bool.not_eq_true', Bool.not_eq_false', Bool.and_eq_true, Bool.or_eq_true, Bool.or_eq_false_iff] at hc
    have hkl : k < lv := by omega
    have hbl := beside_in (k := k) (by rw [← hW]; exact hqW) hkl
    rw [hqk] at hbl
    obtain ⟨og2, oc2, ocur2, hoe2, hog2, _, _, hot2⟩ := texts_at (hs.get (i := 1) rfl) (by omega)
    cases hoe2
    have hz2 := snd_at hps (show k < lv + 1 by omega) (.nilIface, 0, [])
    have ho2 : ww.ownsRow 0 36 16 (ps.getD k (.nilIface, 0, [])).1 (ps.getD k (.nilIface, 0, [])).2.1 ((ps.getD k (.nilIface, 0, [])).2.2.map B) := texts_part (hs.get (i := 1) rfl) (k := k) (by omega) (.nilIface, 0, [])
    rw [hz2] at ho2
    simp only [lRow] at ho2
    obtain ⟨rg2, rcap2, rcur2, hre2, hrg2, hrn2, hrm2, hrt2⟩ := owns_at ho2 (pow_pos' _)
    refine wp_skip ?_
    refine then_n ?_
    refine wp_seq ?_
    refine wp_block ?_
    refine wp_reg ?_
    refine s_q hs (c_move (hs.ev rfl)) rfl fun ac hs => ?_
    refine s_q hs (c_move (hs.ev rfl)) rfl fun ac hs => ?_
    refine s_q hs (c_move (hs.ev rfl)) rfl fun ac hs => ?_
    refine s_q hs (c_idxS (j := k) un209 ty39 (hs.ev rfl) (hs.ev rfl) (by omega) (by omega)) rfl fun ac hs => ?_
    refine s_q hs (c_loadS un39 rfl (hs.ev rfl) hog2 ((outcell (.nilIface, 0, []) hot2 (by omega)).trans (congrArg some hre2))) rfl fun ac hs => ?_
    refine s_q hs (c_move (hs.ev rfl)) rfl fun ac hs => ?_
    refine s_q hs (c_to (c_xor1I (hs.ev rfl) (hs.ev rfl) (by omega)) ((congrArg (fun z : Nat => I z) (xor_beside qk)))) rfl fun ac hs => ?_
    refine s_q hs (c_idxS (j := besideI qk) un39 ty36 (hs.ev rfl) (hs.ev rfl) (by omega) hbl) rfl fun ac hs => ?_
    refine s_q hs (c_loadA ty36 rfl (hs.ev rfl) hrg2 ((rowpiece (i := besideI qk) hrt2 (by rw [lrows_length]; omega) hbl).trans (by rw [rows_piece (lNode_length d ep sq r e k) hbl])) (by rw [List.length_map]; exact lNode_length _ _ _ _ _ _ _)) rfl fun ac hs => ?_
    refine s_bslice hs un39 ty36 (.cons (hs.ev rfl) .nil) rfl (by intro v hv; simp only [List.mem_singleton] at hv; subst hv; simp [Value.cells, lNode_length]) (by decide) (show _ = (lNode d ep sq r e k (besideI qk)).map B by simp [flatCells, Value.cells]) rfl fun ac ww g55 hs => ?_
    refine s_append (i := 1) hs un39 ty36 (by decide) rfl rfl rfl (Rd.of_seg (n := 1) (hs.seg (i := 0) rfl) (Nat.le_refl _) (by decide) (List.take_of_length_le (by simp))) (by rw [List.length_map, lNode_length]) (all_map_B _) (by unfold maxLen; omega) (by omega) rfl fun ac ww v56 hf hnil hs => ?_
    refine s_q hs (c_assign (hs.ev rfl)) rfl fun ac hs => ?_
    refine s_end ?_
    refine blk_n ?_
    refine then_n ?_
    refine wp_reg ?_
    refine s_q hs (c_move (hs.ev rfl)) rfl fun ac hs => ?_
    refine s_q hs (c_addI (hs.ev rfl) (hs.ev rfl) (by omega) (by omega)) rfl fun ac hs => ?_
    refine s_q hs (c_move (hs.ev rfl)) rfl fun ac hs => ?_
    refine s_q hs (c_quoI (hs.ev rfl) (hs.ev rfl) (by omega) (by omega) (by omega)) rfl fun ac hs => ?_
    refine s_q hs (c_assign (hs.ev rfl)) rfl fun ac hs => ?_
    refine s_q hs (c_assign (hs.ev rfl)) rfl fun ac hs => ?_
    refine s_end ?_
    refine then_n ?_
    replace hs := hs.pick (L' := [_, _, _, _, _]) (.cons _ (.refl _))
    exact ⟨lv - (k + 1), by (try simp only); omega, (k + 1, _), ⟨by (try simp only); omega, rfl⟩, St.next hs ⟨rfl, rfl, (congrArg (fun z => some (I z)) (by rw [half_pow, hqk]; omega)), rfl, rfl, rfl, rfl, rfl, trivial⟩ (by simp only [showW_succ, List.map_append, wayN, hqk])⟩
  · try simp only [decide_eq_true_eq, decide_eq_false_iff_not, Bool.not_eq_true', Bool.not_eq_false', Bool.and_eq_true, Bool.or_eq_true, Bool.or_eq_false_iff] at hc
    obtain rfl : lv = k := by omega
    obtain ⟨og3, oc3, ocur3, hoe3, hog3, _, _, hot3⟩ := texts_at (hs.get (i := 1) rfl) (by omega)
    cases hoe3
    have hz3 := snd_at hps (show 0 < lv + 1 by omega) (.nilIface, 0, [])
    have ho3 : ww.ownsRow 0 36 16 (ps.getD 0 (.nilIface, 0, [])).1 (ps.getD 0 (.nilIface, 0, [])).2.1 ((ps.getD 0 (.nilIface, 0, [])).2.2.map B) := texts_part (hs.get (i := 1) rfl) (k := 0) (by omega) (.nilIface, 0, [])
    rw [hz3] at ho3
    simp only [lRow] at ho3
    obtain ⟨rg3, rcap3, rcur3, hre3, hrg3, hrn3, hrm3, hrt3⟩ := owns_at ho3 (pow_pos' _)
    refine wp_exit ?_
    refine then_e ?_
    refine then_e ?_
    refine blk_hit ?_
    refine then_n ?_
    refine wp_seq ?_
    refine wp_reg ?_
    refine s_q hs (c_move (hs.ev rfl)) rfl fun ac hs => ?_
    refine s_q hs (c_idxS (j := 0) un209 ty39 (hs.ev rfl) (hs.ev rfl) (by omega) (by omega)) rfl fun ac hs => ?_
    refine s_q hs (c_loadS un39 rfl (hs.ev rfl) hog3 ((outcell (.nilIface, 0, []) hot3 (by omega)).trans (congrArg some hre3))) rfl fun ac hs => ?_
    refine s_q hs (c_move (hs.ev rfl)) rfl fun ac hs => ?_
    refine s_q hs (c_idxS (j := q) un39 ty36 (hs.ev rfl) (hs.ev rfl) (by omega) (show q < 2 ^ (lv - 0) by rw [Nat.sub_zero, ← hW]; exact hqW)) rfl fun ac hs => ?_
    refine s_q hs (c_loadA ty36 rfl (hs.ev rfl) hrg3 ((rowpiece (i := q) hrt3 (by rw [lrows_length]; omega) (show q < 2 ^ (lv - 0) by rw [Nat.sub_zero, ← hW]; exact hqW)).trans (by rw [rows_piece (lNode_length d ep sq r e 0) (show q < 2 ^ (lv - 0) by rw [Nat.sub_zero, ← hW]; exact hqW)])) (by rw [List.length_map]; exact lNode_length _ _ _ _ _ _ _)) rfl fun ac hs => ?_
    refine s_q hs (c_move (hs.ev rfl)) rfl fun ac hs => ?_
    refine s_storeW (i := 2) hs ty36 rfl rfl rfl (by rw [List.length_map]; exact lNode_length _ _ _ _ _ _ _) (all_map_B _) rfl fun ww hs => ?_
    refine s_q hs (c_assign (hs.ev rfl)) rfl fun ac hs => ?_
    refine s_q hs (c_assign (hs.ev rfl)) rfl fun ac hs => ?_
    refine s_end ?_
    replace hs := hs.sub (F' := [(10, _), (11, _), (12, _)]) ⟨rfl, rfl, rfl, trivial⟩
    refine then_n ?_
    refine wp_ret ?_
    refine s_ret hs rfl (.cell (hs.tmp rfl) (run_loadA ty36 rfl (hs.seg (i := 2) rfl) (List.take_of_length_le (show (List.map B (lNode d ep sq r e 0 q)).length ≤ 16 by rw [List.length_map, lNode_length]; exact Nat.le_refl _)) (show (List.map B (lNode d ep sq r e 0 q)).length = 16 by rw [List.length_map, lNode_length])) (.tmp (hs.tmp rfl) (.tmp (hs.tmp rfl) .nil))) rfl ⟨_, rfl, hs.fr, ?_⟩
    exact ⟨_, ⟨_, rfl, rfl⟩, (hs.pick (L' := [_]) (.cons_cons _ (List.nil_sublist _))).made⟩
set_option maxHeartbeats 4000000 in
theorem ladder_ShowBad (d : Int) (ep sq : UInt32) (r x id : Int) (e : List UInt8) (hel : e.length = 16) (hno : ¬ okS r x id = true) (w : World)  : Ctr Tryz.prog 76 [.agg #[I d, U ep, U sq], I r, .agg (e.map B).toArray, I x, I id] w (fun _ => False) (outE (tup3E (.agg ((List.replicate 16 (0 : UInt8)).map B).toArray) (I 1) (rowS 0 [])) w) := by
  refine fn_start (N := 64) Tryz.func76 rfl rfl rfl fun ac hk => ?_
  have hs := St.start hk w
  refine wp_seq ?_
  refine wp_reg ?_
  refine s_box hs rfl rfl rfl fun ac ww g5 hs => ?_
  refine s_box hs rfl rfl rfl fun ac ww g7 hs => ?_
  refine s_alloc hs ty36 rfl fun ac ww g10 hs => ?_
  refine s_q hs (c_assign (hs.ev rfl)) rfl fun ac hs => ?_
  refine s_q hs (c_assign (hs.ev rfl)) rfl fun ac hs => ?_
  refine s_end ?_
  replace hs := hs.sub (F' := [(1, _), (3, _), (4, _), (5, _), (7, _), (10, _), (11, _), (12, _)]) ⟨rfl, rfl, rfl, rfl, rfl, rfl, rfl, rfl, trivial⟩
  refine then_n ?_
  refine wp_seq ?_
  refine wp_seq ?_
  refine wp_reg ?_
  refine s_q hs (c_move (hs.ev rfl)) rfl fun ac hs => ?_
  refine s_q hs (c_move (hs.ev rfl)) rfl fun ac hs => ?_
  refine s_call hs fu114 (.cons (hs.ev rfl) (.cons (hs.ev rfl) .nil)) (ladder_right r x _) rfl fun ac ww v19 hf hp hs => ?_
  obtain rfl := hp
  replace hs := hs [] (.nil _ _)
  refine s_q hs (c_not (hs.ev rfl)) rfl fun ac hs => ?_
  refine s_q hs (c_move (hs.ev rfl)) rfl fun ac hs => ?_
  refine s_g hs rfl rfl (fun hg => c_move (hs.ev rfl)) rfl fun ac hs => ?_
  refine s_g hs rfl rfl (fun hg => c_lssI (gev (hs.ev rfl) hg) (hs.ev rfl)) rfl fun ac hs => ?_
  refine s_q hs (c_or (hs.ev rfl) (hs.ev rfl)) rfl fun ac hs => ?_
  refine s_q hs (c_move (hs.ev rfl)) rfl fun ac hs => ?_
  refine s_g hs rfl rfl (fun hg => c_move (hs.ev rfl)) rfl fun ac hs => ?_
  refine s_g hs rfl rfl (fun hg => c_move (hs.ev rfl)) rfl fun ac hs => ?_
  refine s_g hs rfl rfl (fun hg => c_geqI (gev (hs.ev rfl) hg) (gev (hs.ev rfl) hg)) rfl fun ac hs => ?_
  refine s_q hs (c_or (hs.ev rfl) (hs.ev rfl)) rfl fun ac hs => ?_
  refine s_end ?_
  replace hs := hs.sub (F' := [(1, _), (3, _), (4, _), (5, _), (7, _), (10, _), (11, _), (12, _), (29, _)]) ⟨rfl, rfl, rfl, rfl, rfl, rfl, rfl, rfl, rfl, trivial⟩
  refine then_n ?_
  refine s_cond hs rfl (fun hc => ?_) (fun hc => ?_)
  · try simp only [decide_eq_true_eq, decide_eq_false_iff_not, Bool.not_eq_true', Bool.not_eq_false', Bool.and_eq_true, Bool.or_eq_true, Bool.or_eq_false_iff] at hc
    refine wp_seq ?_
    refine wp_reg ?_
    refine s_q hs (c_buildA ty36 un36 ty5 (zc := (List.replicate 16 (0 : UInt8)).map B) (vs := []) .nil (by simp) (by simp [flatCells]) rfl) rfl fun ac hs => ?_
    refine s_storeW (i := 0) hs ty36 rfl rfl rfl (by simp) (all_map_B _) rfl fun ww hs => ?_
    refine s_q hs (c_assign (hs.ev rfl)) rfl fun ac hs => ?_
    refine s_q hs (c_assign (hs.ev rfl)) rfl fun ac hs => ?_
    refine s_end ?_
    replace hs := hs.sub (F' := [(1, _), (3, _), (4, _), (5, _), (7, _), (10, _), (11, _), (12, _)]) ⟨rfl, rfl, rfl, rfl, rfl, rfl, rfl, rfl, trivial⟩
    refine then_n ?_
    refine wp_ret ?_
    refine then_r ?_
    
    refine s_ret hs rfl (.cell (hs.tmp rfl) (run_loadA ty36 rfl (hs.seg (i := 0) rfl) (List.take_of_length_le (by simp)) (by simp)) (.tmp (hs.tmp rfl) (.tmp (hs.tmp rfl) .nil))) rfl ⟨_, rfl, hs.fr, ?_⟩
    exact ⟨_, ⟨_, rfl, rfl⟩, ((hs.nilrow 36 16).pick (L' := [_]) (.cons_cons _ (List.nil_sublist _))).made⟩
  · exact absurd (by simp at hc; simp [okS]; omega) hno
set_option maxHeartbeats 4000000 in
theorem ref06_ShowBad (d : Int) (ep sq : UInt32) (r x id : Int) (e : List UInt8) (hel : e.length = 16) (hno : ¬ okS r x id = true) (w : World)  : Ctr Tryz.prog 79 [.agg #[I d, U ep, U sq], I r, .agg (e.map B).toArray, I x, I id] w (fun _ => False) (outE (tup3E (.agg ((List.replicate 16 (0 : UInt8)).map B).toArray) (I 1) (rowS' 0 [])) w) := by
  refine fn_start (N := 72) Tryz.func79 rfl rfl rfl fun ac hk => ?_
  have hs := St.start hk w
  refine wp_seq ?_
  refine wp_reg ?_
  refine s_box hs rfl rfl rfl fun ac ww g5 hs => ?_
  refine s_box hs rfl rfl rfl fun ac ww g7 hs => ?_
  refine s_alloc hs ty35 rfl fun ac ww g10 hs => ?_
  refine s_q hs (c_assign (hs.ev rfl)) rfl fun ac hs => ?_
  refine s_q hs (c_assign (hs.ev rfl)) rfl fun ac hs => ?_
  refine s_end ?_
  replace hs := hs.sub (F' := [(1, _), (3, _), (4, _), (5, _), (7, _), (10, _), (11, _), (12, _)]) ⟨rfl, rfl, rfl, rfl, rfl, rfl, rfl, rfl, trivial⟩
  refine then_n ?_
  refine wp_seq ?_
  refine wp_seq ?_
  refine wp_reg ?_
  refine s_q hs (c_move (hs.ev rfl)) rfl fun ac hs => ?_
  refine s_q hs (c_move (hs.ev rfl)) rfl fun ac hs => ?_
  refine s_call hs fu116 (.cons (hs.ev rfl) (.cons (hs.ev rfl) .nil)) (ref06_Right r x _) rfl fun ac ww v22 hf hp hs => ?_
  obtain rfl := hp
  replace hs := hs [] (.nil _ _)
  refine s_q hs (c_not (hs.ev rfl)) rfl fun ac hs => ?_
  refine s_q hs (c_move (hs.ev rfl)) rfl fun ac hs => ?_
  refine s_g hs rfl rfl (fun hg => c_move (hs.ev rfl)) rfl fun ac hs => ?_
  refine s_g hs rfl rfl (fun hg => c_lssI (gev (hs.ev rfl) hg) (hs.ev rfl)) rfl fun ac hs => ?_
  refine s_q hs (c_or (hs.ev rfl) (hs.ev rfl)) rfl fun ac hs => ?_
  refine s_q hs (c_move (hs.ev rfl)) rfl fun ac hs => ?_
  refine s_g hs rfl rfl (fun hg => c_move (hs.ev rfl)) rfl fun ac hs => ?_
  refine s_g hs rfl rfl (fun hg => c_move (hs.ev rfl)) rfl fun ac hs => ?_
  refine s_g hs rfl rfl (fun hg => c_geqI (gev (hs.ev rfl) hg) (gev (hs.ev rfl) hg)) rfl fun ac hs => ?_
  refine s_q hs (c_or (hs.ev rfl) (hs.ev rfl)) rfl fun ac hs => ?_
  refine s_end ?_
  replace hs := hs.sub (F' := [(1, _), (3, _), (4, _), (5, _), (7, _), (10, _), (11, _), (12, _), (32, _)]) ⟨rfl, rfl, rfl, rfl, rfl, rfl, rfl, rfl, rfl, trivial⟩
  refine then_n ?_
  refine s_cond hs rfl (fun hc => ?_) (fun hc => ?_)
  · try simp only [decide_eq_true_eq, decide_eq_false_iff_not, Bool.not_eq_true', Bool.not_eq_false', Bool.and_eq_true, Bool.or_eq_true, Bool.or_eq_false_iff] at hc
    refine wp_seq ?_
    refine wp_reg ?_
    refine s_q hs (c_buildA ty35 un35 ty5 (zc := (List.replicate 16 (0 : UInt8)).map B) (vs := []) .nil (by simp) (by simp [flatCells]) rfl) rfl fun ac hs => ?_
    refine s_storeW (i := 0) hs ty35 rfl rfl rfl (by simp) (all_map_B _) rfl fun ww hs => ?_
    refine s_q hs (c_assign (hs.ev rfl)) rfl fun ac hs => ?_
    refine s_q hs (c_assign (hs.ev rfl)) rfl fun ac hs => ?_
    refine s_end ?_
    replace hs := hs.sub (F' := [(1, _), (3, _), (4, _), (5, _), (7, _), (10, _), (11, _), (12, _)]) ⟨rfl, rfl, rfl, rfl, rfl, rfl, rfl, rfl, trivial⟩
    refine then_n ?_
    refine wp_ret ?_
    refine then_r ?_
    
    refine s_ret hs rfl (.cell (hs.tmp rfl) (run_loadA ty35 rfl (hs.seg (i := 0) rfl) (List.take_of_length_le (by simp)) (by simp)) (.tmp (hs.tmp rfl) (.tmp (hs.tmp rfl) .nil))) rfl ⟨_, rfl, hs.fr, ?_⟩
    exact ⟨_, ⟨_, rfl, rfl⟩, ((hs.nilrow 35 16).pick (L' := [_]) (.cons_cons _ (List.nil_sublist _))).made⟩
  · exact absurd (by simp at hc; simp [okS]; omega) hno
set_option maxHeartbeats 4000000 in
theorem ladder_RiseBad (d : Int) (ep sq : UInt32) (r x id : Int) (l : List UInt8) (hll : l.length = 16) (wv : Value) (hno : ¬ okS r x id = true) (w : World)  : Ctr Tryz.prog 83 [.agg #[I d, U ep, U sq], I r, I x, I id, .agg (l.map B).toArray, wv] w (fun _ => False) (fun v _ => v = .tuple #[(.agg ((List.replicate 16 (0 : UInt8)).map B).toArray), I 1]) := by
  refine fn_start (N := 61) Tryz.func83 rfl rfl rfl fun ac hk => ?_
  have hs := St.start hk w
  refine wp_seq ?_
  refine wp_reg ?_
  refine s_box hs rfl rfl rfl fun ac ww g6 hs => ?_
  refine s_box hs rfl rfl rfl fun ac ww g10 hs => ?_
  refine s_alloc hs ty36 rfl fun ac ww g12 hs => ?_
  refine s_q hs (c_assign (hs.ev rfl)) rfl fun ac hs => ?_
  refine s_end ?_
  replace hs := hs.sub (F' := [(1, _), (2, _), (3, _), (5, _), (6, _), (10, _), (12, _), (13, _)]) ⟨rfl, rfl, rfl, rfl, rfl, rfl, rfl, rfl, trivial⟩
  refine then_n ?_
  refine wp_seq ?_
  refine wp_block ?_
  refine wp_seq ?_
  refine wp_reg ?_
  refine s_q hs (c_move (hs.ev rfl)) rfl fun ac hs => ?_
  refine s_q hs (c_move (hs.ev rfl)) rfl fun ac hs => ?_
  refine s_call hs fu114 (.cons (hs.ev rfl) (.cons (hs.ev rfl) .nil)) (ladder_right r x _) rfl fun ac ww v19 hf hp hs => ?_
  obtain rfl := hp
  replace hs := hs [] (.nil _ _)
  refine s_q hs (c_not (hs.ev rfl)) rfl fun ac hs => ?_
  refine s_q hs (c_move (hs.ev rfl)) rfl fun ac hs => ?_
  refine s_g hs rfl rfl (fun hg => c_move (hs.ev rfl)) rfl fun ac hs => ?_
  refine s_g hs rfl rfl (fun hg => c_lssI (gev (hs.ev rfl) hg) (hs.ev rfl)) rfl fun ac hs => ?_
  refine s_q hs (c_or (hs.ev rfl) (hs.ev rfl)) rfl fun ac hs => ?_
  refine s_q hs (c_move (hs.ev rfl)) rfl fun ac hs => ?_
  refine s_g hs rfl rfl (fun hg => c_move (hs.ev rfl)) rfl fun ac hs => ?_
  refine s_g hs rfl rfl (fun hg => c_move (hs.ev rfl)) rfl fun ac hs => ?_
  refine s_g hs rfl rfl (fun hg => c_geqI (gev (hs.ev rfl) hg) (gev (hs.ev rfl) hg)) rfl fun ac hs => ?_
  refine s_q hs (c_or (hs.ev rfl) (hs.ev rfl)) rfl fun ac hs => ?_
  refine s_q hs (c_assign (hs.ev rfl)) rfl fun ac hs => ?_
  refine s_end ?_
  replace hs := hs.sub (F' := [(1, _), (2, _), (3, _), (5, _), (6, _), (10, _), (12, _), (13, _), (16, _)]) ⟨rfl, rfl, rfl, rfl, rfl, rfl, rfl, rfl, rfl, trivial⟩
  refine then_n ?_
  refine s_cond hs rfl (fun hc => ?_) (fun hc => ?_)
  · try simp only [decide_eq_true_eq, decide_eq_false_iff_not, Bool.not_eq_true', Bool.not_eq_false', Bool.and_eq_true, Bool.or_eq_true, Bool.or_eq_false_iff] at hc
    refine wp_seq ?_
    refine wp_reg ?_
    refine s_q hs (c_buildA ty36 un36 ty5 (zc := (List.replicate 16 (0 : UInt8)).map B) (vs := []) .nil (by simp) (by simp [flatCells]) rfl) rfl fun ac hs => ?_
    refine s_storeW (i := 0) hs ty36 rfl rfl rfl (by simp) (all_map_B _) rfl fun ww hs => ?_
    refine s_q hs (c_assign (hs.ev rfl)) rfl fun ac hs => ?_
    refine s_end ?_
    replace hs := hs.sub (F' := [(1, _), (2, _), (3, _), (5, _), (6, _), (10, _), (12, _), (13, _)]) ⟨rfl, rfl, rfl, rfl, rfl, rfl, rfl, rfl, trivial⟩
    refine then_n ?_
    refine wp_ret ?_
    refine blk_r ?_
    refine then_r ?_
    
    refine s_ret hs rfl (.cell (hs.tmp rfl) (run_loadA ty36 rfl (hs.seg (i := 0) rfl) (List.take_of_length_le (by simp)) (by simp)) (.tmp (hs.tmp rfl) .nil)) rfl ⟨_, rfl, hs.fr, ?_⟩
    rfl
  · exact absurd (by simp at hc; simp [okS]; omega) hno
set_option maxHeartbeats 4000000 in
theorem ref06_RiseBad (d : Int) (ep sq : UInt32) (r x id : Int) (l : List UInt8) (hll : l.length = 16) (wv : Value) (hno : ¬ okS r x id = true) (w : World)  : Ctr Tryz.prog 90 [.agg #[I d, U ep, U sq], I r, I x, I id, .agg (l.map B).toArray, wv] w (fun _ => False) (outE (tup3E (.agg ((List.replicate 16 (0 : UInt8)).map B).toArray) (I 1) (textsE 177 5 [])) w) := by
  refine fn_start (N := 73) Tryz.func90 rfl rfl rfl fun ac hk => ?_
  have hs := St.start hk w
  refine wp_seq ?_
  refine wp_reg ?_
  refine s_box hs rfl rfl rfl fun ac ww g6 hs => ?_
  refine s_box hs rfl rfl rfl fun ac ww g10 hs => ?_
  refine s_alloc hs ty35 rfl fun ac ww g12 hs => ?_
  refine s_q hs (c_assign (hs.ev rfl)) rfl fun ac hs => ?_
  refine s_q hs (c_assign (hs.ev rfl)) rfl fun ac hs => ?_
  refine s_end ?_
  replace hs := hs.sub (F' := [(1, _), (2, _), (3, _), (5, _), (6, _), (10, _), (12, _), (13, _), (14, _)]) ⟨rfl, rfl, rfl, rfl, rfl, rfl, rfl, rfl, rfl, trivial⟩
  refine then_n ?_
  refine wp_seq ?_
  refine wp_seq ?_
  refine wp_reg ?_
  refine s_q hs (c_move (hs.ev rfl)) rfl fun ac hs => ?_
  refine s_q hs (c_move (hs.ev rfl)) rfl fun ac hs => ?_
  refine s_call hs fu116 (.cons (hs.ev rfl) (.cons (hs.ev rfl) .nil)) (ref06_Right r x _) rfl fun ac ww v20 hf hp hs => ?_
  obtain rfl := hp
  replace hs := hs [] (.nil _ _)
  refine s_q hs (c_not (hs.ev rfl)) rfl fun ac hs => ?_
  refine s_q hs (c_move (hs.ev rfl)) rfl fun ac hs => ?_
  refine s_g hs rfl rfl (fun hg => c_move (hs.ev rfl)) rfl fun ac hs => ?_
  refine s_g hs rfl rfl (fun hg => c_lssI (gev (hs.ev rfl) hg) (hs.ev rfl)) rfl fun ac hs => ?_
  refine s_q hs (c_or (hs.ev rfl) (hs.ev rfl)) rfl fun ac hs => ?_
  refine s_q hs (c_move (hs.ev rfl)) rfl fun ac hs => ?_
  refine s_g hs rfl rfl (fun hg => c_move (hs.ev rfl)) rfl fun ac hs => ?_
  refine s_g hs rfl rfl (fun hg => c_move (hs.ev rfl)) rfl fun ac hs => ?_
  refine s_g hs rfl rfl (fun hg => c_geqI (gev (hs.ev rfl) hg) (gev (hs.ev rfl) hg)) rfl fun ac hs => ?_
  refine s_q hs (c_or (hs.ev rfl) (hs.ev rfl)) rfl fun ac hs => ?_
  refine s_end ?_
  replace hs := hs.sub (F' := [(1, _), (2, _), (3, _), (5, _), (6, _), (10, _), (12, _), (13, _), (14, _), (30, _)]) ⟨rfl, rfl, rfl, rfl, rfl, rfl, rfl, rfl, rfl, rfl, trivial⟩
  refine then_n ?_
  refine s_cond hs rfl (fun hc => ?_) (fun hc => ?_)
  · try simp only [decide_eq_true_eq, decide_eq_false_iff_not, Bool.not_eq_true', Bool.not_eq_false', Bool.and_eq_true, Bool.or_eq_true, Bool.or_eq_false_iff] at hc
    refine wp_seq ?_
    refine wp_reg ?_
    refine s_q hs (c_buildA ty35 un35 ty5 (zc := (List.replicate 16 (0 : UInt8)).map B) (vs := []) .nil (by simp) (by simp [flatCells]) rfl) rfl fun ac hs => ?_
    refine s_storeW (i := 0) hs ty35 rfl rfl rfl (by simp) (all_map_B _) rfl fun ww hs => ?_
    refine s_q hs (c_assign (hs.ev rfl)) rfl fun ac hs => ?_
    refine s_q hs (c_assign (hs.ev rfl)) rfl fun ac hs => ?_
    refine s_end ?_
    replace hs := hs.sub (F' := [(1, _), (2, _), (3, _), (5, _), (6, _), (10, _), (12, _), (13, _), (14, _)]) ⟨rfl, rfl, rfl, rfl, rfl, rfl, rfl, rfl, rfl, trivial⟩
    refine then_n ?_
    refine wp_ret ?_
    refine then_r ?_
    
    refine s_ret hs rfl (.cell (hs.tmp rfl) (run_loadA ty35 rfl (hs.seg (i := 0) rfl) (List.take_of_length_le (by simp)) (by simp)) (.tmp (hs.tmp rfl) (.tmp (hs.tmp rfl) .nil))) rfl ⟨_, rfl, hs.fr, ?_⟩
    exact ⟨_, ⟨_, rfl, [], rfl, rfl⟩, ((hs.texts0 177 (Ent.part 5)).pick (L' := [_]) (.cons_cons _ (List.nil_sublist _))).made⟩
  · exact absurd (by simp at hc; simp [okS]; omega) hno
end Go.Proofs.YtklajbdbnnceiaaGreat
end

section
/- Laws of ladders: what is shown rises. -/
set_option linter.unusedSimpArgs false
set_option linter.unusedVariables false
set_option maxRecDepth 100000
namespace Go.Proofs.YtklajbdbnnceiaaGreat
open Go Go.Fw
open Sha
theorem ladder_ShowA (d : Int) (ep sq : UInt32) (r : Int) (e : List UInt8) (x id : Int) (hel : e.length = 16) (w : World)  : Ctr Tryz.prog 76 [.agg #[I d, U ep, U sq], I r, .agg (e.map B).toArray, I x, I id] w (fun _ => False) (outE (tup3E (.agg ((shL d ep sq r e x id).map B).toArray) (I (shE r x id)) (rowS (shN r x id) (shW d ep sq r e x id))) w) := by
  by_cases h : okS r x id = true
  · obtain ⟨lv, W, q, h1, h2, rfl, h4, rfl, h6, h7⟩ := okS_spec h
    have h8 := ladder_Show d ep sq r e W lv q hel h7 h2 h1 h4 h6 w
    simp only [shL, shE, shN, shW, if_pos h, h4, Int.toNat_natCast]
    exact h8
  · have h8 := ladder_ShowBad d ep sq r x id e hel h w
    simp only [shL, shE, shN, shW, if_neg h]
    exact h8
theorem ref06_ShowA (d : Int) (ep sq : UInt32) (r : Int) (e : List UInt8) (x id : Int) (hel : e.length = 16) (w : World)  : Ctr Tryz.prog 79 [.agg #[I d, U ep, U sq], I r, .agg (e.map B).toArray, I x, I id] w (fun _ => False) (outE (tup3E (.agg ((shL d ep sq r e x id).map B).toArray) (I (shE r x id)) (rowS' (shN r x id) (shW d ep sq r e x id))) w) := by
  by_cases h : okS r x id = true
  · obtain ⟨lv, W, q, h1, h2, rfl, h4, rfl, h6, h7⟩ := okS_spec h
    have h8 := ref06_Show d ep sq r e W lv q hel h7 h2 h1 h4 h6 w
    simp only [shL, shE, shN, shW, if_pos h, h4, Int.toNat_natCast]
    exact h8
  · have h8 := ref06_ShowBad d ep sq r x id e hel h w
    simp only [shL, shE, shN, shW, if_neg h]
    exact h8
theorem ladder_RiseA (d : Int) (ep sq : UInt32) (r x id : Int) (l ws : List UInt8) (n : Nat) (wv : Value) (hll : l.length = 16) (hwl : ws.length = n * 16) (w : World) (hqw : Rd w wv n (ws.map B)) : Ctr Tryz.prog 83 [.agg #[I d, U ep, U sq], I r, I x, I id, .agg (l.map B).toArray, wv] w (fun _ => False) (fun v _ => v = .tuple #[.agg ((rsB d ep sq r x id l ws n).map B).toArray, I (rsE r x id n)]) := by
  by_cases h : okS r x id = true
  · obtain ⟨lv, W, q, h1, h2, rfl, h4, rfl, h6, h7⟩ := okS_spec h
    have h8 := ladder_Rise d ep sq r W lv q n l ws wv h7 h2 h1 h4 h6 hll hwl w hqw
    simp only [rsB, rsE, if_pos h, h4, Int.toNat_natCast]
    exact h8
  · have h8 := ladder_RiseBad d ep sq r x id l hll wv h w
    simp only [rsB, rsE, if_neg h]
    exact h8
theorem ref06_RiseA (d : Int) (ep sq : UInt32) (r x id : Int) (l ws : List UInt8) (n : Nat) (wv : Value) (hll : l.length = 16) (hwl : ws.length = n * 16) (hn6 : n ≤ 1000000) (w : World) (hqw : Rd w wv n (ws.map B)) : Ctr Tryz.prog 90 [.agg #[I d, U ep, U sq], I r, I x, I id, .agg (l.map B).toArray, wv] w (fun _ => False) (outE (tup3E (.agg ((rsB d ep sq r x id l ws n).map B).toArray) (I (rsE r x id n)) (textsE 177 5 (rsX d ep sq r x id l ws n))) w) := by
  by_cases h : okS r x id = true
  · obtain ⟨lv, W, q, h1, h2, rfl, h4, rfl, h6, h7⟩ := okS_spec h
    have h8 := ref06_Rise d ep sq r W lv q n l ws wv h7 h2 h1 h4 h6 hll hwl hn6 w hqw
    simp only [rsB, rsE, rsX, if_pos h, h4, Int.toNat_natCast]
    exact h8
  · have h8 := ref06_RiseBad d ep sq r x id l hll wv h w
    simp only [rsB, rsE, rsX, if_neg h]
    exact h8
end Go.Proofs.YtklajbdbnnceiaaGreat
end

section
/- A spring whose tree is made. -/
set_option linter.unusedSimpArgs false
set_option linter.unusedVariables false
set_option maxRecDepth 100000
namespace Go.Proofs.YtklajbdbnnceiaaGreat
open Go Go.Fw
open Sha
def SpMade (w : World) (p : Spr) : Prop := ∃ K u, SpAt w p 0 K (some u)
theorem SpMade.fr0 {w w' : World} {p : Spr} (h : SpMade w p) (hf : Fr0 w w') : SpMade w' p := by
  obtain ⟨K, u, h⟩ := h
  exact ⟨K, u, h.fr0 hf⟩
end Go.Proofs.YtklajbdbnnceiaaGreat
end

section
/- What a spring issues. -/
set_option linter.unusedSimpArgs false
set_option linter.unusedVariables false
set_option maxRecDepth 100000
namespace Go.Proofs.YtklajbdbnnceiaaGreat
open Go Go.Fw
open Sha
def TreeB (w : World) (p : Spr) (pv : Value) (Q : Nat → Prop) : Prop :=
  ∃ g v ps, pv = .pointer (some ⟨g, 0, none⟩) ∧ ps.map (·.2) = (List.range (p.H + 1)).map (gRow p.d p.ep (ends p p.m) p.H) ∧ Has 0 w (groveL p.d p.ep g v ps) ∧ (∀ e ∈ groveL p.d p.ep g v ps, ∀ k, e.keys k → k ≠ p.g ∧ k ≠ p.cg) ∧ ∀ e ∈ groveL p.d p.ep g v ps, ∀ k, e.keys k → Q k
theorem TreeB.at {w : World} {p : Spr} {pv : Value} {Q : Nat → Prop} (h : TreeB w p pv Q) : TreeAt w p pv := by
  obtain ⟨g, v, ps, h1, h2, h3, h4, _⟩ := h
  exact ⟨g, v, ps, h1, h2, h3, h4⟩
theorem TreeB.frk {w w' : World} {p : Spr} {pv : Value} {Q M : Nat → Prop} (h : TreeB w p pv Q) (hf : Fr M w w') (hM : ∀ k, M k → k = p.g ∨ k = p.cg ∨ ¬ Q k) : TreeB w' p pv Q := by
  obtain ⟨g, v, ps, h1, h2, h3, h4, h5⟩ := h
  exact ⟨g, v, ps, h1, h2, h3.same hf.size fun e he k hk => hf.block k (h3.lt e he k hk) fun h => (hM k h).elim (h4 e he k hk).1 fun h => h.elim (h4 e he k hk).2 fun h => h (h5 e he k hk), h4, h5⟩
theorem TreeB.mono {w : World} {p : Spr} {pv : Value} {Q Q' : Nat → Prop} (h : TreeB w p pv Q) (hq : ∀ k, k < w.heap.size → Q k → Q' k) : TreeB w p pv Q' := by
  obtain ⟨g, v, ps, h1, h2, h3, h4, h5⟩ := h
  exact ⟨g, v, ps, h1, h2, h3, h4, fun e he k hk => hq k (h3.lt e he k hk) (h5 e he k hk)⟩
/-- No block of a spring's columns or tree is among these. -/
def SpFr (w : World) (p : Spr) (K : Nat → Option Value) (t : Option Value) (Bd : Nat → Prop) : Prop :=
  (∀ q, q < p.m → ∀ v, K q = some v → ∀ k, v.ownBlock = some k → ¬ Bd k) ∧ ∀ v, t = some v → TreeB w p v fun k => ¬ Bd k
theorem SpAt.free {w : World} {p : Spr} {lk : Int} {K : Nat → Option Value} {t : Option Value} (h : SpAt w p lk K t) : SpFr w p K t (w.heap.size ≤ ·) := by
  refine ⟨fun q hq v hv k hk => Nat.not_le_of_lt ((h.col q hq v hv).lt k hk), fun v hv => ?_⟩
  obtain ⟨g, v', ps, h1, h2, h3, h4⟩ := (h.tree v hv).1
  exact ⟨g, v', ps, h1, h2, h3, h4, fun e he k hk => Nat.not_le_of_lt (h3.lt e he k hk)⟩
theorem SpFr.mono {w : World} {p : Spr} {K : Nat → Option Value} {t : Option Value} {Bd Bd' : Nat → Prop} (h : SpFr w p K t Bd) (hm : ∀ k, Bd' k → Bd k) : SpFr w p K t Bd' :=
  ⟨fun q hq v hv k hk hb => h.1 q hq v hv k hk (hm k hb), fun v hv => (h.2 v hv).mono fun k _ h1 h2 => h1 (hm k h2)⟩
theorem SpFr.keep {w w' : World} {p : Spr} {lk : Int} {K : Nat → Option Value} {t : Option Value} {Bd M : Nat → Prop} (h : SpFr w p K t Bd) (hs : SpAt w p lk K t) (hf : Fr M w w') (hM : ∀ k, M k → k = p.g ∨ k = p.cg ∨ Bd k)
    (hg : w'.heap[p.g]? = w.heap[p.g]?) (hc : w'.heap[p.cg]? = w.heap[p.cg]?) : SpAt w' p lk K t ∧ SpFr w' p K t Bd := by
  have hM2 : ∀ k, M k → k = p.g ∨ k = p.cg ∨ ¬ ¬ Bd k := fun k hk => (hM k hk).imp id fun h => h.imp id fun h => not_not_intro h
  refine ⟨⟨hg.trans hs.hg, hc.trans hs.hc, fun q hq v hv => ?_, fun v hv => ⟨((h.2 v hv).frk hf hM2).at, (hs.tree v hv).2⟩⟩, h.1, fun v hv => (h.2 v hv).frk hf hM2⟩
  have hcol := hs.col q hq v hv
  refine hcol.frk hf fun k hk hm => ?_
  have h5 := h.1 q hq v hv k hk
  obtain ⟨b, cap, cur, rfl, _, _, _, _, h6, h7⟩ := hcol
  simp only [Value.ownBlock, Option.some.injEq] at hk
  subst hk
  rcases hM _ hm with e | e | e
  · exact h6 e
  · exact h7 e
  · exact h5 e
theorem SpFr.call {w w' : World} {p : Spr} {K K' : Nat → Option Value} {t : Option Value} {Bd : Nat → Prop} (h : SpFr w p K t Bd) (hf : Fr (SpM p) w w') (hlo : ∀ k, Bd k → k < w.heap.size) (hn : ∀ q, q < p.m → ∀ v, K' q = some v → K q = some v ∨ freshV w v) : SpFr w' p K' t Bd :=
  ⟨fun q hq v hv k hk hb => (hn q hq v hv).elim (fun h2 => h.1 q hq v h2 k hk hb) fun h2 => by have := h2 k hk; have := hlo k hb; omega, fun v hv => (h.2 v hv).frk hf fun k hk => hk.imp id .inl⟩
theorem SpFr.tree {w w' : World} {p : Spr} {K K' : Nat → Option Value} {t : Option Value} {pv : Value} {Bd : Nat → Prop} (h : SpFr w p K t Bd) (hf : Fr (SpM p) w w') (hlo : ∀ k, Bd k → k < w.heap.size) (hn : SpNew w w' p K t pv K') : SpFr w' p K' (some pv) Bd := by
  refine ⟨fun q hq v hv k hk hb => (hn.1 q hq v hv).elim (fun h2 => h.1 q hq v h2 k hk hb) fun h2 => by have := h2 k hk; have := hlo k hb; omega, fun v hv => ?_⟩
  cases hv
  rcases hn.2 with h2 | h2
  · exact (h.2 _ h2).frk hf fun k hk => hk.imp id .inl
  · obtain ⟨g, v', ps, h1, h2, h3, h4, h5⟩ := h2
    exact ⟨g, v', ps, h1, h2, h3, h4, fun e he k hk hb => by have := h5 e he k hk; have := hlo k hb; omega⟩
section
variable {N : Nat} {F : List (Nat × Value)} {p : Spr} {A : List Ent} {xs ys : List Value} {T U : TypeId} {w0 w1 w2 : World} {a : Act} {M : Nat → Prop}
theorem ownA (hs : St N F (A ++ [.seg p.g xs T, .seg p.cg ys U]) (SpM p) w0 a w1) : ∀ e ∈ A, ∀ k, e.keys k → w0.heap.size ≤ k ∧ k < w1.heap.size ∧ ¬ SpM p k := by
  intro e he k hk
  have h1 := (List.pairwise_append.1 hs.has.apart).2.2 e he
  have h2 : ¬ SpM p k := fun h => h.elim (h1 _ (.head _) k hk) (h1 _ (.tail _ (.head _)) k hk)
  exact ⟨(hs.own e (List.mem_append_left _ he) k hk).resolve_right h2, hs.has.lt e (List.mem_append_left _ he) k hk, h2⟩
theorem ownA2 (hs : St N F (A ++ [.seg p.g xs T, .seg p.cg ys U]) (SpM p) w0 a w1) : ∀ e ∈ A, ∀ k, e.keys k → w0.heap.size ≤ k ∧ k < w1.heap.size := fun e he k hk => ⟨(ownA hs e he k hk).1, (ownA hs e he k hk).2.1⟩
theorem keepA (ho : p.Ok) (hs : St N F (A ++ [.seg p.g xs T, .seg p.cg ys U]) (SpM p) w0 a w1) (hf : Fr (SpM p) w1 w2) {xs' ys' : List Value}
    (ha : w2.heap[p.g]? = some (.cells xs'.toArray 149 (0, 0))) (hb : w2.heap[p.cg]? = some (.cells ys'.toArray 203 (0, 0))) : Has 0 w2 (A ++ [.seg p.g xs' 149, .seg p.cg ys' 203]) ∧ ∀ e ∈ A ++ [.seg p.g xs' 149, .seg p.cg ys' 203], ∀ k, e.keys k → w0.heap.size ≤ k ∨ SpM p k := by
  have hA := ownA hs
  have hN : ∀ e ∈ [Ent.seg p.g xs' 149, .seg p.cg ys' 203], ∀ k, e.keys k → SpM p k := fun e he k hk => by
    simp only [List.mem_cons, List.not_mem_nil, or_false] at he
    rcases he with rfl | rfl
    · exact .inl hk
    · exact .inr hk
  refine ⟨Has.app (hs.has.cons_app.1.same hf.size fun e he k hk => hf.block k (hA e he k hk).2.1 (hA e he k hk).2.2) (has2 ho.ne ha hb) fun e1 h1 e2 h2 kk hk1 hk2 => (hA e1 h1 kk hk1).2.2 (hN e2 h2 kk hk2), fun e he k hk => ?_⟩
  exact (List.mem_append.1 he).elim (fun h => .inl (hA e h k hk).1) fun h => .inr (hN e h k hk)
theorem keysA {Bd : Nat → Prop} (hA : ∀ e ∈ A, ∀ k, e.keys k → Bd k) : ∀ k, (Ent.grp (A ++ [.seg p.g xs T, .seg p.cg ys U])).keys k → k = p.g ∨ k = p.cg ∨ Bd k := by
  rintro k ⟨e, he, hk⟩
  rcases List.mem_append.1 he with h | h
  · exact .inr (.inr (hA e h k hk))
  · simp only [List.mem_cons, List.not_mem_nil, or_false] at h
    rcases h with rfl | rfl
    · exact .inl hk
    · exact .inr (.inl hk)
theorem _root_.Go.Fw.St.unrebase {L L0 : List Ent} (h : St N F L (Ent.grp L0).keys w1 a w2) (hf : Fr M w0 w1) (ho : ∀ e ∈ L0, ∀ k, e.keys k → w0.heap.size ≤ k ∨ M k) : St N F L M w0 a w2 :=
  ⟨h.know, h.has, fun e he k hk => (h.own e he k hk).elim (fun h1 => .inl (Nat.le_trans hf.size h1)) fun ⟨e', he', hk'⟩ => ho e' he' k hk', Fr.rebase hf ho h.fr⟩
end
/-- A credential, as a value. -/
def credV (l : List UInt8) (wv pv : Value) : Value := .agg (l.map B ++ [wv, pv]).toArray
def SpSome (w : World) (p : Spr) : Prop := ∃ K t, SpAt w p 0 K t
set_option maxHeartbeats 4000000 in
theorem proof_Issue (p : Spr) (ho : p.Ok) (K : Nat → Option Value) (t : Option Value) (d mt sn : Int) (ep sq : UInt32) (w : World) (hsp : SpAt w p 0 K t) : Ctr Tryz.prog 26 [.pointer (some ⟨p.g, 0, none⟩), .agg #[I d, U ep, U sq, I mt, I sn]] w (SpM p) (fun v w' => (clRight p.W p.S p.H d mt sn ep sq = false ∧ v = .tuple #[credV (List.replicate 16 (0 : UInt8)) (.slice none 0 0) (.slice none 0 0), I 1] ∧ SpSome w' p) ∨ (clRight p.W p.S p.H d mt sn ep sq = true ∧ SpMade w' p ∧ ∃ wv pv, v = .tuple #[credV (shL d ep sq mt (el p sq.toNat mt.toNat) p.W sn) wv pv, I 0] ∧ Rd w' wv (shN mt p.W sn) ((shW d ep sq mt (el p sq.toNat mt.toNat) p.W sn).map B) ∧ Rd w' pv p.H ((gPath p.d p.ep (ends p p.m) sq.toNat p.H).map B) ∧ (∀ k, wv.ownBlock = some k → w.heap.size ≤ k ∧ ¬ SpM p k) ∧ ∀ k, pv.ownBlock = some k → w.heap.size ≤ k ∧ ¬ SpM p k)) := by
  refine fn_start (N := 73) Tryz.func26 rfl rfl rfl fun ac hk => ?_
  have hs := St.start2 hk ho.ne hsp.hg hsp.hc
  refine wp_seq ?_
  refine wp_reg ?_
  refine s_box hs rfl rfl rfl fun ac ww g3 hs => ?_
  refine s_alloc hs ty56 rfl fun ac ww g4 hs => ?_
  refine s_q hs (c_assign (hs.ev rfl)) rfl fun ac hs => ?_
  refine s_end ?_
  replace hs := hs.sub (F' := [(0, _), (3, _), (4, _), (5, _)]) ⟨rfl, rfl, rfl, rfl, trivial⟩
  refine then_n ?_
  refine wp_seq ?_
  refine wp_reg ?_
  refine s_q hs (c_move (hs.ev rfl)) rfl fun ac hs => ?_
  refine s_call hs fu74 (.cons (hs.ev rfl) .nil) (spring_Rules p ho 0 K t _ (hsp.re hs.fr (hs.seg (i := 2) rfl) (hs.seg (i := 3) rfl) (fun _ _ _ h => .inl h) fun v h => ⟨.inl h, (hsp.tree v h).2⟩)) rfl fun ac ww v14 hf hp hs => ?_
  obtain rfl := hp
  replace hs := hs [] (.nil _ _)
  refine s_alloc hs ty33 rfl fun ac ww g6 hs => ?_
  refine s_storeW (i := 0) hs ty33 rfl rfl rfl (by rfl) (by rfl) rfl fun ww hs => ?_
  refine s_end ?_
  replace hs := hs.sub (F' := [(0, _), (3, _), (4, _), (5, _), (6, _)]) ⟨rfl, rfl, rfl, rfl, rfl, trivial⟩
  refine then_n ?_
  refine wp_seq ?_
  refine wp_block ?_
  refine wp_seq ?_
  refine wp_reg ?_
  refine s_q hs (c_move (hs.ev rfl)) rfl fun ac hs => ?_
  refine s_q hs (c_eqlNil un29 (hs.ev rfl) (hs.ev rfl)) rfl fun ac hs => ?_
  refine s_q hs (c_assign (hs.ev rfl)) rfl fun ac hs => ?_
  refine s_end ?_
  replace hs := hs.sub (F' := [(0, _), (3, _), (4, _), (5, _), (6, _), (15, _)]) ⟨rfl, rfl, rfl, rfl, rfl, rfl, trivial⟩
  refine then_n ?_
  refine wp_cond_false (hs.ev rfl) ?_
  refine wp_seq ?_
  refine wp_reg ?_
  refine s_q hs (c_loadW ty33 ag33 (hs.ev rfl) (hs.seg (i := 0) rfl) (by rfl)) rfl fun ac hs => ?_
  refine s_q hs (c_loadW ty61 ag61 (hs.ev rfl) (hs.seg (i := 2) rfl) (by rfl)) rfl fun ac hs => ?_
  refine s_call hs fu75 (.cons (hs.ev rfl) (.cons (hs.ev rfl) .nil)) (proof_Right p.W p.S p.H d mt sn ep sq _) rfl fun ac ww v22 hf hp hs => ?_
  obtain rfl := hp
  replace hs := hs [] (.nil _ _)
  refine s_q hs (c_not (hs.ev rfl)) rfl fun ac hs => ?_
  refine s_q hs (c_assign (hs.ev rfl)) rfl fun ac hs => ?_
  refine s_end ?_
  replace hs := hs.sub (F' := [(0, _), (3, _), (4, _), (5, _), (6, _), (19, _)]) ⟨rfl, rfl, rfl, rfl, rfl, rfl, trivial⟩
  refine then_n ?_
  refine s_cond hs rfl (fun hc => ?_) (fun hc => ?_)
  · try simp only [decide_eq_true_eq, decide_eq_false_iff_not, Bool.not_eq_true', Bool.not_eq_false', Bool.and_eq_true, Bool.or_eq_true, Bool.or_eq_false_iff] at hc
    have hno : clRight p.W p.S p.H d mt sn ep sq = false := by simpa using hc
    refine wp_seq ?_
    refine wp_reg ?_
    refine s_q hs (c_buildS ty56 bp56 .nil trivial (by simp [flatCells, Value.cells]) rfl) rfl fun ac hs => ?_
    refine s_storeW (i := 1) hs ty56 rfl rfl rfl (by rfl) (by rfl) rfl fun ww hs => ?_
    refine s_q hs (c_assign (hs.ev rfl)) rfl fun ac hs => ?_
    refine s_end ?_
    replace hs := hs.sub (F' := [(0, _), (3, _), (4, _), (5, _), (6, _)]) ⟨rfl, rfl, rfl, rfl, rfl, trivial⟩
    refine then_n ?_
    refine wp_ret ?_
    refine blk_r ?_
    refine then_r ?_
    refine s_ret hs rfl (.cell (hs.tmp rfl) (run_loadA ty56 ag56 (hs.seg (i := 1) rfl) rfl (by rfl)) (.tmp (hs.tmp rfl) .nil)) rfl ⟨_, rfl, hs.fr, ?_⟩
    exact .inl ⟨hno, rfl, K, t, hsp.re hs.fr (hs.seg (i := 3) rfl) (hs.seg (i := 4) rfl) (fun _ _ _ h => .inl h) fun v h => ⟨.inl h, (hsp.tree v h).2⟩⟩
  · try simp only [decide_eq_true_eq, decide_eq_false_iff_not, Bool.not_eq_true', Bool.not_eq_false', Bool.and_eq_true, Bool.or_eq_true, Bool.or_eq_false_iff] at hc
    have hyes : clRight p.W p.S p.H d mt sn ep sq = true := by simpa using hc
    obtain ⟨hR, hd0, hdW, hsn0, hsnW, hep, hsq, hmt0, hmtS⟩ := clRight_iff.1 hyes
    rw [Int.toNat_natCast] at hsq
    have hsqm : sq.toNat < p.m := hsq
    obtain ⟨mn, rfl⟩ := int_of hmt0
    have hel1 : elOk p (sq.toNat : Int) (mn : Int) = true := elOk_iff.2 (by omega)
    have hlf : lfOk p.m (sq.toNat : Int) = true := by simp [lfOk]; omega
    refine wp_skip ?_
    refine blk_n ?_
    refine then_n ?_
    refine wp_seq ?_
    refine wp_reg ?_
    refine s_q hs (c_move (hs.ev rfl)) rfl fun ac hs => ?_
    refine s_q hs (c_fld fl61_1 (hs.ev rfl)) rfl fun ac hs => ?_
    refine s_q hs (c_fld fl59_1 (hs.ev rfl)) rfl fun ac hs => ?_
    refine s_q hs (c_loadS un25 rfl (hs.ev rfl) (hs.seg (i := 2) rfl) rfl) rfl fun ac hs => ?_
    refine s_q hs (c_cvUI un25 un3 (hs.ev rfl)) rfl fun ac hs => ?_
    refine s_q hs (c_fld fl61_1 (hs.ev rfl)) rfl fun ac hs => ?_
    refine s_q hs (c_fld fl59_2 (hs.ev rfl)) rfl fun ac hs => ?_
    refine s_q hs (c_loadS un3 rfl (hs.ev rfl) (hs.seg (i := 2) rfl) rfl) rfl fun ac hs => ?_
    have hsz0 := hs.fr.size
    have hA := ownA2 (A := [_, _, _]) hs
    have hsA := hs
    obtain ⟨hspE, hfrE⟩ := hsp.free.keep hsp hs.fr (fun k h => h.elim .inl fun h => .inr (.inl h)) ((hs.seg (i := 3) rfl).trans hsp.hg.symm) ((hs.seg (i := 4) rfl).trans hsp.hc.symm)
    replace hfrE : SpFr ww p K t (fun k => w.heap.size ≤ k ∧ k < ww.heap.size) := hfrE.mono fun _ h => h.1
    
    refine s_callL hs fu16 (.cons (hs.ev rfl) (.cons (hs.ev rfl) (.cons (hs.ev rfl) .nil))) (spring_Element p ho K t (sq.toNat : Int) (mn : Int) _ hspE) (fun k _ h => .inl h) rfl fun ac ww v34 hf hp hs => ?_
    rw [elB, elR, if_pos hel1, if_pos hel1, Int.toNat_natCast, Int.toNat_natCast] at hp
    obtain ⟨rfl, K1, hsp1, _, hn1⟩ := hp
    replace hfrE := hfrE.call hf (fun _ h => h.2) hn1
    have hsz := hf.size
    obtain ⟨ha1, ha2⟩ := keepA (A := [_, _, _]) ho hsA hf hsp1.hg hsp1.hc
    replace hs := hs _ ha1 ha2
    have hfrA := hs.fr
    have hownA := hs.own
    replace hs := hs.rebase
    refine s_q hs (c_move (hs.ev rfl)) rfl fun ac hs => ?_
    refine s_q hs (c_extract (hs.ev rfl) rfl) rfl fun ac hs => ?_
    refine s_q hs (c_extract (hs.ev rfl) rfl) rfl fun ac hs => ?_
    refine s_alloc hs ty36 rfl fun ac ww g7 hs => ?_
    refine s_storeW (i := 0) hs ty36 rfl rfl rfl (by rw [List.length_map, el_length]) (all_map_B _) rfl fun ww hs => ?_
    refine s_q hs (c_assign (hs.ev rfl)) rfl fun ac hs => ?_
    refine s_end ?_
    replace hs := hs.sub (F' := [(0, _), (3, _), (4, _), (5, _), (6, _), (7, _), (8, _)]) ⟨rfl, rfl, rfl, rfl, rfl, rfl, rfl, trivial⟩
    refine then_n ?_
    refine wp_seq ?_
    refine wp_seq ?_
    refine wp_reg ?_
    refine s_q hs (c_move (hs.ev rfl)) rfl fun ac hs => ?_
    refine s_q hs (c_neqI (hs.ev rfl) (hs.ev rfl)) rfl fun ac hs => ?_
    refine s_end ?_
    replace hs := hs.sub (F' := [(0, _), (3, _), (4, _), (5, _), (6, _), (7, _), (8, _), (38, _)]) ⟨rfl, rfl, rfl, rfl, rfl, rfl, rfl, rfl, trivial⟩
    refine then_n ?_
    refine wp_cond_false (hs.ev rfl) ?_
    refine wp_skip ?_
    refine then_n ?_
    refine wp_seq ?_
    refine wp_reg ?_
    refine s_q hs (c_move (hs.ev rfl)) rfl fun ac hs => ?_
    refine s_q hs (c_fld fl61_1 (hs.ev rfl)) rfl fun ac hs => ?_
    refine s_q hs (c_fld fl59_1 (hs.ev rfl)) rfl fun ac hs => ?_
    refine s_q hs (c_loadS un25 rfl (hs.ev rfl) (hs.seg (i := 3) rfl) rfl) rfl fun ac hs => ?_
    refine s_q hs (c_cvUI un25 un3 (hs.ev rfl)) rfl fun ac hs => ?_
    obtain ⟨hspP, hfrP⟩ := hfrE.keep hsp1 hs.fr (keysA (A := [_, _, _]) hA) ((hs.seg (i := 4) rfl).trans hsp1.hg.symm) ((hs.seg (i := 5) rfl).trans hsp1.hc.symm)
    have hb7 := (hs.seg (i := 0) rfl)
    have hszP := Nat.le_trans hsz hs.fr.size
    have hszP0 := hszP
    replace hs := (hs.unrebase hfrA hownA).pick (L' := [_, _, _, _, _]) (.cons _ (.refl _))
    have hsB := hs
    refine s_callL hs fu17 (.cons (hs.ev rfl) (.cons (hs.ev rfl) .nil)) (spring_Path p ho K1 t (sq.toNat : Int) _ hspP) (fun k _ h => .inl h) rfl fun ac ww v47 hf hp hs => ?_
    rw [lfE, if_pos hlf, pN, if_pos hlf, pW, if_pos hlf, Int.toNat_natCast] at hp
    obtain ⟨tv, rfl, hrt, hot, K2, pv2, hst2, hsn2⟩ := hp
    obtain ⟨tad, tcap, rfl, htc, htm⟩ := Rd.sl hrt
    replace hfrP := hfrP.tree hf (fun k h => Nat.lt_of_lt_of_le h.2 hszP) hsn2
    replace hb7 := hf.keepT hb7 fun i hi => hi.elim (fun e => ⟨_, _, _, e ▸ hspP.hg, rfl⟩) fun e => ⟨_, _, _, e ▸ hspP.hc, rfl⟩
    obtain ⟨hb1, hb2⟩ := keepA (A := [_, _, _]) ho hsB hf hst2.1.hg hst2.1.hc
    replace hs := hs _ hb1 hb2
    have hfrB := hs.fr
    have hownB := hs.own
    replace hs := hs.rebase
    refine s_q hs (c_move (hs.ev rfl)) rfl fun ac hs => ?_
    refine s_q hs (c_extract (hs.ev rfl) rfl) rfl fun ac hs => ?_
    refine s_q hs (c_extract (hs.ev rfl) rfl) rfl fun ac hs => ?_
    refine s_q hs (c_assign (hs.ev rfl)) rfl fun ac hs => ?_
    refine s_q hs (c_assign (hs.ev rfl)) rfl fun ac hs => ?_
    refine s_end ?_
    replace hs := hs.sub (F' := [(3, _), (4, _), (5, _), (6, _), (7, _), (8, _), (9, _)]) ⟨rfl, rfl, rfl, rfl, rfl, rfl, rfl, trivial⟩
    refine then_n ?_
    refine wp_seq ?_
    refine wp_seq ?_
    refine wp_reg ?_
    refine s_q hs (c_move (hs.ev rfl)) rfl fun ac hs => ?_
    refine s_q hs (c_neqI (hs.ev rfl) (hs.ev rfl)) rfl fun ac hs => ?_
    refine s_end ?_
    replace hs := hs.sub (F' := [(3, _), (4, _), (5, _), (6, _), (7, _), (8, _), (9, _), (51, _)]) ⟨rfl, rfl, rfl, rfl, rfl, rfl, rfl, rfl, trivial⟩
    refine then_n ?_
    refine wp_cond_false (hs.ev rfl) ?_
    refine wp_skip ?_
    refine then_n ?_
    refine wp_seq ?_
    refine wp_region_rgX (J := [13, 14]) pmix 16 (by kernel_rfl) (by kernel_rfl) rfl rfl hs ?_
    simp only [List.take_succ_cons, List.take_zero]
    refine rg_q (fun ac ww h => c_loadW ty61 ag61 (h.ev rfl) (h.blk (hs.seg (i := 2) rfl)) (by simp)) rfl ?_
    refine rg_call fu77 (fun ac ww h => (.cons (h.ev rfl) .nil)) (fun ww hf => proof_place d (mn : Int) sn ep sq _) rfl ?_
    refine rg_q (fun ac ww h => c_fld fl61_1 (h.ev rfl)) rfl ?_
    refine rg_q (fun ac ww h => c_fld fl59_2 (h.ev rfl)) rfl ?_
    refine rg_q (fun ac ww h => c_loadS un3 rfl (h.ev rfl) (h.blk (hs.seg (i := 2) rfl)) rfl) rfl ?_
    refine rg_q (fun ac ww h => c_loadW ty36 rfl (h.ev rfl) (h.blk hb7) (show (List.map B (el p sq.toNat mn)).length = 16 by rw [List.length_map, el_length])) rfl ?_
    refine rg_q (fun ac ww h => c_fld fl33_0 (h.ev rfl)) rfl ?_
    refine rg_q (fun ac ww h => c_loadS un3 rfl (h.ev rfl) (h.blk (hs.seg (i := 0) rfl)) rfl) rfl ?_
    refine rg_q (fun ac ww h => c_fld fl61_2 (h.ev rfl)) rfl ?_
    refine rg_q (fun ac ww h => c_loadS un3 rfl (h.ev rfl) (h.blk (hs.seg (i := 2) rfl)) rfl) rfl ?_
    refine rg_callE (tupG [.agg ((shL d ep sq (mn : Int) (el p sq.toNat mn) p.W sn).map B).toArray] [I (shE (mn : Int) p.W sn)] (rowS (shN (mn : Int) p.W sn) (shW d ep sq (mn : Int) (el p sq.toNat mn) p.W sn))) (fun _ _ _ _ _ h => h) fu76 (fun ac ww h => ?_) rfl ?_
    · exact ⟨_, .cons (h.ev rfl) (.cons (h.ev rfl) (.cons (h.ev rfl) (.cons (h.ev rfl) (.cons (h.ev rfl) (.nil))))), ladder_ShowA d ep sq (mn : Int) (el p sq.toNat mn) p.W sn (el_length _ _ _) _⟩
    refine rg_moveG rfl rfl rfl ?_
    refine rg_extGc rfl rfl rfl (fun _ => rfl) ?_
    refine rg_extGe rfl rfl rfl rfl ?_
    refine rg_extGc rfl rfl rfl (fun _ => rfl) ?_
    refine rg_alloc ty36 rfl ?_
    refine rg_nil fun ac ww L' hf hfe hs hlk => ?_
    simp only [List.drop_succ_cons, List.drop_zero]
    obtain ⟨v10, L10, M10, h10, e10, ⟨v67, L67, M67, h67, e67, ⟨v54, L54, M54, h54, e54, ⟨v65, L65, M65, h65, e65, rfl, rfl⟩, rfl⟩, rfl⟩, rfl⟩ := hfe
    replace hs := hs.add h10
    replace hs := hs.add h67
    replace hs := hs.add h54
    replace hs := hs.add h65
    obtain ⟨g10, rfl, rfl⟩ := e10
    obtain ⟨tv65, rfl, e65⟩ := e65
    obtain ⟨-, rfl⟩ := e54
    obtain rfl := lk_move (j := 11) hlk (by decide) rfl (by kernel_rfl) h54 h65
    obtain ⟨-, rfl⟩ := e67
    obtain rfl := lk_ext (j := 13) hlk (by decide) rfl (by kernel_rfl) h67 h54 rfl
    obtain rfl := e65
    refine sk_storeW (i := 0) hs ty36 rfl rfl rfl (by rw [List.length_map, shL_length]) (all_map_B _) rfl (fun ww hs => late_turn rfl rfl (late_turn rfl rfl (late_nil))) fun ww hs => ?_
    refine s_q hs (c_assign (hs.ev rfl)) rfl fun ac hs => ?_
    refine s_q hs (c_assign (hs.ev rfl)) rfl fun ac hs => ?_
    refine s_end ?_
    obtain ⟨wad, wcap, rfl, hwc, hwm⟩ := Rd.sl (Rd.of_row (hs.get (i := 1) rfl))
    have hsl := shL_length d ep sq (mn : Int) (el p sq.toNat mn) p.W sn
    have hslm : (List.map B (shL d ep sq (mn : Int) (el p sq.toNat mn) p.W sn)).length = 16 := by rw [List.length_map, hsl]
    replace hs := hs.sub (F' := [(4, _), (5, _), (9, _), (10, _), (11, _)]) ⟨rfl, rfl, rfl, rfl, rfl, trivial⟩
    refine then_n ?_
    refine wp_seq ?_
    refine wp_reg ?_
    refine s_q hs (c_loadW ty36 rfl (hs.ev rfl) (hs.seg (i := 0) rfl) hslm) rfl fun ac hs => ?_
    refine s_q hs (c_move (hs.ev rfl)) rfl fun ac hs => ?_
    refine s_q hs (c_move (hs.ev rfl)) rfl fun ac hs => ?_
    refine s_q hs (c_buildS (zc := (shL d ep sq (mn : Int) (el p sq.toNat mn) p.W sn).map B ++ [.slice wad (shN (mn : Int) p.W sn) wcap, .slice tad p.H tcap]) ty56 bp56 (.cons (hs.ev rfl) (.cons (hs.ev rfl) (.cons (hs.ev rfl) .nil))) ⟨(by simp [Value.cells, hsl]), (by simp [Value.cells, hsl]), (by simp [Value.cells, hsl]), trivial⟩ (by simp [flatCells, Value.cells, hsl]) (by simp [flatCells, Value.cells, hsl])) rfl fun ac hs => ?_
    refine s_storeW (i := 3) hs ty56 rfl rfl rfl (by simp [hsl]) (by simp [Value.oneCell', B]) rfl fun ww hs => ?_
    refine s_q hs (c_assign (hs.ev rfl)) rfl fun ac hs => ?_
    refine s_end ?_
    replace hs := hs.sub (F' := [(4, _), (5, _)]) ⟨rfl, rfl, trivial⟩
    refine then_n ?_
    refine wp_ret ?_
    refine s_ret hs rfl (.cell (hs.tmp rfl) (run_loadA ty56 ag56 (hs.seg (i := 3) rfl) (List.take_of_length_le (by simp [hsl])) (by simp [hsl])) (.tmp (hs.tmp rfl) .nil)) rfl ⟨_, rfl, (Fr.rebase hfrB hownB hs.fr), ?_⟩
    simp only [Int.toNat_natCast]
    have hap : ∀ k, Value.ownBlock (.slice wad (shN (mn : Int) p.W sn) wcap) = some k → ¬ SpM p k := fun k hk hm => hm.elim (apart_at hs.has.apart (i := 1) (j := 5) rfl rfl (by decide) k hk) (apart_at hs.has.apart (i := 1) (j := 6) rfl rfl (by decide) k hk)
    refine .inr ⟨hyes, ⟨K2, pv2, (hfrP.keep hst2.1 hs.fr (keysA (A := [_, _, _]) hA) ((hs.seg (i := 5) rfl).trans hst2.1.hg.symm) ((hs.seg (i := 6) rfl).trans hst2.1.hc.symm)).1⟩, _, _, rfl, Rd.of_row (hs.get (i := 1) rfl), hrt.fr hs.fr (fun k hk hm => ?_), fun k hk => ⟨((hs.unrebase hfrB hownB).own _ (List.mem_of_getElem? (i := 1) rfl) k hk).resolve_right (hap k hk), hap k hk⟩, fun k hk => ⟨Nat.le_trans hsz0 (Nat.le_trans hszP0 (hot k hk).1), (hot k hk).2⟩⟩
    have h1 := hot k hk
    rcases keysA (A := [_, _, _]) hA k hm with e | e | e
    · exact h1.2 (.inl e)
    · exact h1.2 (.inr e)
    · exact absurd (Nat.lt_of_lt_of_le e.2 hszP) (Nat.not_lt_of_le h1.1)
end Go.Proofs.YtklajbdbnnceiaaGreat
end

section
/- What a credential shows. -/
set_option linter.unusedSimpArgs false
set_option linter.unusedVariables false
set_option maxRecDepth 100000
namespace Go.Proofs.YtklajbdbnnceiaaGreat
open Go Go.Fw
open Sha
theorem cred_way {l : List UInt8} (h : l.length = 16) (wv pv : Value) : (l.map B ++ [wv, pv])[16]? = some wv := by
  rw [List.getElem?_append_right (by rw [List.length_map]; omega), List.length_map, h]; rfl
theorem cred_path {l : List UInt8} (h : l.length = 16) (wv pv : Value) : (l.map B ++ [wv, pv])[17]? = some pv := by
  rw [List.getElem?_append_right (by rw [List.length_map]; omega), List.length_map, h]; rfl
theorem cred_leaf {l : List UInt8} (h : l.length = 16) (wv pv : Value) : ((l.map B ++ [wv, pv]).drop 0).take 16 = l.map B := by
  rw [List.drop_zero, List.take_append_of_le_length (by rw [List.length_map]; omega), List.take_of_length_le (by rw [List.length_map]; omega)]
/-- What is learned of a shown claim, or why it is not shown. -/
def ckR (W S H d mt sn : Int) (ep sq : UInt32) (rt lf ws : List UInt8) (nw : Nat) (ps : List UInt8) (np : Nat) : List UInt8 × Int :=
  if clRight W S H d mt sn ep sq = true then
    if (np : Int) = H then
      if rsE mt W sn nw = 0 then
        if chkB d ep H rt (sq.toNat : Int) (climbB d ep sq (rsB d ep sq mt W sn lf ws nw) (mt + 1) S W) ps np = true then (rsB d ep sq mt W sn lf ws nw, 0) else ((List.replicate 16 (0 : UInt8)), 22)
      else ((List.replicate 16 (0 : UInt8)), rsE mt W sn nw)
    else ((List.replicate 16 (0 : UInt8)), 22)
  else ((List.replicate 16 (0 : UInt8)), 1)
theorem ckR_length {W S H d mt sn : Int} {ep sq : UInt32} {rt lf ws : List UInt8} {nw : Nat} {ps : List UInt8} {np : Nat} (hl : lf.length = 16) : (ckR W S H d mt sn ep sq rt lf ws nw ps np).1.length = 16 := by
  unfold ckR
  split
  · split
    · split
      · split
        · exact rsB_length hl _
        · simp
      · simp
    · simp
  · simp
set_option maxHeartbeats 4000000 in
theorem proof_Check (W S H d mt sn : Int) (ep sq : UInt32) (rt lf ws ps : List UInt8) (nw np : Nat) (wv pv : Value) (hrt : rt.length = 16) (hlf : lf.length = 16) (hwl : ws.length = nw * 16) (hpl : ps.length = np * 16) (w : World) (hqw : Rd w wv nw (ws.map B)) (hqp : Rd w pv np (ps.map B)) : Ctr Tryz.prog 40 [.agg #[I W, I S, I H], .agg (rt.map B).toArray, .agg #[I d, U ep, U sq, I mt, I sn], credV lf wv pv] w (fun _ => False) (fun v _ => v = .tuple #[.agg ((ckR W S H d mt sn ep sq rt lf ws nw ps np).1.map B).toArray, I (ckR W S H d mt sn ep sq rt lf ws nw ps np).2]) := by
  have hnwl := hqw.le
  have hnpl := hqp.le
  obtain ⟨wad, wcap, rfl, hwc, hwm⟩ := Rd.sl hqw
  obtain ⟨pad, pcap, rfl, hpc, hpm⟩ := Rd.sl hqp
  refine fn_start (N := 84) Tryz.func40 rfl rfl rfl fun ac hk => ?_
  have hs := St.start hk w
  refine wp_seq ?_
  refine wp_reg ?_
  refine s_box hs rfl rfl rfl fun ac ww g4 hs => ?_
  refine s_box hs rfl rfl rfl fun ac ww g5 hs => ?_
  refine s_box hs rfl rfl rfl fun ac ww g6 hs => ?_
  refine s_box hs rfl rfl rfl fun ac ww g7 hs => ?_
  refine s_alloc hs ty36 rfl fun ac ww g8 hs => ?_
  refine s_q hs (c_assign (hs.ev rfl)) rfl fun ac hs => ?_
  refine s_end ?_
  replace hs := hs.sub (F' := [(4, _), (5, _), (6, _), (7, _), (8, _), (9, _)]) ⟨rfl, rfl, rfl, rfl, rfl, rfl, trivial⟩
  refine then_n ?_
  refine wp_seq ?_
  refine wp_block ?_
  refine wp_seq ?_
  refine wp_reg ?_
  refine s_q hs (c_loadW ty33 ag33 (hs.ev rfl) (hs.seg (i := 4) rfl) (by rfl)) rfl fun ac hs => ?_
  refine s_q hs (c_loadW ty61 ag61 (hs.ev rfl) (hs.seg (i := 2) rfl) (by rfl)) rfl fun ac hs => ?_
  refine s_call hs fu75 (.cons (hs.ev rfl) (.cons (hs.ev rfl) .nil)) (proof_Right W S H d mt sn ep sq _) rfl fun ac ww v18 hf hp hs => ?_
  obtain rfl := hp
  replace hs := hs [] (.nil _ _)
  refine s_q hs (c_not (hs.ev rfl)) rfl fun ac hs => ?_
  refine s_q hs (c_assign (hs.ev rfl)) rfl fun ac hs => ?_
  refine s_end ?_
  replace hs := hs.sub (F' := [(4, _), (5, _), (6, _), (7, _), (8, _), (9, _), (15, _)]) ⟨rfl, rfl, rfl, rfl, rfl, rfl, rfl, trivial⟩
  refine then_n ?_
  refine s_cond hs rfl (fun hc => ?_) (fun hc => ?_)
  · try simp only [decide_eq_true_eq, decide_eq_false_iff_not, Bool.not_eq_true', Bool.not_eq_false', Bool.and_eq_true, Bool.or_eq_true, Bool.or_eq_false_iff] at hc
    have hno : ¬ clRight W S H d mt sn ep sq = true := by simpa using hc
    refine wp_seq ?_
    refine wp_reg ?_
    refine s_q hs (c_buildA ty36 un36 ty5 (zc := (List.replicate 16 (0 : UInt8)).map B) (vs := []) .nil (by simp) (by simp [flatCells]) rfl) rfl fun ac hs => ?_
    refine s_storeW (i := 0) hs ty36 rfl rfl rfl (by simp) (all_map_B _) rfl fun ww hs => ?_
    refine s_q hs (c_assign (hs.ev rfl)) rfl fun ac hs => ?_
    refine s_end ?_
    replace hs := hs.sub (F' := [(4, _), (5, _), (6, _), (7, _), (8, _), (9, _)]) ⟨rfl, rfl, rfl, rfl, rfl, rfl, trivial⟩
    refine then_n ?_
    refine wp_ret ?_
    refine blk_r ?_
    refine then_r ?_
    refine s_ret hs rfl (.cell (hs.tmp rfl) (run_loadA ty36 rfl (hs.seg (i := 0) rfl) (List.take_of_length_le (by simp)) (by simp)) (.tmp (hs.tmp rfl) .nil)) rfl ⟨_, rfl, hs.fr, ?_⟩
    show Value.tuple _ = Value.tuple _
    rw [ckR, if_neg hno]
    rfl
  · try simp only [decide_eq_true_eq, decide_eq_false_iff_not, Bool.not_eq_true', Bool.not_eq_false', Bool.and_eq_true, Bool.or_eq_true, Bool.or_eq_false_iff] at hc
    have hyes : clRight W S H d mt sn ep sq = true := by simpa using hc
    have hcr := clRight_iff.1 hyes
    obtain ⟨hlv, hS1, hS16, hH0, hH6⟩ := spRight_iff.1 hcr.1
    refine wp_seq ?_
    refine wp_reg ?_
    refine s_q hs (c_fld fl56_2 (hs.ev rfl)) rfl fun ac hs => ?_
    refine s_q hs (c_loadS un39 rfl (hs.ev rfl) (hs.seg (i := 1) rfl) (cred_path hlf _ _)) rfl fun ac hs => ?_
    refine s_q hs (c_lenS un39 (hs.ev rfl)) rfl fun ac hs => ?_
    refine s_q hs (c_fld fl33_2 (hs.ev rfl)) rfl fun ac hs => ?_
    refine s_q hs (c_loadS un3 rfl (hs.ev rfl) (hs.seg (i := 4) rfl) rfl) rfl fun ac hs => ?_
    refine s_q hs (c_neqI (hs.ev rfl) (hs.ev rfl)) rfl fun ac hs => ?_
    refine s_q hs (c_assign (hs.ev rfl)) rfl fun ac hs => ?_
    refine s_end ?_
    replace hs := hs.sub (F' := [(4, _), (5, _), (6, _), (7, _), (8, _), (9, _), (21, _)]) ⟨rfl, rfl, rfl, rfl, rfl, rfl, rfl, trivial⟩
    refine then_n ?_
    refine s_cond hs rfl (fun hc => ?_) (fun hc => ?_)
    · try simp only [decide_eq_true_eq, decide_eq_false_iff_not, Bool.not_eq_true', Bool.not_eq_false', Bool.and_eq_true, Bool.or_eq_true, Bool.or_eq_false_iff] at hc
      have hnp : ¬ (np : Int) = H := by simpa using hc
      refine wp_seq ?_
      refine wp_reg ?_
      refine s_q hs (c_buildA ty36 un36 ty5 (zc := (List.replicate 16 (0 : UInt8)).map B) (vs := []) .nil (by simp) (by simp [flatCells]) rfl) rfl fun ac hs => ?_
      refine s_storeW (i := 0) hs ty36 rfl rfl rfl (by simp) (all_map_B _) rfl fun ww hs => ?_
      refine s_q hs (c_assign (hs.ev rfl)) rfl fun ac hs => ?_
      refine s_end ?_
      replace hs := hs.sub (F' := [(4, _), (5, _), (6, _), (7, _), (8, _), (9, _)]) ⟨rfl, rfl, rfl, rfl, rfl, rfl, trivial⟩
      refine then_n ?_
      refine wp_ret ?_
      refine blk_r ?_
      refine then_r ?_
      refine s_ret hs rfl (.cell (hs.tmp rfl) (run_loadA ty36 rfl (hs.seg (i := 0) rfl) (List.take_of_length_le (by simp)) (by simp)) (.tmp (hs.tmp rfl) .nil)) rfl ⟨_, rfl, hs.fr, ?_⟩
      show Value.tuple _ = Value.tuple _
      rw [ckR, if_pos hyes, if_neg hnp]
      rfl
    · try simp only [decide_eq_true_eq, decide_eq_false_iff_not, Bool.not_eq_true', Bool.not_eq_false', Bool.and_eq_true, Bool.or_eq_true, Bool.or_eq_false_iff] at hc
      have hnp : (np : Int) = H := by simpa using hc
      refine wp_skip ?_
      refine blk_n ?_
      refine then_n ?_
      refine wp_seq ?_
      refine wp_reg ?_
      refine s_q hs (c_loadW ty61 ag61 (hs.ev rfl) (hs.seg (i := 2) rfl) (by rfl)) rfl fun ac hs => ?_
      refine s_call hs fu77 (.cons (hs.ev rfl) .nil) (proof_place d mt sn ep sq _) rfl fun ac ww v30 hf hp hs => ?_
      obtain rfl := hp
      replace hs := hs [] (.nil _ _)
      refine s_alloc hs ty165 rfl fun ac ww g10 hs => ?_
      refine s_storeW (i := 0) hs ty165 rfl rfl rfl (by rfl) (by rfl) (by simp) fun ww hs => ?_
      refine s_end ?_
      replace hs := hs.sub (F' := [(4, _), (5, _), (6, _), (7, _), (8, _), (9, _), (10, _)]) ⟨rfl, rfl, rfl, rfl, rfl, rfl, rfl, trivial⟩
      refine then_n ?_
      refine wp_seq ?_
      refine wp_reg ?_
      refine s_q hs (c_loadW ty165 ag165 (hs.ev rfl) (hs.seg (i := 0) rfl) (by rfl)) rfl fun ac hs => ?_
      refine s_q hs (c_fld fl61_1 (hs.ev rfl)) rfl fun ac hs => ?_
      refine s_q hs (c_fld fl59_2 (hs.ev rfl)) rfl fun ac hs => ?_
      refine s_q hs (c_loadS un3 rfl (hs.ev rfl) (hs.seg (i := 3) rfl) rfl) rfl fun ac hs => ?_
      refine s_q hs (c_fld fl33_0 (hs.ev rfl)) rfl fun ac hs => ?_
      refine s_q hs (c_loadS un3 rfl (hs.ev rfl) (hs.seg (i := 5) rfl) rfl) rfl fun ac hs => ?_
      refine s_q hs (c_fld fl61_2 (hs.ev rfl)) rfl fun ac hs => ?_
      refine s_q hs (c_loadS un3 rfl (hs.ev rfl) (hs.seg (i := 3) rfl) rfl) rfl fun ac hs => ?_
      refine s_q hs (c_fld fl56_0 (hs.ev rfl)) rfl fun ac hs => ?_
      refine s_q hs (c_loadA ty36 rfl (hs.ev rfl) (hs.seg (i := 2) rfl) (cred_leaf hlf _ _) (show (List.map B lf).length = 16 by rw [List.length_map, hlf])) rfl fun ac hs => ?_
      refine s_q hs (c_fld fl56_1 (hs.ev rfl)) rfl fun ac hs => ?_
      refine s_q hs (c_loadS un39 rfl (hs.ev rfl) (hs.seg (i := 2) rfl) (cred_way hlf _ _)) rfl fun ac hs => ?_
      refine s_call hs fu83 (.cons (hs.ev rfl) (.cons (hs.ev rfl) (.cons (hs.ev rfl) (.cons (hs.ev rfl) (.cons (hs.ev rfl) (.cons (hs.ev rfl) .nil)))))) (ladder_RiseA d ep sq mt W sn lf ws nw _ hlf hwl _ (hqw.fr0 hs.fr)) rfl fun ac ww v44 hf hp hs => ?_
      obtain rfl := hp
      replace hs := hs [] (.nil _ _)
      refine s_q hs (c_move (hs.ev rfl)) rfl fun ac hs => ?_
      refine s_q hs (c_extract (hs.ev rfl) rfl) rfl fun ac hs => ?_
      refine s_q hs (c_extract (hs.ev rfl) rfl) rfl fun ac hs => ?_
      refine s_alloc hs ty36 rfl fun ac ww g11 hs => ?_
      refine s_storeW (i := 0) hs ty36 rfl rfl rfl (by rw [List.length_map, rsB_length hlf]) (all_map_B _) rfl fun ww hs => ?_
      refine s_q hs (c_assign (hs.ev rfl)) rfl fun ac hs => ?_
      refine s_end ?_
      replace hs := hs.sub (F' := [(4, _), (5, _), (6, _), (7, _), (8, _), (9, _), (10, _), (11, _), (12, _)]) ⟨rfl, rfl, rfl, rfl, rfl, rfl, rfl, rfl, rfl, trivial⟩
      refine then_n ?_
      refine wp_seq ?_
      refine wp_seq ?_
      refine wp_reg ?_
      refine s_q hs (c_move (hs.ev rfl)) rfl fun ac hs => ?_
      refine s_q hs (c_neqI (hs.ev rfl) (hs.ev rfl)) rfl fun ac hs => ?_
      refine s_end ?_
      replace hs := hs.sub (F' := [(4, _), (5, _), (6, _), (7, _), (8, _), (9, _), (10, _), (11, _), (12, _), (48, _)]) ⟨rfl, rfl, rfl, rfl, rfl, rfl, rfl, rfl, rfl, rfl, trivial⟩
      refine then_n ?_
      refine s_cond hs rfl (fun hc => ?_) (fun hc => ?_)
      · try simp only [decide_eq_true_eq, decide_eq_false_iff_not, Bool.not_eq_true', Bool.not_eq_false', Bool.and_eq_true, Bool.or_eq_true, Bool.or_eq_false_iff] at hc
        have hre : ¬ rsE mt W sn nw = 0 := by simpa using hc
        refine wp_seq ?_
        refine wp_reg ?_
        refine s_q hs (c_buildA ty36 un36 ty5 (zc := (List.replicate 16 (0 : UInt8)).map B) (vs := []) .nil (by simp) (by simp [flatCells]) rfl) rfl fun ac hs => ?_
        refine s_q hs (c_move (hs.ev rfl)) rfl fun ac hs => ?_
        refine s_storeW (i := 2) hs ty36 rfl rfl rfl (by simp) (all_map_B _) rfl fun ww hs => ?_
        refine s_q hs (c_assign (hs.ev rfl)) rfl fun ac hs => ?_
        refine s_end ?_
        replace hs := hs.sub (F' := [(4, _), (5, _), (6, _), (7, _), (8, _), (9, _), (10, _), (11, _)]) ⟨rfl, rfl, rfl, rfl, rfl, rfl, rfl, rfl, trivial⟩
        refine then_n ?_
        refine wp_ret ?_
        refine then_r ?_
        refine s_ret hs rfl (.cell (hs.tmp rfl) (run_loadA ty36 rfl (hs.seg (i := 2) rfl) (List.take_of_length_le (by simp)) (by simp)) (.tmp (hs.tmp rfl) .nil)) rfl ⟨_, rfl, hs.fr, ?_⟩
        show Value.tuple _ = Value.tuple _
        rw [ckR, if_pos hyes, if_pos hnp, if_neg hre]
        rfl
      · try simp only [decide_eq_true_eq, decide_eq_false_iff_not, Bool.not_eq_true', Bool.not_eq_false', Bool.and_eq_true, Bool.or_eq_true, Bool.or_eq_false_iff] at hc
        have hre : rsE mt W sn nw = 0 := by simpa using hc
        refine wp_skip ?_
        refine then_n ?_
        refine wp_seq ?_
        refine wp_reg ?_
        refine s_q hs (c_loadW ty165 ag165 (hs.ev rfl) (hs.seg (i := 1) rfl) (by rfl)) rfl fun ac hs => ?_
        refine s_q hs (c_loadW ty36 rfl (hs.ev rfl) (hs.seg (i := 0) rfl) (by rw [List.length_map, rsB_length hlf])) rfl fun ac hs => ?_
        refine s_q hs (c_fld fl61_1 (hs.ev rfl)) rfl fun ac hs => ?_
        refine s_q hs (c_fld fl59_2 (hs.ev rfl)) rfl fun ac hs => ?_
        refine s_q hs (c_loadS un3 rfl (hs.ev rfl) (hs.seg (i := 4) rfl) rfl) rfl fun ac hs => ?_
        refine s_q hs (c_addI (hs.ev rfl) (hs.ev rfl) (by omega) (by omega)) rfl fun ac hs => ?_
        refine s_q hs (c_fld fl33_1 (hs.ev rfl)) rfl fun ac hs => ?_
        refine s_q hs (c_loadS un3 rfl (hs.ev rfl) (hs.seg (i := 6) rfl) rfl) rfl fun ac hs => ?_
        refine s_q hs (c_fld fl33_0 (hs.ev rfl)) rfl fun ac hs => ?_
        refine s_q hs (c_loadS un3 rfl (hs.ev rfl) (hs.seg (i := 6) rfl) rfl) rfl fun ac hs => ?_
        refine s_call hs fu84 (.cons (hs.ev rfl) (.cons (hs.ev rfl) (.cons (hs.ev rfl) (.cons (hs.ev rfl) (.cons (hs.ev rfl) .nil))))) (ladder_Climb d ep sq (rsB d ep sq mt W sn lf ws nw) (mt + 1) S W (rsB_length hlf _) (by omega) (by omega) _) rfl fun ac ww v62 hf hp hs => ?_
        obtain rfl := hp
        replace hs := hs [] (.nil _ _)
        refine s_q hs (c_move (hs.ev rfl)) rfl fun ac hs => ?_
        refine s_q hs (c_extract (hs.ev rfl) rfl) rfl fun ac hs => ?_
        refine s_q hs (c_extract (hs.ev rfl) rfl) rfl fun ac hs => ?_
        refine s_alloc hs ty36 rfl fun ac ww g13 hs => ?_
        refine s_storeW (i := 0) hs ty36 rfl rfl rfl (by rw [List.length_map, climbB_length (rsB_length hlf _)]) (all_map_B _) rfl fun ww hs => ?_
        refine s_q hs (c_assign (hs.ev rfl)) rfl fun ac hs => ?_
        refine s_end ?_
        replace hs := hs.sub (F' := [(4, _), (5, _), (6, _), (7, _), (8, _), (9, _), (11, _), (13, _)]) ⟨rfl, rfl, rfl, rfl, rfl, rfl, rfl, rfl, trivial⟩
        refine then_n ?_
        refine wp_seq ?_
        refine wp_seq ?_
        refine wp_reg ?_
        refine s_q hs (c_fld fl61_0 (hs.ev rfl)) rfl fun ac hs => ?_
        refine s_q hs (c_loadS un3 rfl (hs.ev rfl) (hs.seg (i := 5) rfl) rfl) rfl fun ac hs => ?_
        refine s_q hs (c_fld fl61_1 (hs.ev rfl)) rfl fun ac hs => ?_
        refine s_q hs (c_fld fl59_0 (hs.ev rfl)) rfl fun ac hs => ?_
        refine s_q hs (c_loadS un25 rfl (hs.ev rfl) (hs.seg (i := 5) rfl) rfl) rfl fun ac hs => ?_
        refine s_q hs (c_fld fl33_2 (hs.ev rfl)) rfl fun ac hs => ?_
        refine s_q hs (c_loadS un3 rfl (hs.ev rfl) (hs.seg (i := 7) rfl) rfl) rfl fun ac hs => ?_
        refine s_q hs (c_loadW ty36 rfl (hs.ev rfl) (hs.seg (i := 6) rfl) (by rw [List.length_map, hrt])) rfl fun ac hs => ?_
        refine s_q hs (c_fld fl61_1 (hs.ev rfl)) rfl fun ac hs => ?_
        refine s_q hs (c_fld fl59_1 (hs.ev rfl)) rfl fun ac hs => ?_
        refine s_q hs (c_loadS un25 rfl (hs.ev rfl) (hs.seg (i := 5) rfl) rfl) rfl fun ac hs => ?_
        refine s_q hs (c_cvUI un25 un3 (hs.ev rfl)) rfl fun ac hs => ?_
        refine s_q hs (c_loadW ty36 rfl (hs.ev rfl) (hs.seg (i := 0) rfl) (by rw [List.length_map, climbB_length (rsB_length hlf _)])) rfl fun ac hs => ?_
        refine s_q hs (c_fld fl56_2 (hs.ev rfl)) rfl fun ac hs => ?_
        refine s_q hs (c_loadS un39 rfl (hs.ev rfl) (hs.seg (i := 4) rfl) (cred_path hlf _ _)) rfl fun ac hs => ?_
        refine s_call hs fu85 (.cons (hs.ev rfl) (.cons (hs.ev rfl) (.cons (hs.ev rfl) (.cons (hs.ev rfl) (.cons (hs.ev rfl) (.cons (hs.ev rfl) (.cons (hs.ev rfl) .nil))))))) (grove_Check H rt hrt d ep (sq.toNat : Int) np (climbB d ep sq (rsB d ep sq mt W sn lf ws nw) (mt + 1) S W) ps _ (climbB_length (rsB_length hlf _)) hpl _ (hqp.fr0 hs.fr)) rfl fun ac ww v80 hf hp hs => ?_
        obtain rfl := hp
        replace hs := hs [] (.nil _ _)
        refine s_q hs (c_not (hs.ev rfl)) rfl fun ac hs => ?_
        refine s_end ?_
        replace hs := hs.sub (F' := [(8, _), (9, _), (11, _), (81, _)]) ⟨rfl, rfl, rfl, rfl, trivial⟩
        refine then_n ?_
        refine s_cond hs rfl (fun hc => ?_) (fun hc => ?_)
        · try simp only [decide_eq_true_eq, decide_eq_false_iff_not, Bool.not_eq_true', Bool.not_eq_false', Bool.and_eq_true, Bool.or_eq_true, Bool.or_eq_false_iff] at hc
          have hck : ¬ chkB d ep H rt (sq.toNat : Int) (climbB d ep sq (rsB d ep sq mt W sn lf ws nw) (mt + 1) S W) ps np = true := by simpa using hc
          refine wp_seq ?_
          refine wp_reg ?_
          refine s_q hs (c_buildA ty36 un36 ty5 (zc := (List.replicate 16 (0 : UInt8)).map B) (vs := []) .nil (by simp) (by simp [flatCells]) rfl) rfl fun ac hs => ?_
          refine s_storeW (i := 3) hs ty36 rfl rfl rfl (by simp) (all_map_B _) rfl fun ww hs => ?_
          refine s_q hs (c_assign (hs.ev rfl)) rfl fun ac hs => ?_
          refine s_end ?_
          replace hs := hs.sub (F' := [(8, _), (9, _), (11, _)]) ⟨rfl, rfl, rfl, trivial⟩
          refine then_n ?_
          refine wp_ret ?_
          refine then_r ?_
          refine s_ret hs rfl (.cell (hs.tmp rfl) (run_loadA ty36 rfl (hs.seg (i := 3) rfl) (List.take_of_length_le (by simp)) (by simp)) (.tmp (hs.tmp rfl) .nil)) rfl ⟨_, rfl, hs.fr, ?_⟩
          show Value.tuple _ = Value.tuple _
          rw [ckR, if_pos hyes, if_pos hnp, if_pos hre, if_neg hck]
          rfl
        · try simp only [decide_eq_true_eq, decide_eq_false_iff_not, Bool.not_eq_true', Bool.not_eq_false', Bool.and_eq_true, Bool.or_eq_true, Bool.or_eq_false_iff] at hc
          have hck : chkB d ep H rt (sq.toNat : Int) (climbB d ep sq (rsB d ep sq mt W sn lf ws nw) (mt + 1) S W) ps np = true := by simpa using hc
          refine wp_skip ?_
          refine then_n ?_
          refine wp_seq ?_
          refine wp_reg ?_
          refine s_q hs (c_loadW ty36 rfl (hs.ev rfl) (hs.seg (i := 1) rfl) (by rw [List.length_map, rsB_length hlf])) rfl fun ac hs => ?_
          refine s_storeW (i := 3) hs ty36 rfl rfl rfl (by rw [List.length_map, rsB_length hlf]) (all_map_B _) rfl fun ww hs => ?_
          refine s_q hs (c_assign (hs.ev rfl)) rfl fun ac hs => ?_
          refine s_end ?_
          replace hs := hs.sub (F' := [(8, _), (9, _)]) ⟨rfl, rfl, trivial⟩
          refine then_n ?_
          refine wp_ret ?_
          refine s_ret hs rfl (.cell (hs.tmp rfl) (run_loadA ty36 rfl (hs.seg (i := 3) rfl) (List.take_of_length_le (show (List.map B (rsB d ep sq mt W sn lf ws nw)).length ≤ 16 by rw [List.length_map, rsB_length hlf]; exact Nat.le_refl _)) (show (List.map B (rsB d ep sq mt W sn lf ws nw)).length = 16 by rw [List.length_map, rsB_length hlf])) (.tmp (hs.tmp rfl) .nil)) rfl ⟨_, rfl, hs.fr, ?_⟩
          show Value.tuple _ = Value.tuple _
          rw [ckR, if_pos hyes, if_pos hnp, if_pos hre, if_pos hck]
          rfl
end Go.Proofs.YtklajbdbnnceiaaGreat
end

section
/- Regions with a frame of their own: calls that turn what was there and come to a known value. -/
set_option linter.unusedSimpArgs false
set_option linter.unusedVariables false
namespace Go.FwK
open Go Go.Fw
section
variable {P : Program} {ops : Array Oper} {N B1 : Nat} {w1 : World} {Fk : World → World → Prop} {K : List (Nat × Value) → Fes → Prop} {Fc : List (Nat × Value)} {Fe : Fes} {rest : List Oper}
variable {d : Tmp} {op : Op} {ty : TypeId} {pos : String} {aft : Array Edge}
theorem rg_callKc (hK : FrK Fk B1) {f : FuncId} {args : Array Operand} {vs : List Value} {tys : Array TypeId} {c : Value} (hF : Fun P f)
    (hargs : ∀ a w, RC Fk N Fc Fe ⟨some d, .call { callee := .value (.func f), args := args, argTypes := tys }, ty, pos, aft, none⟩ B1 w1 a w → Evs a args.toList vs)
    (hc : ∀ w, Fk w1 w → Calls P f vs.toArray w fun e w' => e = .returned c ∧ Fk w w') (hE : lookE Fe d = none)
    (k : RG Fk P ops N B1 w1 K ((d, c) :: Fc) Fe rest) : RG Fk P ops N B1 w1 K Fc Fe (⟨some d, .call { callee := .value (.func f), args := args, argTypes := tys }, ty, pos, aft, none⟩ :: rest) :=
  ⟨d, .c c, rfl, ⟨.inl ⟨rfl, fun a w h => by
    rw [run_call hF (hargs a w h)]
    exact Calls.mono (hc w h.fr) fun e w' ⟨he, hf⟩ => ⟨c, he, [], ⟨rfl, rfl⟩, hf, .nil _ _⟩⟩, fun h => by cases h⟩, hE, k⟩
end
end Go.FwK
end

section
/- Laws of proofs: an example. -/
set_option linter.unusedSimpArgs false
set_option linter.unusedVariables false
set_option maxRecDepth 100000
namespace Go.Proofs.YtklajbdbnnceiaaGreat
open Go Go.Fw
open Sha
/-- Calls to the spring alone: it stands, whichever columns are made. -/
abbrev SpK (p : Spr) (a b : World) : Prop := Fr (SpM p) a b ∧ (SpSome a p → SpSome b p)
theorem SpSome.fr0 {w w' : World} {p : Spr} (h : SpSome w p) (hf : Fr0 w w') : SpSome w' p := by
  obtain ⟨K, t, h⟩ := h
  exact ⟨K, t, h.fr0 hf⟩
theorem spK {w : World} {p : Spr} (h : SpSome w p) : FwK.FrK (SpK p) w.heap.size := by
  obtain ⟨K, t, h⟩ := h
  exact FwK.frK (M := SpM p) (R := fun a b => SpSome a p → SpSome b p) (fun k hk => hk.elim (fun e => e ▸ heap_lt h.hg) fun e => e ▸ heap_lt h.hc) (fun h k x => k (h x)) fun hf x => x.fr0 hf
theorem root_call {p : Spr} (ho : p.Ok) {w w2 : World} (h : SpSome w p) (hf : SpK p w w2) : Calls Tryz.prog 19 #[.pointer (some ⟨p.g, 0, none⟩)] w2 fun e w' => e = .returned (.agg ((gNode p.d p.ep (ends p p.m) p.H 0).map B).toArray) ∧ SpK p w2 w' := by
  obtain ⟨K, t, h2⟩ := hf.2 h
  refine Calls.mono (spring_Root p ho K t w2 h2) fun e w' ⟨v, he, hf, hv, K', pv, hst, _⟩ => ⟨he.trans (congrArg _ hv), hf, fun _ => ⟨K', some pv, hst.1⟩⟩
theorem awake_leaf {p : Spr} (h : SpIs p 1 1 0 (List.replicate 32 0) 0 0) : shL 0 0 0 0 (el p 0 0) p.W 0 = gNode p.d p.ep (ends p p.m) p.H 0 := by
  have hS : p.S = 1 := by have := h.S; omega
  have hH : p.H = 0 := by have := h.H; omega
  have hm : p.m = 1 := by rw [Spr.m, hH]
  rw [h.W, h.d, h.ep, hH, hm, gNode, node, gLf, ends, hS]
  have e1 : okS 0 1 0 = true := by decide
  have e2 : rightB ((0 : Nat) : Int) 1 = true := by decide
  rw [shL, if_pos e1]
  have e3 : chunk (rows (fun q => el p q 1) 1) 0 = el p 0 1 := by
    rw [rows_succ, show rows (fun q => el p q 1) 0 = [] from rfl, List.nil_append]
    show ((el p 0 1).drop (16 * 0)).take 16 = _
    rw [List.drop_zero, List.take_of_length_le (by rw [el_length]; exact Nat.le_refl _)]
  rw [e3, el_succ, upB, h.W, h.d, h.ep, if_pos e2]
  rfl
set_option maxHeartbeats 4000000 in
theorem law09_awake  (w : World)  : Ctr Tryz.prog 25 [] w (fun _ => False) (fun v _ => v = .bool true) := by
  refine fn_start (N := 31) Tryz.func25 rfl rfl rfl fun ac hk => ?_
  have hs := St.start hk w
  refine wp_seq ?_
  refine wp_reg ?_
  refine s_q hs (c_assign (hs.ev rfl)) rfl fun ac hs => ?_
  refine s_end ?_
  refine then_n ?_
  refine wp_seq ?_
  refine wp_reg ?_
  refine s_q hs (c_buildS ty33 bp33 (.cons (hs.ev rfl) (.cons (hs.ev rfl) .nil)) ⟨rfl, rfl, trivial⟩ (by simp [flatCells, Value.cells]) rfl) rfl fun ac hs => ?_
  refine s_q hs (c_buildA ty129 un129 ty5 (zc := (List.replicate 32 (0 : UInt8)).map B) (vs := []) .nil (by simp) (by simp [flatCells]) rfl) rfl fun ac hs => ?_
  have hs0 := hs
  refine s_call hs fu14 (.cons (hs.ev rfl) (.cons (hs.ev rfl) (.cons (hs.ev rfl) (.cons (hs.ev rfl) .nil)))) (spring_New 1 1 0 0 0 (List.replicate 32 (0 : UInt8)) (by simp) _) rfl fun ac ww v8 hf hp hs => ?_
  have hsz0 := hs0.fr.size
  have hf0 := hf
  obtain ⟨p, hsi, hsp, hg0, hc0, rfl⟩ : ∃ p, SpIs p _ _ _ _ _ _ ∧ SpAt ww p 0 (fun _ => none) none ∧ _ ≤ p.g ∧ _ ≤ p.cg ∧ _ := hp.elim (fun h => absurd h.1 (by rw [show spFits 1 1 0 0 0 = true from by decide]; simp)) (fun h => h.2)
  replace hs := hs [] (.nil _ _)
  have hg1 : w.heap.size ≤ p.g := Nat.le_trans hsz0 hg0
  have hc1 : w.heap.size ≤ p.cg := Nat.le_trans hsz0 hc0
  have ho := hsi.ok
  have hfr0 := hs.fr
  replace hs := St.start hs.know ww
  have hwW := hsi.W
  have hwS := hsi.S
  have hwH := hsi.H
  refine s_q hs (c_move (hs.ev rfl)) rfl fun ac hs => ?_
  refine s_q hs (c_extract (hs.ev rfl) rfl) rfl fun ac hs => ?_
  refine s_q hs (c_extract (hs.ev rfl) rfl) rfl fun ac hs => ?_
  refine s_q hs (c_assign (hs.ev rfl)) rfl fun ac hs => ?_
  refine s_q hs (c_assign (hs.ev rfl)) rfl fun ac hs => ?_
  refine s_end ?_
  replace hs := hs.sub (F' := [(0, _), (1, _)]) ⟨rfl, rfl, trivial⟩
  refine then_n ?_
  refine wp_seq ?_
  refine wp_reg ?_
  refine s_q hs (c_move (hs.ev rfl)) rfl fun ac hs => ?_
  refine s_q hs (c_buildS ty61 bp61 .nil trivial (by simp [flatCells, Value.cells]) rfl) rfl fun ac hs => ?_
  have hfr1 := hfr0.trans0 hs.fr
  refine s_callR hs fu26 (.cons (hs.ev rfl) (.cons (hs.ev rfl) .nil)) (proof_Issue p ho _ none 0 0 0 0 0 _ (hsp.fr0 hs.fr)) rfl fun ac ww v14 hf hp hs => ?_
  obtain ⟨hspA, wv, pv, rfl, hwv, hpv, _, _⟩ := (hp.elim (fun h => absurd h.1 (by
    have e1 : p.S = 1 := by omega
    have e2 : p.H = 0 := by omega
    rw [hwW, e1, e2]
    decide)) fun h => h.2)
  replace hfr0 := over_sp hfr1 hf hg1 hc1
  have hsl := shL_length 0 0 0 0 (el p 0 0) p.W 0
  have hwo := hwv.one
  have hpo := hpv.one
  refine s_q hs (c_move (hs.ev rfl)) rfl fun ac hs => ?_
  refine s_q hs (c_extract (hs.ev rfl) rfl) rfl fun ac hs => ?_
  refine s_q hs (c_extract (hs.ev rfl) rfl) rfl fun ac hs => ?_
  refine s_alloc hs ty56 rfl fun ac ww g3 hs => ?_
  refine s_storeW (i := 0) hs ty56 rfl rfl rfl (by simp [hsl]) (by simp [hwo, hpo]; exact fun x _ => rfl) rfl fun ww hs => ?_
  refine s_q hs (c_assign (hs.ev rfl)) rfl fun ac hs => ?_
  refine s_end ?_
  replace hs := hs.sub (F' := [(0, _), (1, _), (3, _), (4, _)]) ⟨rfl, rfl, rfl, rfl, trivial⟩
  refine then_n ?_
  refine wp_seq ?_
  have hb3 := hs.seg (i := 0) rfl
  have hfrS := hfr0.trans0 hs.fr
  have hspB : SpSome ww p := (hspA.fr0 hs.fr).elim fun K h => h.elim fun u h => ⟨K, some u, h⟩
  have hK := spK hspB
  refine FwK.wp_region_rgK pmix hK 7 (by kernel_rfl) rfl hs.know ?_
  simp only [List.take_succ_cons, List.take_zero]
  refine FwK.rg_q hK (fun ac w2 h => c_move (h.ev rfl)) rfl ?_
  refine FwK.rg_q hK (fun ac w2 h => c_eqlI (h.ev rfl) (h.ev rfl)) rfl ?_
  refine FwK.rg_q hK (fun ac w2 h => c_move (h.ev rfl)) rfl ?_
  refine FwK.rg_strip rfl rfl ?_
  refine FwK.rg_q hK (fun ac w2 h => c_fld fl56_0 (h.ev rfl)) rfl ?_
  refine FwK.rg_strip rfl rfl ?_
  refine FwK.rg_q hK (v := .agg ((shL 0 0 0 0 (el p 0 0) p.W 0).map B).toArray) (fun ac w2 h => c_loadA ty36 rfl (h.ev rfl) (h.fr.1.keepT hb3 fun i hi => by obtain ⟨K0, t0, h0⟩ := hspB; exact hi.elim (fun e => ⟨_, _, _, e ▸ h0.hg, rfl⟩) fun e => ⟨_, _, _, e ▸ h0.hc, rfl⟩) (by simp [hsl]) (by simp [hsl])) rfl ?_
  refine FwK.rg_strip rfl rfl ?_
  refine FwK.rg_q hK (fun ac w2 h => c_move (h.ev rfl)) rfl ?_
  refine FwK.rg_strip rfl rfl ?_
  refine FwK.rg_callKc hK fu19 (fun ac w2 h => .cons (h.ev rfl) .nil) (fun w2 hf => root_call ho hspB hf) rfl ?_
  refine FwK.rg_nil fun ac w2 L' hfk hfe hkn hhas hlk => ?_
  simp only [List.drop_succ_cons, List.drop_zero]
  have hfr0 := over_sp hfrS hfk.1 hg1 hc1
  replace hs := St.start hkn w2
  refine s_yes hs rfl rfl ?_
  refine s_q hs (c_tt (c_eqlAB un36 ty5 eg36 (hs.ev rfl) (hs.ev rfl) hsl (by rw [← awake_leaf hsi]; exact hsl)) (by rw [awake_leaf hsi]; simp)) rfl fun ac hs => ?_
  refine s_q hs (c_pick (hs.ev rfl) (hs.ev rfl) (hs.ev rfl)) rfl fun ac hs => ?_
  refine s_q hs (c_move (hs.ev rfl)) rfl fun ac hs => ?_
  refine s_yes hs rfl rfl ?_
  refine s_q hs (c_buildS ty33 bp33 (.cons (hs.ev rfl) (.cons (hs.ev rfl) (.cons (hs.ev rfl) .nil))) ⟨rfl, rfl, rfl, trivial⟩ (by simp [flatCells, Value.cells]) rfl) rfl fun ac hs => ?_
  refine s_yes hs rfl rfl ?_
  refine s_call hs fu73 (.cons (hs.ev rfl) (.cons (hs.ev rfl) .nil)) (proof_Cost 4 3 2 1 _) rfl fun ac ww v28 hf hp hs => ?_
  obtain rfl := hp
  replace hs := hs [] (.nil _ _)
  refine s_yes hs rfl rfl ?_
  refine s_q hs (c_tt (c_eqlI (hs.ev rfl) (hs.ev rfl)) (by decide)) rfl fun ac hs => ?_
  refine s_q hs (c_pick (hs.ev rfl) (hs.ev rfl) (hs.ev rfl)) rfl fun ac hs => ?_
  refine s_q hs (c_assign (hs.ev rfl)) rfl fun ac hs => ?_
  refine s_end ?_
  replace hs := hs.sub (F' := [(0, _)]) ⟨rfl, trivial⟩
  refine then_n ?_
  refine wp_ret ?_
  refine s_ret hs rfl (.tmp (hs.tmp rfl) .nil) rfl ⟨_, rfl, (hfr0.trans0 hs.fr), ?_⟩
  rfl
end Go.Proofs.YtklajbdbnnceiaaGreat
end

section
/- An example of a grove; nil groves. -/
set_option linter.unusedSimpArgs false
set_option linter.unusedVariables false
set_option maxRecDepth 100000
namespace Go.Proofs.YtklajbdbnnceiaaGreat
open Go Go.Fw
open Sha
theorem gPath_chunk {d : Int} {ep : UInt32} {ls : List UInt8} {q lv : Nat} (hls : ls.length = 16 * 2 ^ lv) (hq : q < 2 ^ lv) {k : Nat} (hk : k < lv) : chunk (gPath d ep ls q lv) k = gWay d ep ls q k := by
  have := rows_chunk (f := gWay d ep ls q) (N := lv) (fun j hj => by
    have := gNode_length (d := d) (ep := ep) hls j _ (beside_fit hq hj)
    simpa only [gWay, wayN, gNode] using this) lv (Nat.le_refl _) k hk
  exact this
theorem gpath_leads {d : Int} {ep : UInt32} {ls : List UInt8} {q lv : Nat} (hls : ls.length = 16 * 2 ^ lv) (hq : q < 2 ^ lv) : gRise d ep q (chunk ls q) (gPath d ep ls q lv) lv = gNode d ep ls lv 0 := by
  have h1 : gRise d ep q (chunk ls q) (gPath d ep ls q lv) lv = riseN (gJ d ep) q (gLf ls q) (wayN (gJ d ep) (gLf ls) q) lv := rise_congr lv fun k hk => gPath_chunk hls hq hk
  rw [h1, rise_node, Nat.div_eq_of_lt hq]
theorem gchk_own {d : Int} {ep : UInt32} {ls : List UInt8} {q lv : Nat} (hls : ls.length = 16 * 2 ^ lv) (hlv : lv ≤ 6) (hq : q < 2 ^ lv) : chkB d ep (lv : Nat) (gNode d ep ls lv 0) (q : Nat) (chunk ls q) (gPath d ep ls q lv) lv = true := by
  have h1 : foldOk (q : Nat) lv = true := fold_good (by omega) hlv (by exact_mod_cast hq)
  rw [chkB, foldE, foldB, if_pos h1, if_pos h1, Int.toNat_natCast, gpath_leads hls hq]
  simp
end Go.Proofs.YtklajbdbnnceiaaGreat
end

section
/- Honest proofs. -/
set_option linter.unusedSimpArgs false
set_option linter.unusedVariables false
set_option maxRecDepth 100000
namespace Go.Proofs.YtklajbdbnnceiaaGreat
open Go Go.Fw
open Sha
theorem el_climb (p : Spr) (q k n : Nat) : climbN p.d p.ep (i32 (q : Int)) (el p q k) (k : Nat) p.W n = el p q (k + n) := by
  have h := climbN_add p.d p.ep (i32 (q : Int)) (elE p q) 0 p.W k n
  rw [Int.zero_add] at h
  exact h.symm
theorem i32_seq (sq : UInt32) : i32 (sq.toNat : Int) = sq := by
  apply UInt32.toNat_inj.1
  have h := i32_toNat (sq.toNat : Int)
  have := UInt32.toNat_lt sq
  omega
theorem clR_okS {W S H d mt sn : Int} {ep sq : UInt32} (h : clRight W S H d mt sn ep sq = true) : okS mt W sn = true := by
  obtain ⟨hR, _, _, h1, h2, _, _, h3, h4⟩ := clRight_iff.1 h
  obtain ⟨g1, g2, g3, g4, g5⟩ := spRight_iff.1 hR
  simp only [okS, rightB, Bool.and_eq_true, decide_eq_true_eq]
  omega
section
variable {p : Spr} {m : Nat} {sn : Int} {sq : UInt32}
/-- The honest leaf, way, path. -/
abbrev hLf (p : Spr) (m : Nat) (sn : Int) (sq : UInt32) : List UInt8 := shL p.d p.ep sq (m : Int) (el p sq.toNat m) p.W sn
abbrev hWs (p : Spr) (m : Nat) (sn : Int) (sq : UInt32) : List UInt8 := shW p.d p.ep sq (m : Int) (el p sq.toNat m) p.W sn
abbrev hPs (p : Spr) (sq : UInt32) : List UInt8 := gPath p.d p.ep (ends p p.m) sq.toNat p.H
abbrev hRt (p : Spr) : List UInt8 := gNode p.d p.ep (ends p p.m) p.H 0
theorem honest_next (h : clRight p.W p.S p.H p.d m sn p.ep sq = true) : rsB p.d p.ep sq m p.W sn (hLf p m sn sq) (hWs p m sn sq) (shN m p.W sn) = el p sq.toNat (m + 1) ∧ rsE m p.W sn (shN m p.W sn) = 0 := by
  have h1 := meets (d := p.d) (ep := p.ep) (sq := sq) (e := el p sq.toNat m) (clR_okS h)
  refine ⟨h1.1.trans ?_, h1.2.1⟩
  rw [el_succ, i32_seq]
theorem climb_el (h : clRight p.W p.S p.H p.d m sn p.ep sq = true) {k : Nat} (hk : m + 1 ≤ k) (hkS : k ≤ p.S) : climbB p.d p.ep sq (el p sq.toNat (m + 1)) ((m : Int) + 1) k p.W = el p sq.toNat k ∧ climbE ((m : Int) + 1) k p.W = 0 := by
  obtain ⟨hR, _, _, _, _, _, _, _, _⟩ := clRight_iff.1 h
  obtain ⟨g1, g2, g3, g4, g5⟩ := spRight_iff.1 hR
  have hok : climbOk ((m : Int) + 1) k p.W = true := climbOk_iff.2 (by omega)
  rw [climbB, climbE, if_pos hok, if_pos hok]
  have e := el_climb p sq.toNat (m + 1) (k - (m + 1))
  rw [i32_seq, show m + 1 + (k - (m + 1)) = k by omega] at e
  rw [← e, show ((k : Int) - ((m : Int) + 1)).toNat = k - (m + 1) by omega]
  exact ⟨by push_cast; rfl, rfl⟩
theorem seq_lt (h : clRight p.W p.S p.H p.d m sn p.ep sq = true) : sq.toNat < p.m := by
  obtain ⟨_, _, _, _, _, _, h1, _, _⟩ := clRight_iff.1 h
  simpa [Spr.m] using h1
theorem end_chunk {p : Spr} {q : Nat} (h : q < p.m) : chunk (ends p p.m) q = el p q p.S := rows_chunk (f := fun q => el p q p.S) (N := p.m) (fun j _ => el_length p j p.S) p.m (Nat.le_refl _) q h
theorem chk_el (ho : p.Ok) (h : clRight p.W p.S p.H p.d m sn p.ep sq = true) : chkB p.d p.ep p.H (hRt p) (sq.toNat : Int) (el p sq.toNat p.S) (hPs p sq) p.H = true := by
  have hq := seq_lt h
  have hls := ends_length p p.m
  have h2 := gchk_own (d := p.d) (ep := p.ep) (ls := ends p p.m) (q := sq.toNat) (lv := p.H) hls ho.h6 hq
  rw [end_chunk hq] at h2
  exact h2
/-- Whatever leaf and way rise to a ladder's next element, under the right path: shown. -/
theorem check_climbs (ho : p.Ok) (h : clRight p.W p.S p.H p.d m sn p.ep sq = true) {lf ws : List UInt8} {nw k : Nat} (hr : rsE m p.W sn nw = 0) (hk : m + 1 ≤ k) (hkS : k ≤ p.S)
    (hc : climbB p.d p.ep sq (rsB p.d p.ep sq m p.W sn lf ws nw) ((m : Int) + 1) k p.W = el p sq.toNat k) : ckR p.W p.S p.H p.d m sn p.ep sq (hRt p) lf ws nw (hPs p sq) p.H = (rsB p.d p.ep sq m p.W sn lf ws nw, 0) := by
  obtain ⟨hR, _, _, _, _, _, _, _, _⟩ := clRight_iff.1 h
  obtain ⟨g1, g2, g3, g4, g5⟩ := spRight_iff.1 hR
  have h1 : climbOk ((m : Int) + 1) k p.W = true := climbOk_iff.2 (by omega)
  have h2 : climbOk (k : Int) p.S p.W = true := climbOk_iff.2 (by omega)
  have h3 := (climb_two (d := p.d) (ep := p.ep) (sq := sq) (e := rsB p.d p.ep sq m p.W sn lf ws nw) h1 h2).2
  have h4 : climbB p.d p.ep sq (el p sq.toNat k) (k : Int) p.S p.W = el p sq.toNat p.S := by
    rw [climbB, if_pos h2]
    have e := el_climb p sq.toNat k (p.S - k)
    rw [i32_seq, show k + (p.S - k) = p.S by omega] at e
    rw [← e, show ((p.S : Int) - (k : Int)).toNat = p.S - k by omega]
  rw [hc, h4] at h3
  rw [ckR, if_pos h, if_pos rfl, if_pos hr, ← h3, if_pos (chk_el ho h)]
theorem check_honest (ho : p.Ok) (h : clRight p.W p.S p.H p.d m sn p.ep sq = true) : ckR p.W p.S p.H p.d m sn p.ep sq (hRt p) (hLf p m sn sq) (hWs p m sn sq) (shN m p.W sn) (hPs p sq) p.H = (el p sq.toNat (m + 1), 0) := by
  obtain ⟨_, _, _, _, _, _, _, _, hmS⟩ := clRight_iff.1 h
  have h1 := honest_next h
  have h2 := check_climbs ho h (lf := hLf p m sn sq) (ws := hWs p m sn sq) (k := m + 1) h1.2 (Nat.le_refl _) (by omega) (by rw [h1.1]; have := (climb_el h (k := m + 1) (Nat.le_refl _) (by omega)).1; exact_mod_cast this)
  rw [h2, h1.1]
end
end Go.Proofs.YtklajbdbnnceiaaGreat
end

section
/- The law of what leads to a root. -/
set_option linter.unusedSimpArgs false
set_option linter.unusedVariables false
set_option maxRecDepth 100000
namespace Go.Proofs.YtklajbdbnnceiaaGreat
open Go Go.Fw
open Sha
section
variable {J : Nat → List UInt8 → List UInt8 → List UInt8} {lf lf2 : Nat → List UInt8} {n : Nat}
theorem node_congr (h : ∀ p, p < n → lf p = lf2 p) : ∀ k q, (q + 1) * 2 ^ k ≤ n → node J lf k q = node J lf2 k q
  | 0, q, hq => h q (by omega)
  | k + 1, q, hq => by
    obtain ⟨h1, h2, _⟩ := gfit hq
    rw [node, node, node_congr h k _ h1, node_congr h k _ h2]
theorem nodeTs_congr (h : ∀ p, p < n → lf p = lf2 p) : ∀ k q, (q + 1) * 2 ^ k ≤ n → nodeTs J lf (fun _ => []) k q = nodeTs J lf2 (fun _ => []) k q
  | 0, q, hq => rfl
  | k + 1, q, hq => by
    obtain ⟨h1, h2, _⟩ := gfit hq
    rw [nodeTs, nodeTs, nodeTs_congr h k _ h1, nodeTs_congr h k _ h2, node_congr h k _ h1, node_congr h k _ h2]
end
def lf16 (ls : List UInt8) (n q : Nat) : List UInt8 := if q < n then chunk ls q else List.replicate 16 0
theorem beside_ok {q lv k : Nat} (h : q < 2 ^ lv) (hk : k < lv) : (besideI (q / 2 ^ k) + 1) * 2 ^ k ≤ 2 ^ lv := beside_fit h hk
theorem grove_sound {d : Int} {ep : UInt32} {ls : List UInt8} {q lv : Nat} {l ws : List UInt8} (hls : ls.length = 16 * 2 ^ lv) (hl : l.length = 16) (hw : ws.length = lv * 16) (hq : q < 2 ^ lv) (h : gRise d ep q l ws lv = gNode d ep ls lv 0) (hne : ¬ (l = chunk ls q ∧ ws = gPath d ep ls q lv)) :
    clash (gNodeTs d ep ls lv 0) (gRiseTs d ep q l ws lv) = true := by
  cases hc : clash (gNodeTs d ep ls lv 0) (gRiseTs d ep q l ws lv) with
  | true => rfl
  | false =>
    exfalso
    have hq0 : q / 2 ^ lv = 0 := Nat.div_eq_of_lt hq
    have hcg : ∀ p, p < 2 ^ lv → gLf ls p = lf16 ls (2 ^ lv) p := fun p hp => by rw [lf16, if_pos hp]; rfl
    have hfit : (0 + 1) * 2 ^ lv ≤ 2 ^ lv := by omega
    have e1 : gNode d ep ls lv 0 = node (gJ d ep) (lf16 ls (2 ^ lv)) lv 0 := node_congr hcg lv 0 hfit
    have e2 : gNodeTs d ep ls lv 0 = nodeTs (gJ d ep) (lf16 ls (2 ^ lv)) (fun _ => []) lv 0 := nodeTs_congr hcg lv 0 hfit
    have hs := rise_sound (J := gJ d ep) (lf := lf16 ls (2 ^ lv)) (lt := fun _ => []) (id := q) (l := l) (way := chunk ws) (fun _ _ _ _ _ ha hc h => aboveX_inj ha hc h) (fun p => by
      unfold lf16
      split
      · exact chunk_len (by omega)
      · simp) hl lv (fun k hk => chunk_l hw hk) (by rw [hq0, ← e1]; exact h) (by rw [hq0, ← e2]; exact fun x hx y hy e => clash_not hc hx hy e)
    refine hne ⟨?_, sums_same hw (gPath_length hls hq lv (Nat.le_refl _)) fun i hi => ?_⟩
    · rw [hs.1, ← hcg q hq]; rfl
    · rw [hs.2 i hi, gPath_chunk hls hq hi, gWay, wayN, wayN, node_congr hcg i _ (beside_ok hq hi)]
theorem chunk_le (l : List UInt8) (k : Nat) : (chunk l k).length ≤ 16 := by rw [chunk, List.length_take]; omega
theorem gNode_le (d : Int) (ep : UInt32) (ls : List UInt8) : ∀ k q, (gNode d ep ls k q).length ≤ 16
  | 0, q => chunk_le ls q
  | k + 1, q => Nat.le_refl 16
theorem above_good {d : Int} {ep : UInt32} {x : Int} {a b : List UInt8} (ha : a.length ≤ 16) (hb : b.length ≤ 16) : ∃ kd tx, aboveX d ep x a b = kd :: tx ∧ tx.length ≤ 140737488355199 := ⟨_, _, rfl, by rw [List.length_append, List.length_append, gHead_length]; omega⟩
theorem gnode_good (d : Int) (ep : UInt32) (ls : List UInt8) : ∀ n q, ∀ t ∈ gNodeTs d ep ls n q, ∃ kd tx, t = kd :: tx ∧ tx.length ≤ 140737488355199
  | 0, q, t, ht => by simp [gNodeTs, nodeTs] at ht
  | n + 1, q, t, ht => by
    simp only [gNodeTs, nodeTs, List.mem_append, List.mem_singleton] at ht
    rcases ht with (ht | ht) | rfl
    · exact gnode_good d ep ls n _ t ht
    · exact gnode_good d ep ls n _ t ht
    · exact above_good (gNode_le d ep ls n _) (gNode_le d ep ls n _)
theorem grise_good (d : Int) (ep : UInt32) (q : Nat) (l ws : List UInt8) (hl : l.length = 16) : ∀ k, ∀ t ∈ gRiseTs d ep q l ws k, ∃ kd tx, t = kd :: tx ∧ tx.length ≤ 140737488355199
  | 0, t, ht => by simp [gRiseTs, riseTs] at ht
  | k + 1, t, ht => by
    simp only [gRiseTs, riseTs, List.mem_append, List.mem_singleton] at ht
    rcases ht with ht | rfl
    · exact grise_good d ep q l ws hl k t ht
    · have h1 : (riseN (gJ d ep) q l (chunk ws) k).length = 16 := riseN_length hl k
      unfold stepX
      split
      · exact above_good (chunk_le ws k) (by omega)
      · exact above_good (by omega) (chunk_le ws k)
end Go.Proofs.YtklajbdbnnceiaaGreat
end

section
/- Springs as the document has them. -/
set_option linter.unusedSimpArgs false
set_option linter.unusedVariables false
set_option maxRecDepth 100000
namespace Go.Proofs.YtklajbdbnnceiaaGreat
open Go Go.Fw
open Sha
theorem climb_el0 {p : Spr} (hlv : 0 ≤ levels p.W) (q n : Nat) (hn : n ≤ 16) : climbB p.d p.ep (i32 (q : Int)) (elE p q) 0 (n : Int) p.W = el p q n := by
  rw [climbB, if_pos (climbOk_iff.2 ⟨by omega, by omega, by omega, hlv⟩), el]
  congr 1
theorem ref06_ClimbEl {p : Spr} (hlv : 0 ≤ levels p.W) (q n : Nat) (hn : n ≤ 16) (w : World) : Ctr Tryz.prog 71 [.agg #[I p.d, U p.ep, U (i32 (q : Int))], .agg ((elE p q).map B).toArray, I 0, I n, I p.W] w (fun _ => False) fun v _ => v = .tuple #[.agg ((el p q n).map B).toArray, I (climbE 0 n p.W)] := by
  have h9 := ref06_Climb p.d p.ep (i32 (q : Int)) (elE p q) 0 (n : Int) p.W (elE_length p q) (by omega) (by omega) w
  rw [climb_el0 hlv q n hn] at h9
  exact h9
set_option maxHeartbeats 4000000 in
theorem ref08_Element (p : Spr) (ho : p.Ok) (hlv : 0 ≤ levels p.W) (q n : Nat) (hn : n ≤ 16) (w : World)  : Ctr Tryz.prog 21 [.agg #[I p.W, I p.S, I p.H], .agg (p.seed.map B).toArray, I p.d, U p.ep, I q, I n] w (fun _ => False) (fun v _ => v = .agg ((el p q n).map B).toArray) := by
  refine fn_start (N := 41) Tryz.func21 rfl rfl rfl fun ac hk => ?_
  have hs := St.start hk w
  refine wp_seq ?_
  refine wp_reg ?_
  refine s_box hs rfl rfl rfl fun ac ww g6 hs => ?_
  refine s_box hs rfl rfl rfl fun ac ww g7 hs => ?_
  refine s_alloc hs ty35 rfl fun ac ww g12 hs => ?_
  refine s_end ?_
  replace hs := hs.sub (F' := [(2, _), (3, _), (4, _), (5, _), (6, _), (7, _), (12, _)]) ⟨rfl, rfl, rfl, rfl, rfl, rfl, rfl, trivial⟩
  refine then_n ?_
  refine wp_seq ?_
  refine wp_reg ?_
  refine s_q hs (c_loadW ty24 rfl (hs.ev rfl) (hs.seg (i := 1) rfl) (by rw [List.length_map, ho.seed])) rfl fun ac hs => ?_
  refine s_q hs (c_move (hs.ev rfl)) rfl fun ac hs => ?_
  refine s_q hs (c_cvIV un3 un124 (hs.ev rfl)) rfl fun ac hs => ?_
  refine s_q hs (c_move (hs.ev rfl)) rfl fun ac hs => ?_
  refine s_q hs (c_cvUV un25 un124 (hs.ev rfl)) rfl fun ac hs => ?_
  refine s_q hs (c_move (hs.ev rfl)) rfl fun ac hs => ?_
  refine s_q hs (c_cvIV un3 un124 (hs.ev rfl)) rfl fun ac hs => ?_
  refine s_bslice hs un155 ty124 (.cons (hs.ev rfl) (.cons (hs.ev rfl) (.cons (hs.ev rfl) .nil))) rfl (by simp [Value.cells]) (by decide) rfl rfl fun ac ww g24 hs => ?_
  refine s_call hs fu70 (.cons (hs.ev rfl) (.cons (hs.ev rfl) (.cons (hs.ev rfl) .nil))) (ref05_Prf p.seed 69 [i64 p.d, p.ep.toUInt64, i64 (q : Int)] _ ho.seed (by show 3 ≤ 17592186044000; decide) _ (RdV.seg (l := [i64 p.d, p.ep.toUInt64, i64 (q : Int)]) (hs.seg (i := 0) rfl) (by show 3 ≤ maxLen; decide))) rfl fun ac ww v25 hf hp hs => ?_
  obtain rfl := hp
  replace hs := hs [] (.nil _ _)
  refine s_alloc hs ty35 rfl fun ac ww g13 hs => ?_
  refine s_storeW (i := 0) hs ty35 rfl rfl rfl (by rw [List.length_map]; exact elE_length p q) (all_map_B _) rfl fun ww hs => ?_
  refine s_end ?_
  replace hs := hs.sub (F' := [(2, _), (3, _), (4, _), (5, _), (6, _), (12, _), (13, _)]) ⟨rfl, rfl, rfl, rfl, rfl, rfl, rfl, trivial⟩
  refine then_n ?_
  refine wp_seq ?_
  refine wp_reg ?_
  refine s_q hs (c_move (hs.ev rfl)) rfl fun ac hs => ?_
  refine s_q hs (c_move (hs.ev rfl)) rfl fun ac hs => ?_
  refine s_q hs (c_move (hs.ev rfl)) rfl fun ac hs => ?_
  refine s_q hs (c_cvIU un3 un25 (hs.ev rfl)) rfl fun ac hs => ?_
  refine s_q hs (c_buildS ty157 bp157 (.cons (hs.ev rfl) (.cons (hs.ev rfl) (.cons (hs.ev rfl) .nil))) ⟨rfl, rfl, rfl, trivial⟩ (by simp [flatCells, Value.cells]) rfl) rfl fun ac hs => ?_
  refine s_alloc hs ty157 rfl fun ac ww g14 hs => ?_
  refine s_storeW (i := 0) hs ty157 rfl rfl rfl (by rfl) (by rfl) (by simp) fun ww hs => ?_
  refine s_end ?_
  replace hs := hs.sub (F' := [(5, _), (6, _), (12, _), (13, _), (14, _)]) ⟨rfl, rfl, rfl, rfl, rfl, trivial⟩
  refine then_n ?_
  refine wp_seq ?_
  refine wp_reg ?_
  refine s_q hs (c_loadW ty157 ag157 (hs.ev rfl) (hs.seg (i := 0) rfl) (by rfl)) rfl fun ac hs => ?_
  refine s_q hs (c_loadW ty35 rfl (hs.ev rfl) (hs.seg (i := 1) rfl) (by rw [List.length_map]; exact elE_length p q)) rfl fun ac hs => ?_
  refine s_q hs (c_move (hs.ev rfl)) rfl fun ac hs => ?_
  refine s_q hs (c_fld fl23_0 (hs.ev rfl)) rfl fun ac hs => ?_
  refine s_q hs (c_loadS un3 rfl (hs.ev rfl) (hs.seg (i := 5) rfl) rfl) rfl fun ac hs => ?_
  refine s_call hs fu71 (.cons (hs.ev rfl) (.cons (hs.ev rfl) (.cons (hs.ev rfl) (.cons (hs.ev rfl) (.cons (hs.ev rfl) .nil))))) (ref06_ClimbEl hlv q n hn _) rfl fun ac ww v37 hf hp hs => ?_
  obtain rfl := hp
  replace hs := hs [] (.nil _ _)
  refine s_q hs (c_move (hs.ev rfl)) rfl fun ac hs => ?_
  refine s_q hs (c_extract (hs.ev rfl) rfl) rfl fun ac hs => ?_
  refine s_q hs (c_extract (hs.ev rfl) rfl) rfl fun ac hs => ?_
  refine s_alloc hs ty35 rfl fun ac ww g15 hs => ?_
  refine s_storeW (i := 0) hs ty35 rfl rfl rfl (by rw [List.length_map, el_length]) (all_map_B _) rfl fun ww hs => ?_
  refine s_q hs (c_assign (hs.ev rfl)) rfl fun ac hs => ?_
  refine s_end ?_
  replace hs := hs.sub (F' := [(12, _), (15, _)]) ⟨rfl, rfl, trivial⟩
  refine then_n ?_
  refine wp_seq ?_
  refine wp_reg ?_
  refine s_q hs (c_loadW ty35 rfl (hs.ev rfl) (hs.seg (i := 0) rfl) (by rw [List.length_map, el_length])) rfl fun ac hs => ?_
  refine s_storeW (i := 4) hs ty35 rfl rfl rfl (by rw [List.length_map, el_length]) (all_map_B _) rfl fun ww hs => ?_
  refine s_end ?_
  replace hs := hs.sub (F' := [(12, _)]) ⟨rfl, trivial⟩
  refine then_n ?_
  refine wp_ret ?_
  refine s_ret hs rfl (.cell (hs.tmp rfl) (run_loadA ty35 rfl (hs.seg (i := 4) rfl) (List.take_of_length_le (show (List.map B (el p q n)).length ≤ 16 by rw [List.length_map, el_length]; exact Nat.le_refl _)) (show (List.map B (el p q n)).length = 16 by rw [List.length_map, el_length])) .nil) rfl ⟨_, rfl, hs.fr, ?_⟩
  rfl
set_option maxHeartbeats 4000000 in
theorem ref08_Ends (p : Spr) (ho : p.Ok) (hlv : 0 ≤ levels p.W) (w : World)  : Ctr Tryz.prog 69 [.agg #[I p.W, I p.S, I p.H], .agg (p.seed.map B).toArray, I p.d, U p.ep] w (fun _ => False) (outE (rowS' p.m (ends p p.m)) w) := by
  refine fn_start (N := 29) Tryz.func69 rfl rfl rfl fun ac hk => ?_
  have hs := St.start hk w
  refine wp_seq ?_
  refine wp_reg ?_
  refine s_box hs rfl rfl rfl fun ac ww g4 hs => ?_
  refine s_box hs rfl rfl rfl fun ac ww g5 hs => ?_
  refine s_q hs (c_assign (hs.ev rfl)) rfl fun ac hs => ?_
  refine s_end ?_
  replace hs := hs.sub (F' := [(2, _), (3, _), (4, _), (5, _), (8, _)]) ⟨rfl, rfl, rfl, rfl, rfl, trivial⟩
  refine then_n ?_
  refine wp_seq ?_
  refine wp_reg ?_
  refine s_q hs (c_assign (hs.ev rfl)) rfl fun ac hs => ?_
  refine s_end ?_
  replace hs := hs.nilrow 35 16
  refine then_n ?_
  refine wp_seq ?_
  refine wp_seq ?_
  refine wp_reg ?_
  refine s_q hs (c_assign (hs.ev rfl)) rfl fun ac hs => ?_
  refine s_end ?_
  refine then_n ?_
  refine wp_block ?_
  refine s_loop hs (X := Nat × Value) (fun x => [(9, x.2), (10, I x.1)]) [(2, _), (3, _), (4, _), (5, _), (8, _)] (fun x => [.row x.2 x.1 ((ends p x.1).map B) 35 16, _, _]) (fun m x => x.1 ≤ p.m ∧ m = p.m - x.1) (_) ((0, _)) (⟨Nat.zero_le _, rfl⟩) ⟨rfl, rfl, rfl, rfl, rfl, rfl, rfl, trivial⟩ rfl ?_
  rintro n ⟨k, v⟩ ac ww hok hs
  simp only [List.cons_append, List.nil_append] at hs
  obtain ⟨hk, rfl⟩ := hok
  simp only at hk hs
  have hm64 := ho.m64
  have hs16 := ho.s16
  have hcl := ends_length p k
  refine wp_seq ?_
  refine wp_seq ?_
  refine wp_reg ?_
  refine s_q hs (c_move (hs.ev rfl)) rfl fun ac hs => ?_
  refine s_q hs (c_loadW ty23 ag23 (hs.ev rfl) (hs.seg (i := 2) rfl) (by rfl)) rfl fun ac hs => ?_
  refine s_call hs fu18 (.cons (hs.ev rfl) .nil) (ref08_Many p.W p.S p.H ho.h6 _) rfl fun ac ww v13 hf hp hs => ?_
  obtain rfl := hp
  replace hs := hs [] (.nil _ _)
  refine s_q hs (c_lssI (hs.ev rfl) (hs.ev rfl)) rfl fun ac hs => ?_
  refine s_end ?_
  refine then_n ?_
  refine s_cond hs rfl (fun hc => ?_) (fun hc => ?_)
  · try simp only [decide_eq_true_eq, decide_eq_false_iff_not, Bool.not_eq_true', Bool.not_eq_false', Bool.and_eq_true, Bool.or_eq_true, Bool.or_eq_false_iff] at hc
    have hkn : k < p.m := by unfold Spr.m; omega
    refine wp_skip ?_
    refine then_n ?_
    refine wp_seq ?_
    refine wp_block ?_
    refine wp_reg ?_
    refine s_q hs (c_move (hs.ev rfl)) rfl fun ac hs => ?_
    refine s_q hs (c_loadW ty23 ag23 (hs.ev rfl) (hs.seg (i := 2) rfl) (by rfl)) rfl fun ac hs => ?_
    refine s_q hs (c_loadW ty24 rfl (hs.ev rfl) (hs.seg (i := 1) rfl) (by rw [List.length_map, ho.seed])) rfl fun ac hs => ?_
    refine s_q hs (c_move (hs.ev rfl)) rfl fun ac hs => ?_
    refine s_q hs (c_move (hs.ev rfl)) rfl fun ac hs => ?_
    refine s_q hs (c_move (hs.ev rfl)) rfl fun ac hs => ?_
    refine s_q hs (c_fld fl23_1 (hs.ev rfl)) rfl fun ac hs => ?_
    refine s_q hs (c_loadS un3 rfl (hs.ev rfl) (hs.seg (i := 2) rfl) rfl) rfl fun ac hs => ?_
    refine s_call hs fu21 (.cons (hs.ev rfl) (.cons (hs.ev rfl) (.cons (hs.ev rfl) (.cons (hs.ev rfl) (.cons (hs.ev rfl) (.cons (hs.ev rfl) .nil)))))) (ref08_Element p ho hlv k p.S hs16 _) rfl fun ac ww v25 hf hp hs => ?_
    obtain rfl := hp
    replace hs := hs [] (.nil _ _)
    refine s_bslice hs un47 ty35 (.cons (hs.ev rfl) .nil) rfl (by intro v hv; simp only [List.mem_singleton] at hv; subst hv; simp [Value.cells, el_length]) (by decide) (show _ = (el p k p.S).map B by simp [flatCells, Value.cells]) rfl fun ac ww g26 hs => ?_
    refine s_append (i := 1) hs un47 ty35 (by decide) rfl rfl rfl (Rd.of_seg (n := 1) (hs.seg (i := 0) rfl) (Nat.le_refl _) (by decide) (List.take_of_length_le (by simp))) (by rw [List.length_map, el_length]) (all_map_B _) (by unfold maxLen; omega) (by omega) rfl fun ac ww v27 hf hnil hs => ?_
    refine s_q hs (c_assign (hs.ev rfl)) rfl fun ac hs => ?_
    refine s_end ?_
    refine blk_n ?_
    refine then_n ?_
    refine wp_reg ?_
    refine s_q hs (c_move (hs.ev rfl)) rfl fun ac hs => ?_
    refine s_q hs (c_addI (hs.ev rfl) (hs.ev rfl) (by omega) (by omega)) rfl fun ac hs => ?_
    refine s_q hs (c_assign (hs.ev rfl)) rfl fun ac hs => ?_
    refine s_end ?_
    refine then_n ?_
    replace hs := hs.pick (L' := [_, _, _]) (.cons _ (.refl _))
    exact ⟨p.m - (k + 1), by (try simp only); omega, (k + 1, _), ⟨by (try simp only); omega, rfl⟩, St.next hs ⟨rfl, rfl, rfl, rfl, rfl, rfl, rfl, trivial⟩ (by rw [ends_succ, List.map_append]; try rfl)⟩
  · try simp only [decide_eq_true_eq, decide_eq_false_iff_not, Bool.not_eq_true', Bool.not_eq_false', Bool.and_eq_true, Bool.or_eq_true, Bool.or_eq_false_iff] at hc
    have hmm : p.m = 2 ^ p.H := rfl
    obtain rfl : k = p.m := by omega
    refine wp_exit ?_
    refine then_e ?_
    refine then_e ?_
    refine blk_hit ?_
    refine then_n ?_
    refine wp_seq ?_
    refine wp_reg ?_
    refine s_q hs (c_move (hs.ev rfl)) rfl fun ac hs => ?_
    refine s_q hs (c_assign (hs.ev rfl)) rfl fun ac hs => ?_
    refine s_end ?_
    replace hs := hs.sub (F' := [(8, _)]) ⟨rfl, trivial⟩
    refine then_n ?_
    refine wp_ret ?_
    refine s_ret hs rfl (.tmp (hs.tmp rfl) .nil) rfl ⟨_, rfl, hs.fr, ?_⟩
    exact ⟨_, rfl, (hs.pick (L' := [_]) (.cons_cons _ (List.nil_sublist _))).made⟩
theorem rt_length (p : Spr) : (gNode p.d p.ep (ends p p.m) p.H 0).length = 16 := gNode_length (by rw [ends_length]) p.H 0 (by unfold Spr.m; omega)
theorem height_m {p : Spr} (ho : p.Ok) : height (p.m : Int) = p.H := by
  have := height_pow p.H (by have := ho.h6; omega)
  rw [← this]
  unfold Spr.m
  push_cast
  rfl
set_option maxHeartbeats 4000000 in
theorem ref08_Root (p : Spr) (ho : p.Ok) (hlv : 0 ≤ levels p.W) (w : World)  : Ctr Tryz.prog 20 [.agg #[I p.W, I p.S, I p.H], .agg (p.seed.map B).toArray, I p.d, U p.ep] w (fun _ => False) (fun v _ => v = .agg ((gNode p.d p.ep (ends p p.m) p.H 0).map B).toArray) := by
  refine fn_start (N := 17) Tryz.func20 rfl rfl rfl fun ac hk => ?_
  have hs := St.start hk w
  refine wp_seq ?_
  refine wp_reg ?_
  refine s_box hs rfl rfl rfl fun ac ww g4 hs => ?_
  refine s_box hs rfl rfl rfl fun ac ww g5 hs => ?_
  refine s_alloc hs ty35 rfl fun ac ww g8 hs => ?_
  refine s_end ?_
  replace hs := hs.sub (F' := [(2, _), (3, _), (4, _), (5, _), (8, _)]) ⟨rfl, rfl, rfl, rfl, rfl, trivial⟩
  refine then_n ?_
  refine wp_seq ?_
  refine wp_reg ?_
  refine s_q hs (c_move (hs.ev rfl)) rfl fun ac hs => ?_
  refine s_q hs (c_move (hs.ev rfl)) rfl fun ac hs => ?_
  refine s_q hs (c_loadW ty23 ag23 (hs.ev rfl) (hs.seg (i := 2) rfl) (by rfl)) rfl fun ac hs => ?_
  refine s_q hs (c_loadW ty24 rfl (hs.ev rfl) (hs.seg (i := 1) rfl) (by rw [List.length_map, ho.seed])) rfl fun ac hs => ?_
  refine s_q hs (c_move (hs.ev rfl)) rfl fun ac hs => ?_
  refine s_q hs (c_move (hs.ev rfl)) rfl fun ac hs => ?_
  refine s_call hs fu69 (.cons (hs.ev rfl) (.cons (hs.ev rfl) (.cons (hs.ev rfl) (.cons (hs.ev rfl) .nil)))) (ref08_Ends p ho hlv _) rfl fun ac ww v15 hf hp hs => ?_
  obtain ⟨L', rfl, hh⟩ := hp
  replace hs := hs _ hh
  refine s_call hs fu68 (.cons (hs.ev rfl) (.cons (hs.ev rfl) (.cons (hs.ev rfl) .nil))) (ref07_Root p.d p.ep (ends p p.m) p.m p.H _ (ends_len p) ho.h6 rfl (height_m ho) _ (Rd.of_row (hs.get (i := 0) rfl))) rfl fun ac ww v16 hf hp hs => ?_
  obtain rfl := hp
  replace hs := hs [] (.nil _ _)
  refine s_storeW (i := 1) hs ty35 rfl rfl rfl (by rw [List.length_map, rt_length]) (all_map_B _) rfl fun ww hs => ?_
  refine s_end ?_
  replace hs := hs.sub (F' := [(8, _)]) ⟨rfl, trivial⟩
  refine then_n ?_
  refine wp_ret ?_
  refine s_ret hs rfl (.cell (hs.tmp rfl) (run_loadA ty35 rfl (hs.seg (i := 1) rfl) (List.take_of_length_le (show (List.map B (gNode p.d p.ep (ends p p.m) p.H 0)).length ≤ 16 by rw [List.length_map, rt_length]; exact Nat.le_refl _)) (show (List.map B (gNode p.d p.ep (ends p p.m) p.H 0)).length = 16 by rw [List.length_map, rt_length])) .nil) rfl ⟨_, rfl, hs.fr, ?_⟩
  rfl
set_option maxHeartbeats 4000000 in
theorem ref08_Path (p : Spr) (ho : p.Ok) (hlv : 0 ≤ levels p.W) (q : Nat) (hq : q < p.m) (w : World)  : Ctr Tryz.prog 24 [.agg #[I p.W, I p.S, I p.H], .agg (p.seed.map B).toArray, I p.d, U p.ep, I q] w (fun _ => False) (outE (rowS' p.H (gPath p.d p.ep (ends p p.m) q p.H)) w) := by
  refine fn_start (N := 20) Tryz.func24 rfl rfl rfl fun ac hk => ?_
  have hs := St.start hk w
  refine wp_seq ?_
  refine wp_reg ?_
  refine s_box hs rfl rfl rfl fun ac ww g5 hs => ?_
  refine s_box hs rfl rfl rfl fun ac ww g6 hs => ?_
  refine s_q hs (c_assign (hs.ev rfl)) rfl fun ac hs => ?_
  refine s_end ?_
  replace hs := hs.sub (F' := [(2, _), (3, _), (4, _), (5, _), (6, _), (10, _)]) ⟨rfl, rfl, rfl, rfl, rfl, rfl, trivial⟩
  refine then_n ?_
  refine wp_seq ?_
  refine wp_reg ?_
  refine s_q hs (c_move (hs.ev rfl)) rfl fun ac hs => ?_
  refine s_q hs (c_move (hs.ev rfl)) rfl fun ac hs => ?_
  refine s_q hs (c_loadW ty23 ag23 (hs.ev rfl) (hs.seg (i := 1) rfl) (by rfl)) rfl fun ac hs => ?_
  refine s_q hs (c_loadW ty24 rfl (hs.ev rfl) (hs.seg (i := 0) rfl) (by rw [List.length_map, ho.seed])) rfl fun ac hs => ?_
  refine s_q hs (c_move (hs.ev rfl)) rfl fun ac hs => ?_
  refine s_q hs (c_move (hs.ev rfl)) rfl fun ac hs => ?_
  refine s_call hs fu69 (.cons (hs.ev rfl) (.cons (hs.ev rfl) (.cons (hs.ev rfl) (.cons (hs.ev rfl) .nil)))) (ref08_Ends p ho hlv _) rfl fun ac ww v17 hf hp hs => ?_
  obtain ⟨L', rfl, hh⟩ := hp
  replace hs := hs _ hh
  refine s_q hs (c_move (hs.ev rfl)) rfl fun ac hs => ?_
  refine s_call hs fu72 (.cons (hs.ev rfl) (.cons (hs.ev rfl) (.cons (hs.ev rfl) (.cons (hs.ev rfl) .nil)))) (ref07_Path p.d p.ep (ends p p.m) p.m p.H q _ (ends_len p) ho.h6 rfl (height_m ho) hq _ (Rd.of_row (hs.get (i := 0) rfl))) rfl fun ac ww v19 hf hp hs => ?_
  obtain ⟨L', rfl, hh⟩ := hp
  replace hs := hs _ hh
  refine s_q hs (c_assign (hs.ev rfl)) rfl fun ac hs => ?_
  refine s_end ?_
  replace hs := hs.sub (F' := [(10, _)]) ⟨rfl, trivial⟩
  refine then_n ?_
  refine wp_ret ?_
  refine s_ret hs rfl (.tmp (hs.tmp rfl) .nil) rfl ⟨_, rfl, hs.fr, ?_⟩
  exact ⟨_, rfl, (hs.pick (L' := [_]) (.cons_cons _ (List.nil_sublist _))).made⟩
end Go.Proofs.YtklajbdbnnceiaaGreat
end

section
/- Credentials as the document has them. -/
set_option linter.unusedSimpArgs false
set_option linter.unusedVariables false
set_option maxRecDepth 100000
namespace Go.Proofs.YtklajbdbnnceiaaGreat
open Go Go.Fw
open Sha
/-- A credential in memory of its own. -/
def crE (T : TypeId) (lf : List UInt8) (nw : Nat) (ws : List UInt8) (np : Nat) (ps : List UInt8) : Value → List Ent → World → Prop := fun v L _ =>
  ∃ wv pv, v = credV lf wv pv ∧ L = [.row pv np (ps.map B) T 16, .row wv nw (ws.map B) T 16]
set_option maxHeartbeats 4000000 in
theorem ref09_Place (d mt sn : Int) (ep sq : UInt32) (w : World)  : Ctr Tryz.prog 80 [.agg #[I d, U ep, U sq, I mt, I sn]] w (fun _ => False) (fun v _ => v = .agg #[I d, U ep, U sq]) := by
  refine fn_start (N := 12) Tryz.func80 rfl rfl rfl fun ac hk => ?_
  have hs := St.start hk w
  refine wp_seq ?_
  refine wp_reg ?_
  refine s_box hs rfl rfl rfl fun ac ww g1 hs => ?_
  refine s_alloc hs ty157 rfl fun ac ww g2 hs => ?_
  refine s_end ?_
  replace hs := hs.sub (F' := [(1, _), (2, _)]) ⟨rfl, rfl, trivial⟩
  refine then_n ?_
  refine wp_seq ?_
  refine wp_reg ?_
  refine s_q hs (c_fld fl54_0 (hs.ev rfl)) rfl fun ac hs => ?_
  refine s_q hs (c_loadS un3 rfl (hs.ev rfl) (hs.seg (i := 1) rfl) rfl) rfl fun ac hs => ?_
  refine s_q hs (c_fld fl54_1 (hs.ev rfl)) rfl fun ac hs => ?_
  refine s_q hs (c_fld fl52_0 (hs.ev rfl)) rfl fun ac hs => ?_
  refine s_q hs (c_loadS un25 rfl (hs.ev rfl) (hs.seg (i := 1) rfl) rfl) rfl fun ac hs => ?_
  refine s_q hs (c_fld fl54_1 (hs.ev rfl)) rfl fun ac hs => ?_
  refine s_q hs (c_fld fl52_1 (hs.ev rfl)) rfl fun ac hs => ?_
  refine s_q hs (c_loadS un25 rfl (hs.ev rfl) (hs.seg (i := 1) rfl) rfl) rfl fun ac hs => ?_
  refine s_q hs (c_buildS ty157 bp157 (.cons (hs.ev rfl) (.cons (hs.ev rfl) (.cons (hs.ev rfl) .nil))) ⟨rfl, rfl, rfl, trivial⟩ (by simp [flatCells, Value.cells]) rfl) rfl fun ac hs => ?_
  refine s_storeW (i := 0) hs ty157 rfl rfl rfl (by rfl) (by rfl) (by simp) fun ww hs => ?_
  refine s_end ?_
  replace hs := hs.sub (F' := [(2, _)]) ⟨rfl, trivial⟩
  refine then_n ?_
  refine wp_ret ?_
  refine s_ret hs rfl (.cell (hs.tmp rfl) (run_loadA ty157 ag157 (hs.seg (i := 0) rfl) rfl (by rfl)) .nil) rfl ⟨_, rfl, hs.fr, ?_⟩
  rfl
set_option maxHeartbeats 4000000 in
theorem law09_Light (lf ws ps : List UInt8) (nw np : Nat) (wv pv : Value) (hlf : lf.length = 16) (w : World) (hqw : Rd w wv nw (ws.map B)) (hqp : Rd w pv np (ps.map B)) : Ctr Tryz.prog 32 [credV lf wv pv] w (fun _ => False) (fun v _ => v = .bool (decide (nw ≤ 20) && decide (np ≤ 20))) := by
  have hnwl := hqw.le
  have hnpl := hqp.le
  obtain ⟨wad, wcap, rfl, hwc, hwm⟩ := Rd.sl hqw
  obtain ⟨pad, pcap, rfl, hpc, hpm⟩ := Rd.sl hqp
  refine fn_start (N := 13) Tryz.func32 rfl rfl rfl fun ac hk => ?_
  have hs := St.start hk w
  refine wp_seq ?_
  refine wp_reg ?_
  refine s_box hs rfl rfl rfl fun ac ww g1 hs => ?_
  refine s_q hs (c_assign (hs.ev rfl)) rfl fun ac hs => ?_
  refine s_end ?_
  replace hs := hs.sub (F' := [(1, _), (2, _)]) ⟨rfl, rfl, trivial⟩
  refine then_n ?_
  refine wp_seq ?_
  refine wp_reg ?_
  refine s_q hs (c_fld fl66_1 (hs.ev rfl)) rfl fun ac hs => ?_
  refine s_q hs (c_loadS un47 rfl (hs.ev rfl) (hs.seg (i := 0) rfl) (cred_way hlf _ _)) rfl fun ac hs => ?_
  refine s_q hs (c_lenS un47 (hs.ev rfl)) rfl fun ac hs => ?_
  refine s_q hs (c_to (c_leqI (hs.ev rfl) (hs.ev rfl)) ((congrArg (fun b : Bool => Value.bool b) (show decide ((nw : Int) ≤ 20) = decide (nw ≤ 20) by simp; omega)))) rfl fun ac hs => ?_
  refine s_q hs (c_move (hs.ev rfl)) rfl fun ac hs => ?_
  refine s_g hs rfl rfl (fun hg => c_fld fl66_2 (hs.ev rfl)) rfl fun ac hs => ?_
  refine s_g hs rfl rfl (fun hg => c_loadS un47 rfl (gev (hs.ev rfl) hg) (hs.seg (i := 0) rfl) (cred_path hlf _ _)) rfl fun ac hs => ?_
  refine s_g hs rfl rfl (fun hg => c_lenS un47 (gev (hs.ev rfl) hg)) rfl fun ac hs => ?_
  refine s_g hs rfl rfl (fun hg => c_to (c_leqI (gev (hs.ev rfl) hg) (hs.ev rfl)) ((congrArg (fun b : Bool => Value.bool b) (show decide ((np : Int) ≤ 20) = decide (np ≤ 20) by simp; omega)))) rfl fun ac hs => ?_
  refine s_q hs (c_and (hs.ev rfl) (hs.ev rfl)) rfl fun ac hs => ?_
  refine s_q hs (c_assign (hs.ev rfl)) rfl fun ac hs => ?_
  refine s_end ?_
  replace hs := hs.sub (F' := [(2, _)]) ⟨rfl, trivial⟩
  refine then_n ?_
  refine wp_ret ?_
  refine s_ret hs rfl (.tmp (hs.tmp rfl) .nil) rfl ⟨_, rfl, hs.fr, ?_⟩
  rfl
set_option maxHeartbeats 4000000 in
theorem law09_ToCred (lf ws ps : List UInt8) (nw np : Nat) (wv pv : Value) (hlf : lf.length = 16) (hwl : ws.length = nw * 16) (hpl : ps.length = np * 16) (hnw : nw ≤ 1000000) (hnp : np ≤ 1000000) (w : World) (hqw : Rd w wv nw (ws.map B)) (hqp : Rd w pv np (ps.map B)) : Ctr Tryz.prog 34 [credV lf wv pv] w (fun _ => False) (outE (crE 36 lf nw ws np ps) w) := by
  have hnwl := hqw.le
  have hnpl := hqp.le
  obtain ⟨wad, wcap, rfl, hwc, hwm⟩ := Rd.sl hqw
  obtain ⟨pad, pcap, rfl, hpc, hpm⟩ := Rd.sl hqp
  refine fn_start (N := 12) Tryz.func34 rfl rfl rfl fun ac hk => ?_
  have hs := St.start hk w
  refine wp_seq ?_
  refine wp_reg ?_
  refine s_box hs rfl rfl rfl fun ac ww g1 hs => ?_
  refine s_alloc hs ty56 rfl fun ac ww g2 hs => ?_
  refine s_end ?_
  replace hs := hs.sub (F' := [(1, _), (2, _)]) ⟨rfl, rfl, trivial⟩
  refine then_n ?_
  refine wp_seq ?_
  refine wp_region_rg pmix 8 (by kernel_rfl) rfl hs ?_
  simp only [List.take_succ_cons, List.take_zero]
  refine rg_q (fun ac ww h => c_fld fl66_0 (h.ev rfl)) rfl ?_
  refine rg_q (fun ac ww h => c_loadA ty35 rfl (h.ev rfl) (h.blk (hs.seg (i := 1) rfl)) (cred_leaf hlf _ _) (show (List.map B lf).length = 16 by rw [List.length_map, hlf])) rfl ?_
  refine rg_q (fun ac ww h => c_fld fl66_1 (h.ev rfl)) rfl ?_
  refine rg_q (fun ac ww h => c_loadS un47 rfl (h.ev rfl) (h.blk (hs.seg (i := 1) rfl)) (cred_way hlf _ _)) rfl ?_
  refine rg_callE (rowS nw ws) (fun _ _ _ _ _ h => h) fu82 (fun ac ww h => ?_) rfl ?_
  · exact ⟨_, .cons (h.ev rfl) (.nil), law03_To nw ws _ hwl hnw _ (hqw.fr0 (hs.fr.trans0 h.fr))⟩
  refine rg_q (fun ac ww h => c_fld fl66_2 (h.ev rfl)) rfl ?_
  refine rg_q (fun ac ww h => c_loadS un47 rfl (h.ev rfl) (h.blk (hs.seg (i := 1) rfl)) (cred_path hlf _ _)) rfl ?_
  refine rg_callE (rowS np ps) (fun _ _ _ _ _ h => h) fu82 (fun ac ww h => ?_) rfl ?_
  · exact ⟨_, .cons (h.ev rfl) (.nil), law03_To np ps _ hpl hnp _ (hqp.fr0 (hs.fr.trans0 h.fr))⟩
  refine rg_nil fun ac ww L' hf hfe hs => ?_
  simp only [List.drop_succ_cons, List.drop_zero]
  obtain ⟨v10, L10, M10, h10, e10, ⟨v7, L7, M7, h7, e7, rfl, rfl⟩, rfl⟩ := hfe
  replace hs := hs.add h10
  replace hs := hs.add h7
  obtain rfl := e7
  obtain rfl := e10
  obtain ⟨wad2, wcap2, rfl, hwc2, hwm2⟩ := Rd.sl (Rd.of_row (hs.get (i := 1) rfl))
  obtain ⟨pad2, pcap2, rfl, hpc2, hpm2⟩ := Rd.sl (Rd.of_row (hs.get (i := 0) rfl))
  refine s_q hs (c_buildS (zc := lf.map B ++ [.slice wad2 nw wcap2, .slice pad2 np pcap2]) ty56 bp56 (.cons (hs.ev rfl) (.cons (hs.ev rfl) (.cons (hs.ev rfl) .nil))) ⟨(by simp [Value.cells, hlf]), (by simp [Value.cells, hlf]), (by simp [Value.cells, hlf]), trivial⟩ (by simp [flatCells, Value.cells, hlf]) (by simp [flatCells, Value.cells, hlf])) rfl fun ac hs => ?_
  refine s_storeW (i := 2) hs ty56 rfl rfl rfl (by simp [hlf]) (by simp [Value.oneCell', B]) rfl fun ww hs => ?_
  refine s_end ?_
  replace hs := hs.sub (F' := [(2, _)]) ⟨rfl, trivial⟩
  refine then_n ?_
  refine wp_ret ?_
  refine s_ret hs rfl (.cell (hs.tmp rfl) (run_loadA ty56 ag56 (hs.seg (i := 2) rfl) (List.take_of_length_le (by simp [hlf])) (by simp [hlf])) .nil) rfl ⟨_, rfl, hs.fr, ?_⟩
  exact ⟨_, ⟨_, _, rfl, rfl⟩, (hs.pick (L' := [_, _]) (.cons_cons _ (.cons_cons _ (List.nil_sublist _)))).made⟩
set_option maxHeartbeats 4000000 in
theorem ref09_SameCred (l1 w1 p1 l2 w2 p2 : List UInt8) (n1 m1 n2 m2 : Nat) (wv1 pv1 wv2 pv2 : Value) (hl1 : l1.length = 16) (hl2 : l2.length = 16) (hw1 : w1.length = n1 * 16) (hp1 : p1.length = m1 * 16) (hw2 : w2.length = n2 * 16) (hp2 : p2.length = m2 * 16) (w : World) (hqw1 : Rd w wv1 n1 (w1.map B)) (hqp1 : Rd w pv1 m1 (p1.map B)) (hqw2 : Rd w wv2 n2 (w2.map B)) (hqp2 : Rd w pv2 m2 (p2.map B)) : Ctr Tryz.prog 29 [credV l1 wv1 pv1, credV l2 wv2 pv2] w (fun _ => False) (fun v _ => v = .bool (decide (l1 = l2) && decide (w1 = w2) && decide (p1 = p2))) := by
  obtain ⟨ad1, cp1, rfl, hc1, hm1⟩ := Rd.sl hqw1
  obtain ⟨ad2, cp2, rfl, hc2, hm2⟩ := Rd.sl hqp1
  obtain ⟨ad3, cp3, rfl, hc3, hm3⟩ := Rd.sl hqw2
  obtain ⟨ad4, cp4, rfl, hc4, hm4⟩ := Rd.sl hqp2
  refine fn_start (N := 24) Tryz.func29 rfl rfl rfl fun ac hk => ?_
  have hs := St.start hk w
  refine wp_seq ?_
  refine wp_reg ?_
  refine s_box hs rfl rfl rfl fun ac ww g2 hs => ?_
  refine s_box hs rfl rfl rfl fun ac ww g3 hs => ?_
  refine s_q hs (c_assign (hs.ev rfl)) rfl fun ac hs => ?_
  refine s_end ?_
  replace hs := hs.sub (F' := [(2, _), (3, _), (4, _)]) ⟨rfl, rfl, rfl, trivial⟩
  refine then_n ?_
  refine wp_seq ?_
  refine wp_reg ?_
  refine s_q hs (c_fld fl66_0 (hs.ev rfl)) rfl fun ac hs => ?_
  refine s_q hs (c_loadA ty35 rfl (hs.ev rfl) (hs.seg (i := 1) rfl) (cred_leaf hl1 _ _) (show (List.map B l1).length = 16 by rw [List.length_map, hl1])) rfl fun ac hs => ?_
  refine s_q hs (c_fld fl66_0 (hs.ev rfl)) rfl fun ac hs => ?_
  refine s_q hs (c_loadA ty35 rfl (hs.ev rfl) (hs.seg (i := 0) rfl) (cred_leaf hl2 _ _) (show (List.map B l2).length = 16 by rw [List.length_map, hl2])) rfl fun ac hs => ?_
  refine s_q hs (c_eqlAB un35 ty5 eg35 (hs.ev rfl) (hs.ev rfl) hl1 hl2) rfl fun ac hs => ?_
  refine s_q hs (c_move (hs.ev rfl)) rfl fun ac hs => ?_
  refine s_g hs rfl rfl (fun hg => c_fld fl66_1 (hs.ev rfl)) rfl fun ac hs => ?_
  refine s_g hs rfl rfl (fun hg => c_loadS un47 rfl (gev (hs.ev rfl) hg) (hs.seg (i := 1) rfl) (cred_way hl1 _ _)) rfl fun ac hs => ?_
  refine s_g hs rfl rfl (fun hg => c_fld fl66_1 (hs.ev rfl)) rfl fun ac hs => ?_
  refine s_g hs rfl rfl (fun hg => c_loadS un47 rfl (gev (hs.ev rfl) hg) (hs.seg (i := 0) rfl) (cred_way hl2 _ _)) rfl fun ac hs => ?_
  refine s_gcall hs rfl rfl fu22 (fun hg => (.cons (gev (hs.ev rfl) hg) (.cons (gev (hs.ev rfl) hg) .nil))) (fun hg => ref03_SameSums n1 n2 w1 w2 _ _ hw1 hw2 _ (hqw1.fr0 hs.fr) (hqw2.fr0 hs.fr)) rfl fun ac ww hf hs => ?_
  refine s_q hs (c_and (hs.ev rfl) (hs.ev rfl)) rfl fun ac hs => ?_
  refine s_q hs (c_move (hs.ev rfl)) rfl fun ac hs => ?_
  refine s_g hs rfl rfl (fun hg => c_fld fl66_2 (hs.ev rfl)) rfl fun ac hs => ?_
  refine s_g hs rfl rfl (fun hg => c_loadS un47 rfl (gev (hs.ev rfl) hg) (hs.seg (i := 1) rfl) (cred_path hl1 _ _)) rfl fun ac hs => ?_
  refine s_g hs rfl rfl (fun hg => c_fld fl66_2 (hs.ev rfl)) rfl fun ac hs => ?_
  refine s_g hs rfl rfl (fun hg => c_loadS un47 rfl (gev (hs.ev rfl) hg) (hs.seg (i := 0) rfl) (cred_path hl2 _ _)) rfl fun ac hs => ?_
  refine s_gcall hs rfl rfl fu22 (fun hg => (.cons (gev (hs.ev rfl) hg) (.cons (gev (hs.ev rfl) hg) .nil))) (fun hg => ref03_SameSums m1 m2 p1 p2 _ _ hp1 hp2 _ (hqp1.fr0 hs.fr) (hqp2.fr0 hs.fr)) rfl fun ac ww hf hs => ?_
  refine s_q hs (c_and (hs.ev rfl) (hs.ev rfl)) rfl fun ac hs => ?_
  refine s_q hs (c_assign (hs.ev rfl)) rfl fun ac hs => ?_
  refine s_end ?_
  replace hs := hs.sub (F' := [(4, _)]) ⟨rfl, trivial⟩
  refine then_n ?_
  refine wp_ret ?_
  refine s_ret hs rfl (.tmp (hs.tmp rfl) .nil) rfl ⟨_, rfl, hs.fr, ?_⟩
  rfl
end Go.Proofs.YtklajbdbnnceiaaGreat
end

section
/- What is issued and checked, as the document has it. -/
set_option linter.unusedSimpArgs false
set_option linter.unusedVariables false
set_option maxRecDepth 100000
namespace Go.Proofs.YtklajbdbnnceiaaGreat
open Go Go.Fw
open Sha
set_option maxHeartbeats 4000000 in
theorem ref09_Issue (p : Spr) (ho : p.Ok) (m : Nat) (sn : Int) (sq : UInt32) (hcr : clRight p.W p.S p.H p.d m sn p.ep sq = true) (w : World)  : Ctr Tryz.prog 31 [.agg #[I p.W, I p.S, I p.H], .agg (p.seed.map B).toArray, .agg #[I p.d, U p.ep, U sq, I (m : Nat), I sn]] w (fun _ => False) (outE (crE 35 (hLf p m sn sq) (shN (m : Int) p.W sn) (hWs p m sn sq) p.H (hPs p sq)) w) := by
  obtain ⟨hR, hd0, hdW, hsn0, hsnW, hep, hsq, hmt0, hmtS⟩ := clRight_iff.1 hcr
  obtain ⟨hlv, hS1, hS16, hH0, hH6⟩ := spRight_iff.1 hR
  have hsqm := seq_lt hcr
  have hsl := shL_length p.d p.ep sq (m : Int) (el p sq.toNat m) p.W sn
  refine fn_start (N := 56) Tryz.func31 rfl rfl rfl fun ac hk => ?_
  have hs := St.start hk w
  refine wp_seq ?_
  refine wp_reg ?_
  refine s_box hs rfl rfl rfl fun ac ww g3 hs => ?_
  refine s_box hs rfl rfl rfl fun ac ww g4 hs => ?_
  refine s_box hs rfl rfl rfl fun ac ww g5 hs => ?_
  refine s_alloc hs ty66 rfl fun ac ww g6 hs => ?_
  refine s_end ?_
  replace hs := hs.sub (F' := [(3, _), (4, _), (5, _), (6, _)]) ⟨rfl, rfl, rfl, rfl, trivial⟩
  refine then_n ?_
  refine wp_seq ?_
  refine wp_reg ?_
  refine s_q hs (c_loadW ty23 ag23 (hs.ev rfl) (hs.seg (i := 3) rfl) (by rfl)) rfl fun ac hs => ?_
  refine s_q hs (c_loadW ty24 rfl (hs.ev rfl) (hs.seg (i := 2) rfl) (by rw [List.length_map, ho.seed])) rfl fun ac hs => ?_
  refine s_q hs (c_fld fl54_0 (hs.ev rfl)) rfl fun ac hs => ?_
  refine s_q hs (c_loadS un3 rfl (hs.ev rfl) (hs.seg (i := 1) rfl) rfl) rfl fun ac hs => ?_
  refine s_q hs (c_fld fl54_1 (hs.ev rfl)) rfl fun ac hs => ?_
  refine s_q hs (c_fld fl52_0 (hs.ev rfl)) rfl fun ac hs => ?_
  refine s_q hs (c_loadS un25 rfl (hs.ev rfl) (hs.seg (i := 1) rfl) rfl) rfl fun ac hs => ?_
  refine s_q hs (c_fld fl54_1 (hs.ev rfl)) rfl fun ac hs => ?_
  refine s_q hs (c_fld fl52_1 (hs.ev rfl)) rfl fun ac hs => ?_
  refine s_q hs (c_loadS un25 rfl (hs.ev rfl) (hs.seg (i := 1) rfl) rfl) rfl fun ac hs => ?_
  refine s_q hs (c_cvUI un25 un3 (hs.ev rfl)) rfl fun ac hs => ?_
  refine s_q hs (c_fld fl54_1 (hs.ev rfl)) rfl fun ac hs => ?_
  refine s_q hs (c_fld fl52_2 (hs.ev rfl)) rfl fun ac hs => ?_
  refine s_q hs (c_loadS un3 rfl (hs.ev rfl) (hs.seg (i := 1) rfl) rfl) rfl fun ac hs => ?_
  refine s_call hs fu21 (.cons (hs.ev rfl) (.cons (hs.ev rfl) (.cons (hs.ev rfl) (.cons (hs.ev rfl) (.cons (hs.ev rfl) (.cons (hs.ev rfl) .nil)))))) (ref08_Element p ho hlv sq.toNat m (by omega) _) rfl fun ac ww v25 hf hp hs => ?_
  obtain rfl := hp
  replace hs := hs [] (.nil _ _)
  refine s_alloc hs ty35 rfl fun ac ww g7 hs => ?_
  refine s_storeW (i := 0) hs ty35 rfl rfl rfl (by rw [List.length_map, el_length]) (all_map_B _) rfl fun ww hs => ?_
  refine s_end ?_
  replace hs := hs.sub (F' := [(3, _), (4, _), (5, _), (6, _), (7, _)]) ⟨rfl, rfl, rfl, rfl, rfl, trivial⟩
  refine then_n ?_
  refine wp_seq ?_
  refine wp_region_rgX (J := [13, 14]) pmix 16 (by kernel_rfl) (by kernel_rfl) rfl rfl hs ?_
  simp only [List.take_succ_cons, List.take_zero]
  refine rg_q (fun ac ww h => c_loadW ty54 ag54 (h.ev rfl) (h.blk (hs.seg (i := 2) rfl)) (by rfl)) rfl ?_
  refine rg_call fu80 (fun ac ww h => (.cons (h.ev rfl) .nil)) (fun ww hf => ref09_Place p.d m sn p.ep sq ww) rfl ?_
  refine rg_q (fun ac ww h => c_fld fl54_1 (h.ev rfl)) rfl ?_
  refine rg_q (fun ac ww h => c_fld fl52_2 (h.ev rfl)) rfl ?_
  refine rg_q (fun ac ww h => c_loadS un3 rfl (h.ev rfl) (h.blk (hs.seg (i := 2) rfl)) rfl) rfl ?_
  refine rg_q (fun ac ww h => c_loadW ty35 rfl (h.ev rfl) (h.blk (hs.seg (i := 0) rfl)) (by rw [List.length_map, el_length])) rfl ?_
  refine rg_q (fun ac ww h => c_fld fl23_0 (h.ev rfl)) rfl ?_
  refine rg_q (fun ac ww h => c_loadS un3 rfl (h.ev rfl) (h.blk (hs.seg (i := 4) rfl)) rfl) rfl ?_
  refine rg_q (fun ac ww h => c_fld fl54_2 (h.ev rfl)) rfl ?_
  refine rg_q (fun ac ww h => c_loadS un3 rfl (h.ev rfl) (h.blk (hs.seg (i := 2) rfl)) rfl) rfl ?_
  refine rg_callE (tupG [.agg ((hLf p m sn sq).map B).toArray] [I (shE (m : Int) p.W sn)] (rowS' (shN (m : Int) p.W sn) (hWs p m sn sq))) (fun _ _ _ _ _ h => h) fu79 (fun ac ww h => ?_) rfl ?_
  · exact ⟨_, .cons (h.ev rfl) (.cons (h.ev rfl) (.cons (h.ev rfl) (.cons (h.ev rfl) (.cons (h.ev rfl) (.nil))))), ref06_ShowA p.d p.ep sq (m : Int) (el p sq.toNat m) p.W sn (el_length _ _ _) _⟩
  refine rg_moveG rfl rfl rfl ?_
  refine rg_extGc rfl rfl rfl (fun _ => rfl) ?_
  refine rg_extGe rfl rfl rfl rfl ?_
  refine rg_extGc rfl rfl rfl (fun _ => rfl) ?_
  refine rg_alloc ty35 rfl ?_
  refine rg_nil fun ac ww L' hf hfe hs hlk => ?_
  simp only [List.drop_succ_cons, List.drop_zero]
  obtain ⟨v8, L8, M8, h8, e8, ⟨v39, L39, M39, h39, e39, ⟨v26, L26, M26, h26, e26, ⟨v37, L37, M37, h37, e37, rfl, rfl⟩, rfl⟩, rfl⟩, rfl⟩ := hfe
  replace hs := hs.add h8
  replace hs := hs.add h39
  replace hs := hs.add h26
  replace hs := hs.add h37
  obtain ⟨g8, rfl, rfl⟩ := e8
  obtain ⟨tv37, rfl, e37⟩ := e37
  obtain ⟨-, rfl⟩ := e26
  obtain rfl := lk_move (j := 11) hlk (by decide) rfl (by kernel_rfl) h26 h37
  obtain ⟨-, rfl⟩ := e39
  obtain rfl := lk_ext (j := 13) hlk (by decide) rfl (by kernel_rfl) h39 h26 rfl
  obtain rfl := e37
  refine sk_storeW (i := 0) hs ty35 rfl rfl rfl (by rw [List.length_map, hsl]) (all_map_B _) rfl (fun ww hs => late_turn rfl rfl (late_turn rfl rfl (late_nil))) fun ww hs => ?_
  refine s_q hs (c_assign (hs.ev rfl)) rfl fun ac hs => ?_
  refine s_q hs (c_assign (hs.ev rfl)) rfl fun ac hs => ?_
  refine s_end ?_
  replace hs := hs.sub (F' := [(3, _), (4, _), (5, _), (6, _), (8, _), (9, _)]) ⟨rfl, rfl, rfl, rfl, rfl, rfl, trivial⟩
  refine then_n ?_
  refine wp_seq ?_
  obtain ⟨wad, wcap, rfl, hwc, hwm⟩ := Rd.sl (Rd.of_row (hs.get (i := 1) rfl))
  refine wp_region_rg pmix 14 (by kernel_rfl) rfl hs ?_
  simp only [List.take_succ_cons, List.take_zero]
  refine rg_q (fun ac ww h => c_loadW ty35 rfl (h.ev rfl) (h.blk (hs.seg (i := 0) rfl)) (by rw [List.length_map, hsl])) rfl ?_
  refine rg_q (fun ac ww h => c_move (h.ev rfl)) rfl ?_
  refine rg_q (fun ac ww h => c_loadW ty23 ag23 (h.ev rfl) (h.blk (hs.seg (i := 6) rfl)) (by rfl)) rfl ?_
  refine rg_q (fun ac ww h => c_loadW ty24 rfl (h.ev rfl) (h.blk (hs.seg (i := 5) rfl)) (by rw [List.length_map, ho.seed])) rfl ?_
  refine rg_q (fun ac ww h => c_fld fl54_0 (h.ev rfl)) rfl ?_
  refine rg_q (fun ac ww h => c_loadS un3 rfl (h.ev rfl) (h.blk (hs.seg (i := 4) rfl)) rfl) rfl ?_
  refine rg_q (fun ac ww h => c_fld fl54_1 (h.ev rfl)) rfl ?_
  refine rg_q (fun ac ww h => c_fld fl52_0 (h.ev rfl)) rfl ?_
  refine rg_q (fun ac ww h => c_loadS un25 rfl (h.ev rfl) (h.blk (hs.seg (i := 4) rfl)) rfl) rfl ?_
  refine rg_q (fun ac ww h => c_fld fl54_1 (h.ev rfl)) rfl ?_
  refine rg_q (fun ac ww h => c_fld fl52_1 (h.ev rfl)) rfl ?_
  refine rg_q (fun ac ww h => c_loadS un25 rfl (h.ev rfl) (h.blk (hs.seg (i := 4) rfl)) rfl) rfl ?_
  refine rg_q (fun ac ww h => c_cvUI un25 un3 (h.ev rfl)) rfl ?_
  refine rg_callE (rowS' p.H (hPs p sq)) (fun _ _ _ _ _ h => h) fu24 (fun ac ww h => ?_) rfl ?_
  · exact ⟨_, .cons (h.ev rfl) (.cons (h.ev rfl) (.cons (h.ev rfl) (.cons (h.ev rfl) (.cons (h.ev rfl) (.nil))))), ref08_Path p ho hlv sq.toNat hsqm _⟩
  refine rg_nil fun ac ww L' hf hfe hs => ?_
  simp only [List.drop_succ_cons, List.drop_zero]
  obtain ⟨v54, L54, M54, h54, e54, rfl, rfl⟩ := hfe
  replace hs := hs.add h54
  obtain rfl := e54
  obtain ⟨pad, pcap, rfl, hpc, hpm⟩ := Rd.sl (Rd.of_row (hs.get (i := 0) rfl))
  refine s_q hs (c_buildS (zc := (hLf p m sn sq).map B ++ [.slice wad (shN (m : Int) p.W sn) wcap, .slice pad p.H pcap]) ty66 bp66 (.cons (hs.ev rfl) (.cons (hs.ev rfl) (.cons (hs.ev rfl) .nil))) ⟨(by simp [Value.cells, hsl]), (by simp [Value.cells, hsl]), (by simp [Value.cells, hsl]), trivial⟩ (by simp [flatCells, Value.cells, hsl]) (by simp [flatCells, Value.cells, hsl])) rfl fun ac hs => ?_
  refine s_storeW (i := 4) hs ty66 rfl rfl rfl (by simp [hsl]) (by simp [Value.oneCell', B]) rfl fun ww hs => ?_
  refine s_end ?_
  replace hs := hs.sub (F' := [(6, _)]) ⟨rfl, trivial⟩
  refine then_n ?_
  refine wp_ret ?_
  refine s_ret hs rfl (.cell (hs.tmp rfl) (run_loadA ty66 ag66 (hs.seg (i := 4) rfl) (List.take_of_length_le (by simp [hsl])) (by simp [hsl])) .nil) rfl ⟨_, rfl, hs.fr, ?_⟩
  exact ⟨_, ⟨_, _, rfl, rfl⟩, (hs.pick (L' := [_, _]) (.cons_cons _ (.cons _ (.cons_cons _ (List.nil_sublist _))))).made⟩
end Go.Proofs.YtklajbdbnnceiaaGreat
end

section
/- Whoever shows a claim shows what the spring issues, or two unlike texts have one short sum. -/
set_option linter.unusedSimpArgs false
set_option linter.unusedVariables false
set_option maxRecDepth 100000
namespace Go.Proofs.YtklajbdbnnceiaaGreat
open Go Go.Fw
open Sha
theorem clash_mono {a b a' b' : List (List UInt8)} (h : clash a b = true) (ha : ∀ x ∈ a, x ∈ a') (hb : ∀ y ∈ b, y ∈ b') : clash a' b' = true := by
  unfold clash at h ⊢
  obtain ⟨x, hx, h⟩ := List.any_eq_true.1 h
  obtain ⟨y, hy, h⟩ := List.any_eq_true.1 h
  exact List.any_eq_true.2 ⟨x, ha x hx, List.any_eq_true.2 ⟨y, hb y hy, h⟩⟩
theorem leafX_inj {d : Int} {ep sq : UInt32} {r : Int} {e e' : List UInt8} {id : Int} (he : e.length = 16) (he' : e'.length = 16) (h : leafX d ep sq r e id = leafX d ep sq r e' id) : e = e' := by
  have h2 := (List.cons.inj h).2
  rw [List.append_assoc, List.append_assoc] at h2
  exact (List.append_inj (List.append_cancel_left h2) (by omega)).1
theorem lnode_inj {d : Int} {ep sq : UInt32} {r : Int} {e e' : List UInt8} (he : e.length = 16) (he' : e'.length = 16) : ∀ n, lNode d ep sq r e n 0 = lNode d ep sq r e' n 0 → (∀ x ∈ lNodeTs d ep sq r e n 0, ∀ y ∈ lNodeTs d ep sq r e' n 0, ofT x = ofT y → x = y) → e = e'
  | 0, h, hc => leafX_inj he he' (hc _ (List.mem_singleton.2 rfl) _ (List.mem_singleton.2 rfl) h)
  | n + 1, h, hc => by
    have h1 := hc _ (List.mem_append.2 (.inr (List.mem_singleton.2 rfl))) _ (List.mem_append.2 (.inr (List.mem_singleton.2 rfl))) h
    have h2 := (joinX_inj (lNode_length _ _ _ _ _ _ _) (lNode_length _ _ _ _ _ _ _) h1).1
    exact lnode_inj he he' n h2 fun x hx y hy => hc x (List.mem_append.2 (.inl (List.mem_append.2 (.inl hx)))) y (List.mem_append.2 (.inl (List.mem_append.2 (.inl hy))))
/-- The texts of some rungs. -/
def rungTs (d : Int) (ep sq : UInt32) (lv m : Nat) (f : Nat → List UInt8) : Nat → List (List UInt8)
  | 0 => []
  | n + 1 => rungTs d ep sq lv m f n ++ lNodeTs d ep sq ((m + n : Nat) : Int) (f n) lv 0
theorem rungTs_mem {d : Int} {ep sq : UInt32} {lv m : Nat} {f : Nat → List UInt8} {k : Nat} {x : List UInt8} (hx : x ∈ lNodeTs d ep sq ((m + k : Nat) : Int) (f k) lv 0) : ∀ n, k < n → x ∈ rungTs d ep sq lv m f n
  | 0, h => absurd h (by omega)
  | n + 1, h => by
    by_cases e : k = n
    · subst e; exact List.mem_append.2 (.inr hx)
    · exact List.mem_append.2 (.inl (rungTs_mem hx n (by omega)))
section
variable {p : Spr} {m : Nat} {sn : Int} {sq : UInt32} {lf ws ps : List UInt8} {nw np : Nat}
def lvOf (p : Spr) : Nat := (levels p.W).toNat
/-- All that is summed for a spring's epoch above a rung, and for its tree. -/
def txs (p : Spr) (m : Nat) (sq : UInt32) : List (List UInt8) := rungTs p.d p.ep sq (lvOf p) m (fun n => el p sq.toNat (m + n)) (p.S - m) ++ gNodeTs p.d p.ep (ends p p.m) p.H 0
def nxt (p : Spr) (m : Nat) (sn : Int) (sq : UInt32) (lf ws : List UInt8) (nw : Nat) : List UInt8 := rsB p.d p.ep sq (m : Int) p.W sn lf ws nw
def cl (p : Spr) (m : Nat) (sq : UInt32) (nx : List UInt8) (n : Nat) : List UInt8 := climbN p.d p.ep sq nx ((m + 1 : Nat) : Int) p.W n
theorem cl_length {nx : List UInt8} (h : nx.length = 16) (n : Nat) : (cl p m sq nx n).length = 16 := climbN_length h n
/-- All that is summed for a check. -/
def cks (p : Spr) (m : Nat) (sn : Int) (sq : UInt32) (lf ws : List UInt8) (nw : Nat) (ps : List UInt8) (np : Nat) : List (List UInt8) :=
  rsX p.d p.ep sq (m : Int) p.W sn lf ws nw ++ rungTs p.d p.ep sq (lvOf p) (m + 1) (cl p m sq (nxt p m sn sq lf ws nw)) (p.S - (m + 1)) ++ foldX p.d p.ep (sq.toNat : Int) (cl p m sq (nxt p m sn sq lf ws nw) (p.S - (m + 1))) ps np
theorem up_node {k : Nat} (hlv : 0 ≤ levels p.W) (hk : k ≤ 15) (e : List UInt8) : upB p.d p.ep sq (k : Int) e p.W = lNode p.d p.ep sq (k : Int) e (lvOf p) 0 := by
  rw [upB, if_pos (by simp only [rightB, Bool.and_eq_true, decide_eq_true_eq]; omega)]
  rfl
theorem el_up (hlv : 0 ≤ levels p.W) {k : Nat} (hk : k ≤ 15) : el p sq.toNat (k + 1) = lNode p.d p.ep sq (k : Int) (el p sq.toNat k) (lvOf p) 0 := by
  rw [el_succ, i32_seq, up_node hlv hk]
theorem cl_up (hlv : 0 ≤ levels p.W) {nx : List UInt8} {n : Nat} (hk : m + 1 + n ≤ 15) : cl p m sq nx (n + 1) = lNode p.d p.ep sq ((m + 1 + n : Nat) : Int) (cl p m sq nx n) (lvOf p) 0 := by
  rw [← up_node hlv hk]
  show upB _ _ _ (((m + 1 : Nat) : Int) + (n : Int)) _ _ = _
  rw [show ((m + 1 : Nat) : Int) + (n : Int) = ((m + 1 + n : Nat) : Int) by push_cast; rfl]
  rfl
theorem climb_cl (hlv : 0 ≤ levels p.W) {nx : List UInt8} (hS : p.S ≤ 16) (hm : m + 1 ≤ p.S) : climbB p.d p.ep sq nx ((m : Int) + 1) (p.S : Int) p.W = cl p m sq nx (p.S - (m + 1)) := by
  rw [climbB, if_pos (climbOk_iff.2 (by omega)), cl, show ((p.S : Int) - ((m : Int) + 1)).toNat = p.S - (m + 1) by omega]
  push_cast
  rfl
theorem sound_shown (ho : p.Ok) (hcr : clRight p.W p.S p.H p.d m sn p.ep sq = true) (hlf : lf.length = 16) (hwl : ws.length = nw * 16) (hpl : ps.length = np * 16)
    (hck : (ckR p.W p.S p.H p.d m sn p.ep sq (hRt p) lf ws nw ps np).2 = 0) (hno : clash (txs p m sq) (cks p m sn sq lf ws nw ps np) = false) :
    lf = hLf p m sn sq ∧ ws = hWs p m sn sq ∧ ps = hPs p sq := by
  obtain ⟨hR, hd0, hdW, hsn0, hsnW, hep, hsq, hmt0, hmtS⟩ := clRight_iff.1 hcr
  obtain ⟨hlv, hS1, hS16, hH0, hH6⟩ := spRight_iff.1 hR
  have hok := clR_okS hcr
  have hsqm := seq_lt hcr
  unfold ckR at hck
  rw [if_pos hcr] at hck
  by_cases hnp : (np : Int) = (p.H : Int)
  · rw [if_pos hnp] at hck
    obtain rfl : np = p.H := by omega
    by_cases hre : rsE (m : Int) p.W sn nw = 0
    · rw [if_pos hre] at hck
      by_cases hck2 : chkB p.d p.ep p.H (hRt p) (sq.toNat : Int) (climbB p.d p.ep sq (rsB p.d p.ep sq m p.W sn lf ws nw) ((m : Int) + 1) p.S p.W) ps p.H = true
      · -- the path
        have hnl : (nxt p m sn sq lf ws nw).length = 16 := rsB_length hlf _
        have hcc := climb_cl (p := p) (m := m) (sq := sq) hlv (nx := nxt p m sn sq lf ws nw) (by omega) (by omega)
        have hcc' : climbB p.d p.ep sq (rsB p.d p.ep sq m p.W sn lf ws nw) ((m : Int) + 1) p.S p.W = cl p m sq (nxt p m sn sq lf ws nw) (p.S - (m + 1)) := hcc
        rw [hcc'] at hck2
        simp only [chkB, Bool.and_eq_true, decide_eq_true_eq] at hck2
        obtain ⟨⟨_, hfe⟩, hfb⟩ := hck2
        have hfo : foldOk (sq.toNat : Int) p.H = true := by
          rw [← Bool.not_eq_false]
          intro h
          rw [foldE, h] at hfe
          cases hfe
        rw [foldB, if_pos hfo, Int.toNat_natCast] at hfb
        have hq2 : sq.toNat < 2 ^ p.H := hsqm
        have hls : (ends p p.m).length = 16 * 2 ^ p.H := by rw [ends_length]; rfl
        have hX : foldX p.d p.ep (sq.toNat : Int) (cl p m sq (nxt p m sn sq lf ws nw) (p.S - (m + 1))) ps p.H = gRiseTs p.d p.ep sq.toNat (cl p m sq (nxt p m sn sq lf ws nw) (p.S - (m + 1))) ps p.H := by
          rw [foldX, if_pos hfo, Int.toNat_natCast]
        have h1 : cl p m sq (nxt p m sn sq lf ws nw) (p.S - (m + 1)) = chunk (ends p p.m) sq.toNat ∧ ps = gPath p.d p.ep (ends p p.m) sq.toNat p.H := by
          apply Classical.byContradiction
          intro hne
          have h2 := grove_sound hls (cl_length hnl _) hpl hq2 hfb hne
          have h3 := clash_mono (a' := txs p m sq) (b' := cks p m sn sq lf ws nw ps p.H) h2 (fun x hx => List.mem_append.2 (.inr hx)) (fun y hy => List.mem_append.2 (.inr (by rw [hX]; exact hy)))
          rw [hno] at h3
          cases h3
        rw [end_chunk hsqm] at h1
        -- down the ladder
        have down : ∀ j, j ≤ p.S - (m + 1) → cl p m sq (nxt p m sn sq lf ws nw) (p.S - (m + 1) - j) = el p sq.toNat (p.S - j) := by
          intro j
          induction j with
          | zero => intro _; exact h1.1
          | succ j ih =>
            intro hj
            have h2 := ih (by omega)
            obtain ⟨n, hn⟩ : ∃ n, p.S - (m + 1) - j = n + 1 := ⟨p.S - (m + 1) - j - 1, by omega⟩
            rw [hn, cl_up hlv (by omega), show p.S - j = (m + 1 + n) + 1 by omega, el_up hlv (by omega)] at h2
            rw [show p.S - (m + 1) - (j + 1) = n by omega, show p.S - (j + 1) = m + 1 + n by omega]
            refine (lnode_inj (el_length _ _ _) (cl_length hnl _) _ h2.symm fun x hx y hy e => clash_not hno (List.mem_append.2 (.inl ?_)) (List.mem_append.2 (.inl (List.mem_append.2 (.inr ?_)))) e).symm
            · refine rungTs_mem (k := 1 + n) ?_ _ (by omega)
              rw [show m + (1 + n) = m + 1 + n by omega]
              exact hx
            · exact rungTs_mem (k := n) hy _ (by omega)
        have h3 := down (p.S - (m + 1)) (Nat.le_refl _)
        rw [Nat.sub_self, show p.S - (p.S - (m + 1)) = m + 1 by omega] at h3
        have h4 : rsB p.d p.ep sq (m : Int) p.W sn lf ws nw = el p sq.toNat (m + 1) := h3
        -- the leaf and the way
        obtain ⟨lv, W, q, g1, g2, g3, g4, g5, g6, g7⟩ := okS_spec hok
        have hlve : (levels p.W).toNat = lv := by rw [g4]; rfl
        have hsnq : sn.toNat = q := by rw [g5]; rfl
        rw [rsE, if_pos hok, hlve, riseE] at hre
        have hnw : nw = lv := by
          apply Classical.byContradiction
          intro h
          rw [if_neg h] at hre
          cases hre
        subst hnw
        have hri : rsB p.d p.ep sq (m : Int) p.W sn lf ws nw = lRise p.d p.ep sq (m : Int) q lf ws nw := by rw [rsB, if_pos hok, hlve, hsnq, riseB, if_pos rfl]
        have hrx : rsX p.d p.ep sq (m : Int) p.W sn lf ws nw = lRiseTs p.d p.ep sq (m : Int) q lf ws nw := by rw [rsX, if_pos hok, hlve, hsnq, riseX, if_pos rfl]
        rw [hri, el_up hlv (by omega)] at h4
        have hlvo : lvOf p = nw := hlve
        rw [hlvo] at h4
        have h5 : lf = lNode p.d p.ep sq (m : Int) (el p sq.toNat m) 0 q ∧ ws = showW p.d p.ep sq (m : Int) (el p sq.toNat m) q nw := by
          apply Classical.byContradiction
          intro hne
          have h6 := ladder_sound hlf hwl (g2 ▸ g6) h4 hne
          have h7 := clash_mono (a' := txs p m sq) (b' := cks p m sn sq lf ws nw ps p.H) h6 (fun x hx => List.mem_append.2 (.inl (rungTs_mem (k := 0) (by rw [hlvo]; exact hx) _ (by omega)))) (fun y hy => List.mem_append.2 (.inl (List.mem_append.2 (.inl (by rw [hrx]; exact hy)))))
          rw [hno] at h7
          cases h7
        refine ⟨h5.1.trans ?_, h5.2.trans ?_, h1.2⟩
        · show _ = shL _ _ _ _ _ _ _
          rw [shL, if_pos hok, hsnq]
        · show _ = shW _ _ _ _ _ _ _
          rw [shW, if_pos hok, hsnq, hlve]
      · rw [if_neg hck2] at hck
        cases hck
    · rw [if_neg hre] at hck
      exact absurd hck hre
  · rw [if_neg hnp] at hck
    cases hck
end
end Go.Proofs.YtklajbdbnnceiaaGreat
end

section
/- All that is summed, as the document has it. -/
set_option linter.unusedSimpArgs false
set_option linter.unusedVariables false
set_option maxRecDepth 100000
namespace Go.Proofs.YtklajbdbnnceiaaGreat
open Go Go.Fw
open Sha
theorem rungTs_le (d : Int) (ep sq : UInt32) {lv m : Nat} (f : Nat → List UInt8) (h : lv ≤ 3) : ∀ n, (rungTs d ep sq lv m f n).length ≤ 100 * n
  | 0 => Nat.le_refl _
  | n + 1 => by
    have h1 := rungTs_le d ep sq (m := m) f h n
    have h2 := nodeTs_le d ep sq ((m + n : Nat) : Int) (f n) lv 0 (by omega)
    rw [rungTs, List.length_append]
    omega
theorem rsX_le (d : Int) (ep sq : UInt32) (r x id : Int) (l ws : List UInt8) (n : Nat) : (rsX d ep sq r x id l ws n).length ≤ n := by
  unfold rsX riseX
  split
  · split
    · rw [lRiseTs_length]; exact Nat.le_refl _
    · exact Nat.zero_le _
  · exact Nat.zero_le _
theorem foldX_le (d : Int) (ep : UInt32) (i : Int) (l ws : List UInt8) (m : Nat) : (foldX d ep i l ws m).length ≤ m := by
  unfold foldX
  split
  · rw [gRiseTs_length]; exact Nat.le_refl _
  · exact Nat.zero_le _
theorem lvOf_spec {p : Spr} (hlv : 0 ≤ levels p.W) : levels p.W = (lvOf p : Nat) ∧ lvOf p ≤ 3 := by
  obtain ⟨lv, W, h1, h2, h3, h4⟩ := levels_lv hlv
  unfold lvOf
  omega
set_option maxHeartbeats 4000000 in
theorem ref09_Texts (p : Spr) (ho : p.Ok) (m : Nat) (sn : Int) (sq : UInt32) (hcr : clRight p.W p.S p.H p.d m sn p.ep sq = true) (w : World)  : Ctr Tryz.prog 42 [.agg #[I p.W, I p.S, I p.H], .agg (p.seed.map B).toArray, .agg #[I p.d, U p.ep, U sq, I (m : Nat), I sn]] w (fun _ => False) (outE (textsE 177 5 (txs p m sq)) w) := by
  obtain ⟨hR, hd0, hdW, hsn0, hsnW, hep, hsq, hmt0, hmtS⟩ := clRight_iff.1 hcr
  obtain ⟨hlv, hS1, hS16, hH0, hH6⟩ := spRight_iff.1 hR
  obtain ⟨hxl, hlv3⟩ := lvOf_spec hlv
  have hsqm := seq_lt hcr
  have hm64 := ho.m64
  have hmS : m < p.S := by omega
  refine fn_start (N := 72) Tryz.func42 rfl rfl rfl fun ac hk => ?_
  have hs := St.start hk w
  refine wp_seq ?_
  refine wp_reg ?_
  refine s_box hs rfl rfl rfl fun ac ww g3 hs => ?_
  refine s_box hs rfl rfl rfl fun ac ww g4 hs => ?_
  refine s_box hs rfl rfl rfl fun ac ww g5 hs => ?_
  refine s_q hs (c_assign (hs.ev rfl)) rfl fun ac hs => ?_
  refine s_end ?_
  replace hs := hs.sub (F' := [(3, _), (4, _), (5, _), (6, _)]) ⟨rfl, rfl, rfl, rfl, trivial⟩
  refine then_n ?_
  refine wp_seq ?_
  refine wp_reg ?_
  refine s_q hs (c_assign (hs.ev rfl)) rfl fun ac hs => ?_
  refine s_end ?_
  replace hs := hs.texts0 177 (Ent.part 5)
  refine then_n ?_
  refine wp_seq ?_
  refine wp_seq ?_
  refine wp_reg ?_
  refine s_q hs (c_fld fl54_1 (hs.ev rfl)) rfl fun ac hs => ?_
  refine s_q hs (c_fld fl52_2 (hs.ev rfl)) rfl fun ac hs => ?_
  refine s_q hs (c_loadS un3 rfl (hs.ev rfl) (hs.seg (i := 1) rfl) rfl) rfl fun ac hs => ?_
  refine s_q hs (c_assign (hs.ev rfl)) rfl fun ac hs => ?_
  refine s_end ?_
  replace hs := hs.sub (F' := [(3, _), (4, _), (5, _), (6, _), (7, _), (8, _)]) ⟨rfl, rfl, rfl, rfl, rfl, rfl, trivial⟩
  refine then_n ?_
  refine wp_block ?_
  refine s_loop hs (X := Nat × Value × List (Value × List UInt8)) (fun x => [(7, x.2.1), (8, I (m + x.1 : Nat))]) [(3, _), (4, _), (5, _), (6, _)] (fun x => [.texts 177 (Ent.part 5) x.2.1 x.2.2, _, _, _]) (fun j x => x.1 ≤ p.S - m ∧ j = p.S - m - x.1 ∧ x.2.2.map (·.2) = rungTs p.d p.ep sq (lvOf p) m (fun n => el p sq.toNat (m + n)) x.1) (_) ((0, _, [])) (⟨Nat.zero_le _, rfl, rfl⟩) ⟨rfl, rfl, rfl, rfl, rfl, rfl, trivial⟩ rfl ?_
  rintro n ⟨k, v, ps⟩ ac ww hok hs
  simp only [List.cons_append, List.nil_append] at hs
  obtain ⟨hk, rfl, hps⟩ := hok
  simp only at hk hps hs
  have hpl : ps.length ≤ 100 * k := by have h9 := congrArg List.length hps; rw [List.length_map] at h9; rw [h9]; exact rungTs_le _ _ _ _ hlv3 k
  refine wp_seq ?_
  refine wp_seq ?_
  refine wp_reg ?_
  refine s_q hs (c_move (hs.ev rfl)) rfl fun ac hs => ?_
  refine s_q hs (c_fld fl23_1 (hs.ev rfl)) rfl fun ac hs => ?_
  refine s_q hs (c_loadS un3 rfl (hs.ev rfl) (hs.seg (i := 3) rfl) rfl) rfl fun ac hs => ?_
  refine s_q hs (c_lssI (hs.ev rfl) (hs.ev rfl)) rfl fun ac hs => ?_
  refine s_end ?_
  refine then_n ?_
  refine s_cond hs rfl (fun hc => ?_) (fun hc => ?_)
  · try simp only [decide_eq_true_eq, decide_eq_false_iff_not, Bool.not_eq_true', Bool.not_eq_false', Bool.and_eq_true, Bool.or_eq_true, Bool.or_eq_false_iff] at hc
    have hkS : m + k < p.S := by omega
    refine wp_skip ?_
    refine then_n ?_
    refine wp_seq ?_
    refine wp_block ?_
    refine wp_seq ?_
    refine wp_reg ?_
    refine s_q hs (c_loadW ty23 ag23 (hs.ev rfl) (hs.seg (i := 3) rfl) (by rfl)) rfl fun ac hs => ?_
    refine s_q hs (c_loadW ty24 rfl (hs.ev rfl) (hs.seg (i := 2) rfl) (by rw [List.length_map, ho.seed])) rfl fun ac hs => ?_
    refine s_q hs (c_fld fl54_0 (hs.ev rfl)) rfl fun ac hs => ?_
    refine s_q hs (c_loadS un3 rfl (hs.ev rfl) (hs.seg (i := 1) rfl) rfl) rfl fun ac hs => ?_
    refine s_q hs (c_fld fl54_1 (hs.ev rfl)) rfl fun ac hs => ?_
    refine s_q hs (c_fld fl52_0 (hs.ev rfl)) rfl fun ac hs => ?_
    refine s_q hs (c_loadS un25 rfl (hs.ev rfl) (hs.seg (i := 1) rfl) rfl) rfl fun ac hs => ?_
    refine s_q hs (c_fld fl54_1 (hs.ev rfl)) rfl fun ac hs => ?_
    refine s_q hs (c_fld fl52_1 (hs.ev rfl)) rfl fun ac hs => ?_
    refine s_q hs (c_loadS un25 rfl (hs.ev rfl) (hs.seg (i := 1) rfl) rfl) rfl fun ac hs => ?_
    refine s_q hs (c_cvUI un25 un3 (hs.ev rfl)) rfl fun ac hs => ?_
    refine s_q hs (c_move (hs.ev rfl)) rfl fun ac hs => ?_
    refine s_call hs fu21 (.cons (hs.ev rfl) (.cons (hs.ev rfl) (.cons (hs.ev rfl) (.cons (hs.ev rfl) (.cons (hs.ev rfl) (.cons (hs.ev rfl) .nil)))))) (ref08_Element p ho hlv sq.toNat (m + k) (by omega) _) rfl fun ac ww v35 hf hp hs => ?_
    obtain rfl := hp
    replace hs := hs [] (.nil _ _)
    refine s_alloc hs ty35 rfl fun ac ww g9 hs => ?_
    refine s_storeW (i := 0) hs ty35 rfl rfl rfl (by rw [List.length_map, el_length]) (all_map_B _) rfl fun ww hs => ?_
    refine s_end ?_
    refine then_n ?_
    refine wp_seq ?_
    refine wp_region_rgX (J := [10]) pmix 12 (by kernel_rfl) (by kernel_rfl) rfl rfl hs ?_
    simp only [List.take_succ_cons, List.take_zero]
    refine rg_q (fun ac ww h => c_loadW ty54 ag54 (h.ev rfl) (h.blk (hs.seg (i := 2) rfl)) (by rfl)) rfl ?_
    refine rg_call fu80 (fun ac ww h => (.cons (h.ev rfl) .nil)) (fun ww hf => ref09_Place p.d (m : Nat) sn p.ep sq ww) rfl ?_
    refine rg_q (fun ac ww h => c_move (h.ev rfl)) rfl ?_
    refine rg_q (fun ac ww h => c_loadW ty35 rfl (h.ev rfl) (h.blk (hs.seg (i := 0) rfl)) (by rw [List.length_map, el_length])) rfl ?_
    refine rg_q (fun ac ww h => c_fld fl23_0 (h.ev rfl)) rfl ?_
    refine rg_q (fun ac ww h => c_loadS un3 rfl (h.ev rfl) (h.blk (hs.seg (i := 4) rfl)) rfl) rfl ?_
    refine rg_call fu88 (fun ac ww h => (.cons (h.ev rfl) .nil)) (fun ww hf => (by have h := ref06_Levels p.W ww; rw [hxl] at h; exact h)) rfl ?_
    refine rg_callE (tupE (.agg ((lNode p.d p.ep sq (((m + k : Nat) : Int)) (el p sq.toNat (m + k)) (lvOf p) 0).map B).toArray) (textsE 177 5 (lNodeTs p.d p.ep sq (((m + k : Nat) : Int)) (el p sq.toNat (m + k)) (lvOf p) 0))) (fun _ _ _ _ _ h => h) fu87 (fun ac ww h => ?_) rfl ?_
    · exact ⟨_, .cons (h.ev rfl) (.cons (h.ev rfl) (.cons (h.ev rfl) (.cons (h.ev rfl) (.cons (h.ev rfl) (.nil))))), ref06_Node p.d p.ep sq ((m + k : Nat) : Int) (el p sq.toNat (m + k)) (el_length _ _ _) (lvOf p) hlv3 0 (Nat.two_pow_pos _) _⟩
    refine rg_moveT rfl rfl rfl ?_
    refine rg_ext0 rfl rfl rfl ?_
    refine rg_ext1 rfl rfl rfl ?_
    refine rg_alloc ty35 rfl ?_
    refine rg_nil fun ac ww L' hf hfe hs hlk => ?_
    simp only [List.drop_succ_cons, List.drop_zero]
    obtain ⟨v10, L10, M10, h10, e10, ⟨v46, L46, M46, h46, e46, ⟨v36, L36, M36, h36, e36, ⟨v44, L44, M44, h44, e44, rfl, rfl⟩, rfl⟩, rfl⟩, rfl⟩ := hfe
    replace hs := hs.add h10
    replace hs := hs.add h46
    replace hs := hs.add h36
    replace hs := hs.add h44
    obtain ⟨g10, rfl, rfl⟩ := e10
    obtain ⟨tv44, rfl, e44⟩ := e44
    obtain ⟨-, rfl⟩ := e36
    obtain rfl := lk_move (j := 8) hlk (by decide) rfl (by kernel_rfl) h36 h44
    obtain ⟨-, rfl⟩ := e46
    obtain rfl := lk_ext (j := 10) hlk (by decide) rfl (by kernel_rfl) h46 h36 rfl
    obtain ⟨ps44, hps44, rfl⟩ := e44
    have hpl44 : ps44.length ≤ 100 := by have h9 := congrArg List.length hps44; rw [List.length_map] at h9; rw [h9]; exact nodeTs_le _ _ _ _ _ _ _ (by omega)
    refine sk_storeW (i := 0) hs ty35 rfl rfl rfl (by rw [List.length_map]; exact lNode_length _ _ _ _ _ _ _) (all_map_B _) rfl (fun ww hs => late_turn rfl rfl (late_nil)) fun ww hs => ?_
    refine s_q hs (c_assign (hs.ev rfl)) rfl fun ac hs => ?_
    refine s_end ?_
    refine then_n ?_
    refine wp_reg ?_
    refine s_q hs (c_move (hs.ev rfl)) rfl fun ac hs => ?_
    refine s_q hs (c_move (hs.ev rfl)) rfl fun ac hs => ?_
    refine s_appTT (i := 3) (j := 1) hs un87 ty177 rfl rfl rfl rfl rfl (RdP.ones (RdP.texts (hs.get (i := 1) rfl))) (by omega) rfl fun ac ww v49 hs => ?_
    refine s_q hs (c_assign (hs.ev rfl)) rfl fun ac hs => ?_
    refine s_end ?_
    refine blk_n ?_
    refine then_n ?_
    refine wp_reg ?_
    refine s_q hs (c_move (hs.ev rfl)) rfl fun ac hs => ?_
    refine s_q hs (c_addI (hs.ev rfl) (hs.ev rfl) (by omega) (by omega)) rfl fun ac hs => ?_
    refine s_q hs (c_assign (hs.ev rfl)) rfl fun ac hs => ?_
    refine s_end ?_
    refine then_n ?_
    replace hs := hs.pick (L' := [_, _, _, _]) (.cons _ (.cons _ (.cons _ (.refl _))))
    exact ⟨p.S - m - (k + 1), by (try simp only); omega, (k + 1, _, ps ++ ps44), ⟨by (try simp only); omega, rfl, by simp only [List.map_append]; rw [hps, hps44]; rfl⟩, St.next hs ⟨rfl, (congrArg (fun z => some (I z)) (by push_cast; omega)), rfl, rfl, rfl, rfl, trivial⟩ rfl⟩
  · try simp only [decide_eq_true_eq, decide_eq_false_iff_not, Bool.not_eq_true', Bool.not_eq_false', Bool.and_eq_true, Bool.or_eq_true, Bool.or_eq_false_iff] at hc
    obtain rfl : k = p.S - m := by omega
    refine wp_exit ?_
    refine then_e ?_
    refine then_e ?_
    refine blk_hit ?_
    refine then_n ?_
    refine wp_seq ?_
    refine wp_region_rgX (J := [18]) pmix 20 (by kernel_rfl) (by kernel_rfl) rfl rfl hs ?_
    simp only [List.take_succ_cons, List.take_zero]
    refine rg_q (fun ac ww h => c_fld fl54_0 (h.ev rfl)) rfl ?_
    refine rg_q (fun ac ww h => c_loadS un3 rfl (h.ev rfl) (h.blk (hs.seg (i := 1) rfl)) rfl) rfl ?_
    refine rg_q (fun ac ww h => c_fld fl54_1 (h.ev rfl)) rfl ?_
    refine rg_q (fun ac ww h => c_fld fl52_0 (h.ev rfl)) rfl ?_
    refine rg_q (fun ac ww h => c_loadS un25 rfl (h.ev rfl) (h.blk (hs.seg (i := 1) rfl)) rfl) rfl ?_
    refine rg_q (fun ac ww h => c_loadW ty23 ag23 (h.ev rfl) (h.blk (hs.seg (i := 3) rfl)) (by rfl)) rfl ?_
    refine rg_q (fun ac ww h => c_loadW ty24 rfl (h.ev rfl) (h.blk (hs.seg (i := 2) rfl)) (by rw [List.length_map, ho.seed])) rfl ?_
    refine rg_q (fun ac ww h => c_fld fl54_0 (h.ev rfl)) rfl ?_
    refine rg_q (fun ac ww h => c_loadS un3 rfl (h.ev rfl) (h.blk (hs.seg (i := 1) rfl)) rfl) rfl ?_
    refine rg_q (fun ac ww h => c_fld fl54_1 (h.ev rfl)) rfl ?_
    refine rg_q (fun ac ww h => c_fld fl52_0 (h.ev rfl)) rfl ?_
    refine rg_q (fun ac ww h => c_loadS un25 rfl (h.ev rfl) (h.blk (hs.seg (i := 1) rfl)) rfl) rfl ?_
    refine rg_callE (rowS' p.m (ends p p.m)) (fun _ _ _ _ _ h => h) fu69 (fun ac ww h => ?_) rfl ?_
    · exact ⟨_, .cons (h.ev rfl) (.cons (h.ev rfl) (.cons (h.ev rfl) (.cons (h.ev rfl) (.nil)))), ref08_Ends p ho hlv _⟩
    refine rg_q (fun ac ww h => c_fld fl23_2 (h.ev rfl)) rfl ?_
    refine rg_q (fun ac ww h => c_loadS un3 rfl (h.ev rfl) (h.blk (hs.seg (i := 3) rfl)) rfl) rfl ?_
    refine rg_callE (tupE (.agg ((gNode p.d p.ep (ends p p.m) p.H 0).map B).toArray) (textsE 177 5 (gNodeTs p.d p.ep (ends p p.m) p.H 0))) (fun _ _ _ _ _ h => h) fu89 (fun ac ww h => ?_) rfl ?_
    · obtain ⟨u63, L63, he63, hee, hh63⟩ := h.ent (n := 63) rfl rfl
      obtain rfl := hee
      exact ⟨_, .cons (h.ev rfl) (.cons (h.ev rfl) (.cons he63 (.cons (h.ev rfl) (.cons (h.ev rfl) .nil)))), ref07_Node p.d p.ep (ends p p.m) p.m _ (ends_len p) (by omega) p.H ho.h6 0 (by show (0 + 1) * 2 ^ p.H ≤ 2 ^ p.H; omega) _ (Rd.of_row (hh63.holds _ (List.mem_singleton.2 rfl)))⟩
    refine rg_moveT rfl rfl rfl ?_
    refine rg_ext0 rfl rfl rfl ?_
    refine rg_ext1 rfl rfl rfl ?_
    refine rg_alloc ty35 rfl ?_
    refine rg_nil fun ac ww L' hf hfe hs hlk => ?_
    simp only [List.drop_succ_cons, List.drop_zero]
    obtain ⟨v12, L12, M12, h12, e12, ⟨v68, L68, M68, h68, e68, ⟨v50, L50, M50, h50, e50, ⟨v66, L66, M66, h66, e66, ⟨v63, L63, M63, h63, e63, rfl, rfl⟩, rfl⟩, rfl⟩, rfl⟩, rfl⟩ := hfe
    replace hs := hs.add h12
    replace hs := hs.add h68
    replace hs := hs.add h50
    replace hs := hs.add h66
    replace hs := hs.add h63
    obtain ⟨g12, rfl, rfl⟩ := e12
    obtain ⟨tv66, rfl, e66⟩ := e66
    obtain ⟨-, rfl⟩ := e50
    obtain rfl := lk_move (j := 16) hlk (by decide) rfl (by kernel_rfl) h50 h66
    obtain ⟨-, rfl⟩ := e68
    obtain rfl := lk_ext (j := 18) hlk (by decide) rfl (by kernel_rfl) h68 h50 rfl
    obtain ⟨ps66, hps66, rfl⟩ := e66
    obtain rfl := e63
    have hpl66 : ps66.length ≤ 100 := by have h9 := congrArg List.length hps66; rw [List.length_map] at h9; rw [h9]; exact (by rw [gNodeTs_length]; have := pow64 ho.h6; omega)
    refine sk_storeW (i := 0) hs ty35 rfl rfl rfl (by rw [List.length_map, rt_length]) (all_map_B _) rfl (fun ww hs => late_turn rfl rfl (late_nil)) fun ww hs => ?_
    refine s_q hs (c_assign (hs.ev rfl)) rfl fun ac hs => ?_
    refine s_end ?_
    replace hs := hs.sub (F' := [(6, _), (7, _), (13, _)]) ⟨rfl, rfl, rfl, trivial⟩
    refine then_n ?_
    refine wp_seq ?_
    refine wp_reg ?_
    refine s_q hs (c_move (hs.ev rfl)) rfl fun ac hs => ?_
    refine s_q hs (c_move (hs.ev rfl)) rfl fun ac hs => ?_
    refine s_appTT (i := 3) (j := 1) hs un87 ty177 rfl rfl rfl rfl rfl (RdP.ones (RdP.texts (hs.get (i := 1) rfl))) (by omega) rfl fun ac ww v71 hs => ?_
    refine s_q hs (c_assign (hs.ev rfl)) rfl fun ac hs => ?_
    refine s_end ?_
    replace hs := hs.sub (F' := [(6, _)]) ⟨rfl, trivial⟩
    refine then_n ?_
    refine wp_ret ?_
    refine s_ret hs rfl (.tmp (hs.tmp rfl) .nil) rfl ⟨_, rfl, hs.fr, ?_⟩
    exact ⟨_, ⟨ps ++ ps66, by rw [List.map_append, hps, hps66]; rfl, rfl⟩, (hs.pick (L' := [_]) (.cons _ (.cons _ (.cons _ (.cons_cons _ (List.nil_sublist _)))))).made⟩
set_option maxHeartbeats 4000000 in
theorem ref09_Checked (p : Spr) (ho : p.Ok) (m : Nat) (sn : Int) (sq : UInt32) (lf ws ps : List UInt8) (nw np : Nat) (wv pv : Value) (hcr : clRight p.W p.S p.H p.d m sn p.ep sq = true) (hlf : lf.length = 16) (hwl : ws.length = nw * 16) (hpl : ps.length = np * 16) (hnw2 : nw ≤ 100000) (hnp2 : np ≤ 100000) (w : World) (hqw : Rd w wv nw (ws.map B)) (hqp : Rd w pv np (ps.map B)) : Ctr Tryz.prog 43 [.agg #[I p.W, I p.S, I p.H], .agg #[I p.d, U p.ep, U sq, I (m : Nat), I sn], credV lf wv pv] w (fun _ => False) (outE (textsE 177 5 (cks p m sn sq lf ws nw ps np)) w) := by
  obtain ⟨hR, hd0, hdW, hsn0, hsnW, hep, hsq, hmt0, hmtS⟩ := clRight_iff.1 hcr
  obtain ⟨hlv, hS1, hS16, hH0, hH6⟩ := spRight_iff.1 hR
  obtain ⟨hxl, hlv3⟩ := lvOf_spec hlv
  have hsqm := seq_lt hcr
  have hm64 := ho.m64
  have hmS : m < p.S := by omega
  have hnl : (nxt p m sn sq lf ws nw).length = 16 := rsB_length hlf _
  obtain ⟨wad, wcap, rfl, hwc, hwm⟩ := Rd.sl hqw
  obtain ⟨pad, pcap, rfl, hpc, hpm⟩ := Rd.sl hqp
  refine fn_start (N := 79) Tryz.func43 rfl rfl rfl fun ac hk => ?_
  have hs := St.start hk w
  refine wp_seq ?_
  refine wp_reg ?_
  refine s_box hs rfl rfl rfl fun ac ww g3 hs => ?_
  refine s_box hs rfl rfl rfl fun ac ww g4 hs => ?_
  refine s_box hs rfl rfl rfl fun ac ww g5 hs => ?_
  refine s_q hs (c_assign (hs.ev rfl)) rfl fun ac hs => ?_
  refine s_end ?_
  replace hs := hs.sub (F' := [(3, _), (4, _), (5, _), (6, _)]) ⟨rfl, rfl, rfl, rfl, trivial⟩
  refine then_n ?_
  refine wp_seq ?_
  refine wp_region_rgX (J := [16, 17]) pmix 19 (by kernel_rfl) (by kernel_rfl) rfl rfl hs ?_
  simp only [List.take_succ_cons, List.take_zero]
  refine rg_q (fun ac ww h => c_loadW ty54 ag54 (h.ev rfl) (h.blk (hs.seg (i := 1) rfl)) (by rfl)) rfl ?_
  refine rg_call fu80 (fun ac ww h => (.cons (h.ev rfl) .nil)) (fun ww hf => ref09_Place p.d (m : Nat) sn p.ep sq ww) rfl ?_
  refine rg_q (fun ac ww h => c_fld fl54_1 (h.ev rfl)) rfl ?_
  refine rg_q (fun ac ww h => c_fld fl52_2 (h.ev rfl)) rfl ?_
  refine rg_q (fun ac ww h => c_loadS un3 rfl (h.ev rfl) (h.blk (hs.seg (i := 1) rfl)) rfl) rfl ?_
  refine rg_q (fun ac ww h => c_fld fl23_0 (h.ev rfl)) rfl ?_
  refine rg_q (fun ac ww h => c_loadS un3 rfl (h.ev rfl) (h.blk (hs.seg (i := 2) rfl)) rfl) rfl ?_
  refine rg_q (fun ac ww h => c_fld fl54_2 (h.ev rfl)) rfl ?_
  refine rg_q (fun ac ww h => c_loadS un3 rfl (h.ev rfl) (h.blk (hs.seg (i := 1) rfl)) rfl) rfl ?_
  refine rg_q (fun ac ww h => c_fld fl66_0 (h.ev rfl)) rfl ?_
  refine rg_q (fun ac ww h => c_loadA ty35 rfl (h.ev rfl) (h.blk (hs.seg (i := 0) rfl)) (cred_leaf hlf _ _) (show (List.map B lf).length = 16 by rw [List.length_map, hlf])) rfl ?_
  refine rg_q (fun ac ww h => c_fld fl66_1 (h.ev rfl)) rfl ?_
  refine rg_q (fun ac ww h => c_loadS un47 rfl (h.ev rfl) (h.blk (hs.seg (i := 0) rfl)) (cred_way hlf _ _)) rfl ?_
  refine rg_callE (tupG [.agg ((nxt p m sn sq lf ws nw).map B).toArray] [I (rsE (m : Int) p.W sn nw)] (textsE 177 5 (rsX p.d p.ep sq (m : Int) p.W sn lf ws nw))) (fun _ _ _ _ _ h => h) fu90 (fun ac ww h => ?_) rfl ?_
  · exact ⟨_, .cons (h.ev rfl) (.cons (h.ev rfl) (.cons (h.ev rfl) (.cons (h.ev rfl) (.cons (h.ev rfl) (.cons (h.ev rfl) (.nil)))))), ref06_RiseA p.d p.ep sq (m : Int) p.W sn lf ws nw _ hlf hwl (by omega) _ (hqw.fr0 (hs.fr.trans0 h.fr))⟩
  refine rg_moveG rfl rfl rfl ?_
  refine rg_extGc rfl rfl rfl (fun _ => rfl) ?_
  refine rg_extGe rfl rfl rfl rfl ?_
  refine rg_extGc rfl rfl rfl (fun _ => rfl) ?_
  refine rg_alloc ty35 rfl ?_
  refine rg_nil fun ac ww L' hf hfe hs hlk => ?_
  simp only [List.drop_succ_cons, List.drop_zero]
  obtain ⟨v7, L7, M7, h7, e7, ⟨v32, L32, M32, h32, e32, ⟨v16, L16, M16, h16, e16, ⟨v30, L30, M30, h30, e30, rfl, rfl⟩, rfl⟩, rfl⟩, rfl⟩ := hfe
  replace hs := hs.add h7
  replace hs := hs.add h32
  replace hs := hs.add h16
  replace hs := hs.add h30
  obtain ⟨g7, rfl, rfl⟩ := e7
  obtain ⟨tv30, rfl, e30⟩ := e30
  obtain ⟨-, rfl⟩ := e16
  obtain rfl := lk_move (j := 14) hlk (by decide) rfl (by kernel_rfl) h16 h30
  obtain ⟨-, rfl⟩ := e32
  obtain rfl := lk_ext (j := 16) hlk (by decide) rfl (by kernel_rfl) h32 h16 rfl
  obtain ⟨ps30, hps30, rfl⟩ := e30
  have hpl30 : ps30.length ≤ nw := by have h9 := congrArg List.length hps30; rw [List.length_map] at h9; rw [h9]; exact rsX_le _ _ _ _ _ _ _ _ _
  refine sk_storeW (i := 0) hs ty35 rfl rfl rfl (by rw [List.length_map]; exact hnl) (all_map_B _) rfl (fun ww hs => late_turn rfl rfl (late_turn rfl rfl (late_nil))) fun ww hs => ?_
  refine s_q hs (c_assign (hs.ev rfl)) rfl fun ac hs => ?_
  refine s_q hs (c_assign (hs.ev rfl)) rfl fun ac hs => ?_
  refine s_end ?_
  replace hs := hs.sub (F' := [(3, _), (4, _), (5, _), (6, _), (7, _), (8, _)]) ⟨rfl, rfl, rfl, rfl, rfl, rfl, trivial⟩
  refine then_n ?_
  refine wp_seq ?_
  refine wp_seq ?_
  refine wp_reg ?_
  refine s_q hs (c_fld fl54_1 (hs.ev rfl)) rfl fun ac hs => ?_
  refine s_q hs (c_fld fl52_2 (hs.ev rfl)) rfl fun ac hs => ?_
  refine s_q hs (c_loadS un3 rfl (hs.ev rfl) (hs.seg (i := 3) rfl) rfl) rfl fun ac hs => ?_
  refine s_q hs (c_addI (hs.ev rfl) (hs.ev rfl) (by omega) (by omega)) rfl fun ac hs => ?_
  refine s_q hs (c_assign (hs.ev rfl)) rfl fun ac hs => ?_
  refine s_end ?_
  replace hs := hs.sub (F' := [(3, _), (4, _), (5, _), (6, _), (7, _), (8, _), (10, _)]) ⟨rfl, rfl, rfl, rfl, rfl, rfl, rfl, trivial⟩
  refine then_n ?_
  refine wp_block ?_
  refine s_loop hs (X := Nat × Value × List (Value × List UInt8)) (fun x => [(8, x.2.1), (10, I (m + 1 + x.1 : Nat))]) [(3, _), (4, _), (5, _), (6, _), (7, _)] (fun x => [.seg g7 ((cl p m sq (nxt p m sn sq lf ws nw) x.1).map B) 35, .texts 177 (Ent.part 5) x.2.1 x.2.2, _, _, _]) (fun j x => x.1 ≤ p.S - (m + 1) ∧ j = p.S - (m + 1) - x.1 ∧ x.2.2.map (·.2) = rsX p.d p.ep sq (m : Int) p.W sn lf ws nw ++ rungTs p.d p.ep sq (lvOf p) (m + 1) (cl p m sq (nxt p m sn sq lf ws nw)) x.1) (_) ((0, _, ps30)) (⟨Nat.zero_le _, rfl, by simp only [rungTs, List.append_nil]; exact hps30⟩) ⟨rfl, (congrArg (fun z => some (I z)) (by push_cast; omega)), rfl, rfl, rfl, rfl, rfl, trivial⟩ rfl ?_
  rintro n ⟨k, v, ps2⟩ ac ww hok hs
  simp only [List.cons_append, List.nil_append] at hs
  obtain ⟨hk, rfl, hps⟩ := hok
  simp only at hk hps hs
  have hpl2 : ps2.length ≤ nw + 100 * k := by have h9 := congrArg List.length hps; rw [List.length_map, List.length_append] at h9; have h8 := rsX_le p.d p.ep sq (m : Int) p.W sn lf ws nw; have h7 := rungTs_le p.d p.ep sq (m := m + 1) (cl p m sq (nxt p m sn sq lf ws nw)) hlv3 k; omega
  refine wp_seq ?_
  refine wp_seq ?_
  refine wp_reg ?_
  refine s_q hs (c_move (hs.ev rfl)) rfl fun ac hs => ?_
  refine s_q hs (c_fld fl23_1 (hs.ev rfl)) rfl fun ac hs => ?_
  refine s_q hs (c_loadS un3 rfl (hs.ev rfl) (hs.seg (i := 4) rfl) rfl) rfl fun ac hs => ?_
  refine s_q hs (c_lssI (hs.ev rfl) (hs.ev rfl)) rfl fun ac hs => ?_
  refine s_end ?_
  refine then_n ?_
  refine s_cond hs rfl (fun hc => ?_) (fun hc => ?_)
  · try simp only [decide_eq_true_eq, decide_eq_false_iff_not, Bool.not_eq_true', Bool.not_eq_false', Bool.and_eq_true, Bool.or_eq_true, Bool.or_eq_false_iff] at hc
    have hkS : m + 1 + k < p.S := by omega
    refine wp_skip ?_
    refine then_n ?_
    refine wp_seq ?_
    refine wp_block ?_
    refine wp_seq ?_
    refine wp_region_rgX (J := [10]) pmix 12 (by kernel_rfl) (by kernel_rfl) rfl rfl hs ?_
    simp only [List.take_succ_cons, List.take_zero]
    refine rg_q (fun ac ww h => c_loadW ty54 ag54 (h.ev rfl) (h.blk (hs.seg (i := 3) rfl)) (by rfl)) rfl ?_
    refine rg_call fu80 (fun ac ww h => (.cons (h.ev rfl) .nil)) (fun ww hf => ref09_Place p.d (m : Nat) sn p.ep sq ww) rfl ?_
    refine rg_q (fun ac ww h => c_move (h.ev rfl)) rfl ?_
    refine rg_q (fun ac ww h => c_loadW ty35 rfl (h.ev rfl) (h.blk (hs.seg (i := 0) rfl)) (by rw [List.length_map]; exact cl_length hnl _)) rfl ?_
    refine rg_q (fun ac ww h => c_fld fl23_0 (h.ev rfl)) rfl ?_
    refine rg_q (fun ac ww h => c_loadS un3 rfl (h.ev rfl) (h.blk (hs.seg (i := 4) rfl)) rfl) rfl ?_
    refine rg_call fu88 (fun ac ww h => (.cons (h.ev rfl) .nil)) (fun ww hf => (by have h := ref06_Levels p.W ww; rw [hxl] at h; exact h)) rfl ?_
    refine rg_callE (tupE (.agg ((lNode p.d p.ep sq (((m + 1 + k : Nat) : Int)) (cl p m sq (nxt p m sn sq lf ws nw) k) (lvOf p) 0).map B).toArray) (textsE 177 5 (lNodeTs p.d p.ep sq (((m + 1 + k : Nat) : Int)) (cl p m sq (nxt p m sn sq lf ws nw) k) (lvOf p) 0))) (fun _ _ _ _ _ h => h) fu87 (fun ac ww h => ?_) rfl ?_
    · exact ⟨_, .cons (h.ev rfl) (.cons (h.ev rfl) (.cons (h.ev rfl) (.cons (h.ev rfl) (.cons (h.ev rfl) (.nil))))), ref06_Node p.d p.ep sq ((m + 1 + k : Nat) : Int) (cl p m sq (nxt p m sn sq lf ws nw) k) (cl_length hnl _) (lvOf p) hlv3 0 (Nat.two_pow_pos _) _⟩
    refine rg_moveT rfl rfl rfl ?_
    refine rg_ext0 rfl rfl rfl ?_
    refine rg_ext1 rfl rfl rfl ?_
    refine rg_alloc ty35 rfl ?_
    refine rg_nil fun ac ww L' hf hfe hs hlk => ?_
    simp only [List.drop_succ_cons, List.drop_zero]
    obtain ⟨v11, L11, M11, h11, e11, ⟨v54, L54, M54, h54, e54, ⟨v44, L44, M44, h44, e44, ⟨v52, L52, M52, h52, e52, rfl, rfl⟩, rfl⟩, rfl⟩, rfl⟩ := hfe
    replace hs := hs.add h11
    replace hs := hs.add h54
    replace hs := hs.add h44
    replace hs := hs.add h52
    obtain ⟨g11, rfl, rfl⟩ := e11
    obtain ⟨tv52, rfl, e52⟩ := e52
    obtain ⟨-, rfl⟩ := e44
    obtain rfl := lk_move (j := 8) hlk (by decide) rfl (by kernel_rfl) h44 h52
    obtain ⟨-, rfl⟩ := e54
    obtain rfl := lk_ext (j := 10) hlk (by decide) rfl (by kernel_rfl) h54 h44 rfl
    obtain ⟨ps52, hps52, rfl⟩ := e52
    have hpl52 : ps52.length ≤ 100 := by have h9 := congrArg List.length hps52; rw [List.length_map] at h9; rw [h9]; exact nodeTs_le _ _ _ _ _ _ _ (by omega)
    refine sk_storeW (i := 0) hs ty35 rfl rfl rfl (by rw [List.length_map]; exact lNode_length _ _ _ _ _ _ _) (all_map_B _) rfl (fun ww hs => late_turn rfl rfl (late_nil)) fun ww hs => ?_
    refine s_q hs (c_assign (hs.ev rfl)) rfl fun ac hs => ?_
    refine s_end ?_
    refine then_n ?_
    refine wp_seq ?_
    refine wp_reg ?_
    refine s_q hs (c_move (hs.ev rfl)) rfl fun ac hs => ?_
    refine s_q hs (c_move (hs.ev rfl)) rfl fun ac hs => ?_
    refine s_appTT (i := 3) (j := 1) hs un87 ty177 rfl rfl rfl rfl rfl (RdP.ones (RdP.texts (hs.get (i := 1) rfl))) (by omega) rfl fun ac ww v57 hs => ?_
    refine s_q hs (c_assign (hs.ev rfl)) rfl fun ac hs => ?_
    refine s_end ?_
    refine then_n ?_
    refine wp_reg ?_
    refine s_q hs (c_loadW ty35 rfl (hs.ev rfl) (hs.seg (i := 0) rfl) (by rw [List.length_map]; exact lNode_length _ _ _ _ _ _ _)) rfl fun ac hs => ?_
    refine s_storeW (i := 2) hs ty35 rfl rfl rfl (by rw [List.length_map]; exact lNode_length _ _ _ _ _ _ _) (all_map_B _) (by rw [List.length_map]; exact cl_length hnl _) fun ww hs => ?_
    refine s_end ?_
    refine blk_n ?_
    refine then_n ?_
    refine wp_reg ?_
    refine s_q hs (c_move (hs.ev rfl)) rfl fun ac hs => ?_
    refine s_q hs (c_addI (hs.ev rfl) (hs.ev rfl) (by omega) (by omega)) rfl fun ac hs => ?_
    refine s_q hs (c_assign (hs.ev rfl)) rfl fun ac hs => ?_
    refine s_end ?_
    refine then_n ?_
    replace hs := hs.pick (L' := [_, _, _, _, _]) (.cons _ (.cons _ (.refl _)))
    exact ⟨p.S - (m + 1) - (k + 1), by (try simp only); omega, (k + 1, _, ps2 ++ ps52), ⟨by (try simp only); omega, rfl, by simp only [List.map_append]; rw [hps, hps52, rungTs, List.append_assoc]⟩, St.next hs ⟨rfl, (congrArg (fun z => some (I z)) (by push_cast; omega)), rfl, rfl, rfl, rfl, rfl, trivial⟩ (by rw [cl_up hlv (by omega)])⟩
  · try simp only [decide_eq_true_eq, decide_eq_false_iff_not, Bool.not_eq_true', Bool.not_eq_false', Bool.and_eq_true, Bool.or_eq_true, Bool.or_eq_false_iff] at hc
    obtain rfl : k = p.S - (m + 1) := by omega
    refine wp_exit ?_
    refine then_e ?_
    refine then_e ?_
    refine blk_hit ?_
    refine then_n ?_
    refine wp_seq ?_
    refine wp_reg ?_
    refine s_q hs (c_fld fl54_0 (hs.ev rfl)) rfl fun ac hs => ?_
    refine s_q hs (c_loadS un3 rfl (hs.ev rfl) (hs.seg (i := 3) rfl) rfl) rfl fun ac hs => ?_
    refine s_q hs (c_fld fl54_1 (hs.ev rfl)) rfl fun ac hs => ?_
    refine s_q hs (c_fld fl52_0 (hs.ev rfl)) rfl fun ac hs => ?_
    refine s_q hs (c_loadS un25 rfl (hs.ev rfl) (hs.seg (i := 3) rfl) rfl) rfl fun ac hs => ?_
    refine s_q hs (c_fld fl54_1 (hs.ev rfl)) rfl fun ac hs => ?_
    refine s_q hs (c_fld fl52_1 (hs.ev rfl)) rfl fun ac hs => ?_
    refine s_q hs (c_loadS un25 rfl (hs.ev rfl) (hs.seg (i := 3) rfl) rfl) rfl fun ac hs => ?_
    refine s_q hs (c_cvUI un25 un3 (hs.ev rfl)) rfl fun ac hs => ?_
    refine s_q hs (c_loadW ty35 rfl (hs.ev rfl) (hs.seg (i := 0) rfl) (by rw [List.length_map]; exact cl_length hnl _)) rfl fun ac hs => ?_
    refine s_q hs (c_fld fl66_2 (hs.ev rfl)) rfl fun ac hs => ?_
    refine s_q hs (c_loadS un47 rfl (hs.ev rfl) (hs.seg (i := 2) rfl) (cred_path hlf _ _)) rfl fun ac hs => ?_
    refine s_call hs fu91 (.cons (hs.ev rfl) (.cons (hs.ev rfl) (.cons (hs.ev rfl) (.cons (hs.ev rfl) (.cons (hs.ev rfl) .nil))))) (ref07_Fold p.d p.ep (sq.toNat : Int) np (cl p m sq (nxt p m sn sq lf ws nw) (p.S - (m + 1))) ps _ (cl_length hnl _) hpl _ (hqp.fr0 hs.fr)) rfl fun ac ww v72 hf hp hs => ?_
    obtain ⟨L', ⟨tv72, rfl, ps72, hps72, rfl⟩, hh⟩ := hp
    replace hs := hs _ hh
    have hpl72 : ps72.length ≤ np := by have h9 := congrArg List.length hps72; rw [List.length_map] at h9; rw [h9]; exact foldX_le _ _ _ _ _ _
    refine s_q hs (c_move (hs.ev rfl)) rfl fun ac hs => ?_
    refine s_q hs (c_extract (hs.ev rfl) rfl) rfl fun ac hs => ?_
    refine s_q hs (c_extract (hs.ev rfl) rfl) rfl fun ac hs => ?_
    refine s_q hs (c_extract (hs.ev rfl) rfl) rfl fun ac hs => ?_
    refine s_alloc hs ty35 rfl fun ac ww g13 hs => ?_
    refine s_storeW (i := 0) hs ty35 rfl rfl rfl (by rw [List.length_map, foldB_length (cl_length hnl _)]) (all_map_B _) rfl fun ww hs => ?_
    refine s_q hs (c_assign (hs.ev rfl)) rfl fun ac hs => ?_
    refine s_q hs (c_assign (hs.ev rfl)) rfl fun ac hs => ?_
    refine s_end ?_
    replace hs := hs.sub (F' := [(6, _), (8, _), (14, _)]) ⟨rfl, rfl, rfl, trivial⟩
    refine then_n ?_
    refine wp_seq ?_
    refine wp_reg ?_
    refine s_q hs (c_move (hs.ev rfl)) rfl fun ac hs => ?_
    refine s_q hs (c_move (hs.ev rfl)) rfl fun ac hs => ?_
    refine s_appTT (i := 3) (j := 1) hs un87 ty177 rfl rfl rfl rfl rfl (RdP.ones (RdP.texts (hs.get (i := 1) rfl))) (by omega) rfl fun ac ww v78 hs => ?_
    refine s_q hs (c_assign (hs.ev rfl)) rfl fun ac hs => ?_
    refine s_end ?_
    replace hs := hs.sub (F' := [(6, _)]) ⟨rfl, trivial⟩
    refine then_n ?_
    refine wp_ret ?_
    refine s_ret hs rfl (.tmp (hs.tmp rfl) .nil) rfl ⟨_, rfl, hs.fr, ?_⟩
    exact ⟨_, ⟨ps2 ++ ps72, by rw [List.map_append, hps, hps72]; rfl, rfl⟩, (hs.pick (L' := [_]) (.cons _ (.cons _ (.cons _ (.cons_cons _ (List.nil_sublist _)))))).made⟩
end Go.Proofs.YtklajbdbnnceiaaGreat
end

section
/- The law of quick checks. -/
set_option linter.unusedSimpArgs false
set_option linter.unusedVariables false
set_option maxRecDepth 100000
namespace Go.Proofs.YtklajbdbnnceiaaGreat
open Go Go.Fw
open Sha
theorem hPs_length {p : Spr} {m : Nat} {sn : Int} {sq : UInt32} (h : clRight p.W p.S p.H p.d m sn p.ep sq = true) : (hPs p sq).length = p.H * 16 := gPath_length (ends_length p p.m) (seq_lt h) p.H (Nat.le_refl _)
theorem hRt_length {p : Spr} : (hRt p).length = 16 := gNode_length (ends_length p p.m) p.H 0 (by unfold Spr.m; omega)
end Go.Proofs.YtklajbdbnnceiaaGreat
end

section
/- The law of what a spring issues. -/
set_option linter.unusedSimpArgs false
set_option linter.unusedVariables false
set_option maxRecDepth 100000
namespace Go.Proofs.YtklajbdbnnceiaaGreat
open Go Go.Fw
open Sha
theorem ref09_SameCredY (l ws ps : List UInt8) (n m : Nat) (wv1 pv1 wv2 pv2 : Value) (hl : l.length = 16) (hw : ws.length = n * 16) (hp : ps.length = m * 16) (w : World) (h1 : Rd w wv1 n (ws.map B)) (h2 : Rd w pv1 m (ps.map B)) (h3 : Rd w wv2 n (ws.map B)) (h4 : Rd w pv2 m (ps.map B)) :
    Ctr Tryz.prog 29 [credV l wv1 pv1, credV l wv2 pv2] w (fun _ => False) fun v _ => v = .bool true := by
  have h := ref09_SameCred l ws ps l ws ps n m n m wv1 pv1 wv2 pv2 hl hl hw hp hw hp w h1 h2 h3 h4
  simpa using h
end Go.Proofs.YtklajbdbnnceiaaGreat
end

section
/- The law of whoever shows a claim. -/
set_option linter.unusedSimpArgs false
set_option linter.unusedVariables false
set_option maxRecDepth 100000
namespace Go.Proofs.YtklajbdbnnceiaaGreat
open Go Go.Fw
open Sha
theorem rungTs_good (d : Int) (ep sq : UInt32) (lv m : Nat) (f : Nat → List UInt8) (hf : ∀ n, (f n).length = 16) : ∀ n, ∀ t ∈ rungTs d ep sq lv m f n, ∃ kd tx, t = kd :: tx ∧ tx.length ≤ 140737488355199
  | 0, t, ht => by simp [rungTs] at ht
  | n + 1, t, ht => (List.mem_append.1 ht).elim (rungTs_good d ep sq lv m f hf n t) (lnode_good d ep sq _ _ (hf n) lv 0 t)
theorem txs_good (p : Spr) (m : Nat) (sq : UInt32) : ∀ t ∈ txs p m sq, ∃ kd tx, t = kd :: tx ∧ tx.length ≤ 140737488355199 := fun t ht =>
  (List.mem_append.1 ht).elim (rungTs_good _ _ _ _ _ _ (fun n => el_length _ _ _) _ t) (gnode_good _ _ _ p.H 0 t)
theorem rsX_good (d : Int) (ep sq : UInt32) (r x id : Int) (l ws : List UInt8) (n : Nat) (hl : l.length = 16) (hw : ws.length = n * 16) : ∀ t ∈ rsX d ep sq r x id l ws n, ∃ kd tx, t = kd :: tx ∧ tx.length ≤ 140737488355199 := fun t ht => by
  unfold rsX riseX at ht
  split at ht
  · split at ht
    · exact lrise_good d ep sq r id.toNat l ws n hl hw n (Nat.le_refl _) t ht
    · simp at ht
  · simp at ht
theorem foldX_good (d : Int) (ep : UInt32) (i : Int) (l ws : List UInt8) (m : Nat) (hl : l.length = 16) : ∀ t ∈ foldX d ep i l ws m, ∃ kd tx, t = kd :: tx ∧ tx.length ≤ 140737488355199 := fun t ht => by
  unfold foldX at ht
  split at ht
  · exact grise_good d ep i.toNat l ws hl m t ht
  · simp at ht
theorem cks_good {p : Spr} {m : Nat} {sn : Int} {sq : UInt32} {lf ws ps : List UInt8} {nw np : Nat} (hlf : lf.length = 16) (hwl : ws.length = nw * 16) : ∀ t ∈ cks p m sn sq lf ws nw ps np, ∃ kd tx, t = kd :: tx ∧ tx.length ≤ 140737488355199 := fun t ht => by
  have hnl : (nxt p m sn sq lf ws nw).length = 16 := rsB_length hlf _
  unfold cks at ht
  rcases List.mem_append.1 ht with h | h
  · rcases List.mem_append.1 h with h | h
    · exact rsX_good _ _ _ _ _ _ _ _ _ hlf hwl t h
    · exact rungTs_good _ _ _ _ _ _ (fun n => cl_length hnl n) _ t h
  · exact foldX_good _ _ _ _ _ _ (cl_length hnl _) t h
theorem txs_le {p : Spr} (ho : p.Ok) (hlv : lvOf p ≤ 3) (m : Nat) (sq : UInt32) : (txs p m sq).length ≤ 2000 := by
  have h1 := rungTs_le p.d p.ep sq (m := m) (fun n => el p sq.toNat (m + n)) hlv (p.S - m)
  have h2 := pow64 ho.h6
  have h3 := ho.s16
  rw [txs, List.length_append, gNodeTs_length]
  omega
theorem cks_le {p : Spr} (ho : p.Ok) (hlv : lvOf p ≤ 3) {m : Nat} {sn : Int} {sq : UInt32} {lf ws ps : List UInt8} {nw np : Nat} : (cks p m sn sq lf ws nw ps np).length ≤ 2000 + nw + np := by
  have h1 := rungTs_le p.d p.ep sq (m := m + 1) (cl p m sq (nxt p m sn sq lf ws nw)) hlv (p.S - (m + 1))
  have h2 := rsX_le p.d p.ep sq (m : Int) p.W sn lf ws nw
  have h3 := foldX_le p.d p.ep (sq.toNat : Int) (cl p m sq (nxt p m sn sq lf ws nw) (p.S - (m + 1))) ps np
  have h4 := ho.s16
  rw [cks, List.length_append, List.length_append]
  omega
set_option maxHeartbeats 4000000 in
theorem law_ProofSound (W S H d mt sn : Int) (ep sq : UInt32) (seed lf ws ps : List UInt8) (nw np : Nat) (wv pv : Value) (hon : Bool) (hsd : seed.length = 32) (hlf : lf.length = 16) (hwl : ws.length = nw * 16) (hpl : ps.length = np * 16) (w : World) (hqw : Rd w wv nw (ws.map B)) (hqp : Rd w pv np (ps.map B)) : Ctr Tryz.prog 6 [.agg #[I W, I S, I H], .agg (seed.map B).toArray, .agg #[I d, U ep, U sq, I mt, I sn], credV lf wv pv, .bool hon] w (fun _ => False) (fun v _ => v = .bool true) := by
  obtain ⟨wad, wcap, rfl, hwc, hwm⟩ := Rd.sl hqw
  obtain ⟨pad, pcap, rfl, hpc, hpm⟩ := Rd.sl hqp
  refine fn_start (N := 77) Tryz.func6 rfl rfl rfl fun ac hk => ?_
  have hs := St.start hk w
  refine wp_seq ?_
  refine wp_reg ?_
  refine s_box hs rfl rfl rfl fun ac ww g5 hs => ?_
  refine s_box hs rfl rfl rfl fun ac ww g6 hs => ?_
  refine s_box hs rfl rfl rfl fun ac ww g7 hs => ?_
  refine s_box hs rfl rfl rfl fun ac ww g8 hs => ?_
  refine s_q hs (c_assign (hs.ev rfl)) rfl fun ac hs => ?_
  refine s_end ?_
  replace hs := hs.sub (F' := [(4, _), (5, _), (6, _), (7, _), (8, _), (10, _)]) ⟨rfl, rfl, rfl, rfl, rfl, rfl, trivial⟩
  refine then_n ?_
  refine wp_seq ?_
  refine wp_seq ?_
  refine wp_reg ?_
  refine s_q hs (c_loadW ty23 ag23 (hs.ev rfl) (hs.seg (i := 3) rfl) (by rfl)) rfl fun ac hs => ?_
  refine s_call hs fu11 (.cons (hs.ev rfl) .nil) (law08_Light W S H _) rfl fun ac ww v15 hf hp hs => ?_
  obtain rfl := hp
  replace hs := hs [] (.nil _ _)
  refine s_q hs (c_not (hs.ev rfl)) rfl fun ac hs => ?_
  refine s_q hs (c_move (hs.ev rfl)) rfl fun ac hs => ?_
  refine s_g hs rfl rfl (fun hg => c_loadW ty23 ag23 (hs.ev rfl) (hs.seg (i := 3) rfl) (by rfl)) rfl fun ac hs => ?_
  refine s_g hs rfl rfl (fun hg => c_loadW ty54 ag54 (hs.ev rfl) (hs.seg (i := 1) rfl) (by rfl)) rfl fun ac hs => ?_
  refine s_gcall hs rfl rfl fu28 (fun hg => (.cons (gev (hs.ev rfl) hg) (.cons (gev (hs.ev rfl) hg) .nil))) (fun hg => ref09_Right W S H d mt sn ep sq _) rfl fun ac ww hf hs => ?_
  refine s_g hs rfl rfl (fun hg => c_not (gev (hs.ev rfl) hg)) rfl fun ac hs => ?_
  refine s_q hs (c_or (hs.ev rfl) (hs.ev rfl)) rfl fun ac hs => ?_
  refine s_q hs (c_move (hs.ev rfl)) rfl fun ac hs => ?_
  refine s_g hs rfl rfl (fun hg => c_loadW ty66 ag66 (hs.ev rfl) (hs.seg (i := 0) rfl) (by simp [hlf])) rfl fun ac hs => ?_
  refine s_gcall hs rfl rfl fu32 (fun hg => (.cons (gev (hs.ev rfl) hg) .nil)) (fun hg => law09_Light lf ws ps nw np _ _ hlf _ (hqw.fr0 hs.fr) (hqp.fr0 hs.fr)) rfl fun ac ww hf hs => ?_
  refine s_g hs rfl rfl (fun hg => c_not (gev (hs.ev rfl) hg)) rfl fun ac hs => ?_
  refine s_q hs (c_or (hs.ev rfl) (hs.ev rfl)) rfl fun ac hs => ?_
  refine s_end ?_
  replace hs := hs.sub (F' := [(4, _), (5, _), (6, _), (7, _), (8, _), (10, _), (27, _)]) ⟨rfl, rfl, rfl, rfl, rfl, rfl, rfl, trivial⟩
  refine then_n ?_
  refine s_cond hs rfl (fun hc => ?_) (fun hc => ?_)
  · skip
    refine wp_seq ?_
    refine wp_reg ?_
    refine s_call hs fu25 .nil (law09_awake _) rfl fun ac ww v28 hf hp hs => ?_
    obtain rfl := hp
    replace hs := hs [] (.nil _ _)
    refine s_q hs (c_assign (hs.ev rfl)) rfl fun ac hs => ?_
    refine s_end ?_
    replace hs := hs.sub (F' := [(4, _), (5, _), (6, _), (7, _), (8, _), (10, _)]) ⟨rfl, rfl, rfl, rfl, rfl, rfl, trivial⟩
    refine then_n ?_
    refine wp_ret ?_
    refine then_r ?_
    refine s_ret hs rfl (.tmp (hs.tmp rfl) .nil) rfl ⟨_, rfl, hs.fr, ?_⟩
    rfl
  · skip
    have hc2 : clRight W S H d mt sn ep sq = true ∧ nw ≤ 20 ∧ np ≤ 20 := by
      simp at hc
      exact ⟨hc.1.2, hc.2⟩
    obtain ⟨hcr, hw20, hp20⟩ := hc2
    obtain ⟨hR, hd0, hdW, hsn0, hsnW, hep, hsq, hmt0, hmtS⟩ := clRight_iff.1 hcr
    obtain ⟨hlv, hS1, hS16, hH0, hH6⟩ := spRight_iff.1 hR
    obtain ⟨p, hsi⟩ : ∃ p, SpIs p W S H seed d ep := by
      obtain ⟨Sn, hSn⟩ := int_of (show 0 ≤ S by omega)
      obtain ⟨Hn, hHn⟩ := int_of hH0
      exact ⟨⟨0, 1, W, Sn, Hn, seed, d, ep⟩, ⟨(show (0 : Nat) ≠ 1 by decide), (show Sn ≤ 16 by omega), (show Hn ≤ 6 by omega), hsd⟩, rfl, hSn.symm, hHn.symm, rfl, rfl, rfl⟩
    obtain ⟨ho, hW, hS, hH, hse, hde, hee⟩ := hsi
    subst hW
    subst hS
    subst hH
    subst hde
    subst hee
    subst hse
    obtain ⟨m, rfl⟩ := int_of hmt0
    obtain ⟨hxl, hlv3⟩ := lvOf_spec hlv
    have hsl : (hLf p m sn sq).length = 16 := shL_length _ _ _ _ _ _ _
    have hswl : (hWs p m sn sq).length = (shN (m : Int) p.W sn) * 16 := shW_length _ _ _ _ _ _ _
    have hspl := hPs_length hcr
    have hnw := shN_le (m : Int) p.W sn
    refine wp_skip ?_
    refine then_n ?_
    refine wp_seq ?_
    refine wp_reg ?_
    refine s_q hs (c_loadW ty23 ag23 (hs.ev rfl) (hs.seg (i := 3) rfl) (by rfl)) rfl fun ac hs => ?_
    refine s_q hs (c_loadW ty24 rfl (hs.ev rfl) (hs.seg (i := 2) rfl) (by rw [List.length_map, hsd])) rfl fun ac hs => ?_
    refine s_q hs (c_loadW ty54 ag54 (hs.ev rfl) (hs.seg (i := 1) rfl) (by rfl)) rfl fun ac hs => ?_
    refine s_call hs fu31 (.cons (hs.ev rfl) (.cons (hs.ev rfl) (.cons (hs.ev rfl) .nil))) (ref09_Issue p ho m sn sq hcr _) rfl fun ac ww v32 hf hp hs => ?_
    obtain ⟨L', ⟨wvI, pvI, rfl, rfl⟩, hh⟩ := hp
    replace hs := hs _ hh
    obtain ⟨wIa, wIc, rfl, hwIc, hwIm⟩ := Rd.sl (Rd.of_row (hs.get (i := 1) rfl))
    obtain ⟨pIa, pIc, rfl, hpIc, hpIm⟩ := Rd.sl (Rd.of_row (hs.get (i := 0) rfl))
    refine s_alloc hs ty66 rfl fun ac ww g11 hs => ?_
    refine s_storeW (i := 0) hs ty66 rfl rfl rfl (by simp [hsl]) (by simp [Value.oneCell', Go.Fw.B]) rfl fun ww hs => ?_
    refine s_end ?_
    replace hs := hs.sub (F' := [(4, _), (5, _), (6, _), (7, _), (8, _), (10, _), (11, _)]) ⟨rfl, rfl, rfl, rfl, rfl, rfl, rfl, trivial⟩
    refine then_n ?_
    refine wp_seq ?_
    refine wp_seq ?_
    refine wp_reg ?_
    refine s_q hs (c_move (hs.ev rfl)) rfl fun ac hs => ?_
    refine s_end ?_
    refine then_n ?_
    refine s_cond hs rfl (fun hc => ?_) (fun hc => ?_)
    · skip
      subst hc
      refine wp_reg ?_
      refine s_q hs (c_loadW ty66 ag66 (hs.ev rfl) (hs.seg (i := 0) rfl) (by simp [hsl])) rfl fun ac hs => ?_
      refine s_storeW (i := 3) hs ty66 rfl rfl rfl (by simp [hsl]) (by simp [Value.oneCell', Go.Fw.B]) (by simp [hlf]) fun ww hs => ?_
      refine s_end ?_
      replace hs := hs.sub (F' := [(4, _), (5, _), (6, _), (7, _), (8, _), (10, _), (11, _)]) ⟨rfl, rfl, rfl, rfl, rfl, rfl, rfl, trivial⟩
      refine then_n ?_
      refine wp_seq ?_
      refine wp_region_rgX (J := [17]) pmix 19 (by kernel_rfl) (by kernel_rfl) rfl rfl hs ?_
      simp only [List.take_succ_cons, List.take_zero]
      refine rg_q (fun ac ww h => c_loadW ty23 ag23 (h.ev rfl) (h.blk (hs.seg (i := 6) rfl)) (by rfl)) rfl ?_
      refine rg_call fu15 (fun ac ww h => (.cons (h.ev rfl) .nil)) (fun ww hf => law08_To p.W p.S p.H ww) rfl ?_
      refine rg_q (fun ac ww h => c_loadW ty23 ag23 (h.ev rfl) (h.blk (hs.seg (i := 6) rfl)) (by rfl)) rfl ?_
      refine rg_q (fun ac ww h => c_loadW ty24 rfl (h.ev rfl) (h.blk (hs.seg (i := 5) rfl)) (by rw [List.length_map, hsd])) rfl ?_
      refine rg_q (fun ac ww h => c_fld fl54_0 (h.ev rfl)) rfl ?_
      refine rg_q (fun ac ww h => c_loadS un3 rfl (h.ev rfl) (h.blk (hs.seg (i := 4) rfl)) rfl) rfl ?_
      refine rg_q (fun ac ww h => c_fld fl54_1 (h.ev rfl)) rfl ?_
      refine rg_q (fun ac ww h => c_fld fl52_0 (h.ev rfl)) rfl ?_
      refine rg_q (fun ac ww h => c_loadS un25 rfl (h.ev rfl) (h.blk (hs.seg (i := 4) rfl)) rfl) rfl ?_
      refine rg_call fu20 (fun ac ww h => (.cons (h.ev rfl) (.cons (h.ev rfl) (.cons (h.ev rfl) (.cons (h.ev rfl) .nil))))) (fun ww hf => ref08_Root p ho hlv ww) rfl ?_
      refine rg_q (fun ac ww h => c_loadW ty54 ag54 (h.ev rfl) (h.blk (hs.seg (i := 4) rfl)) (by rfl)) rfl ?_
      refine rg_call fu27 (fun ac ww h => (.cons (h.ev rfl) .nil)) (fun ww hf => law09_To p.d (m : Int) sn p.ep sq ww) rfl ?_
      refine rg_q (fun ac ww h => c_loadW ty66 ag66 (h.ev rfl) (h.blk (hs.seg (i := 3) rfl)) (by simp [hsl])) rfl ?_
      refine rg_callE (crE 36 (hLf p m sn sq) (shN (m : Int) p.W sn) (hWs p m sn sq) p.H (hPs p sq)) (fun _ _ _ _ _ h => h) fu34 (fun ac ww h => ?_) rfl ?_
      · exact ⟨_, .cons (h.ev rfl) (.nil), law09_ToCred _ _ _ _ _ _ _ hsl hswl hspl (by omega) (by omega) _ (Rd.fr0 (Rd.of_row (hs.get (i := 2) rfl)) h.fr) (Rd.fr0 (Rd.of_row (hs.get (i := 1) rfl)) h.fr)⟩
      refine rg_callV (c := .tuple #[.agg ((el p sq.toNat (m + 1)).map Go.Fw.B).toArray, I 0]) fu40 (fun ac ww h => ?_) rfl ?_
      · obtain ⟨u49, L49, he49, hee, hh49⟩ := h.ent (n := 49) rfl rfl
        obtain ⟨wv1, pv1, rfl, rfl⟩ := hee
        have h9 := proof_Check p.W p.S p.H p.d (m : Int) sn p.ep sq (hRt p) (hLf p m sn sq) (hWs p m sn sq) (hPs p sq) (shN (m : Int) p.W sn) p.H wv1 pv1 hRt_length hsl hswl hspl ww (Rd.of_row (hh49.holds _ (List.mem_of_getElem? (i := 1) rfl))) (Rd.of_row (hh49.holds _ (List.mem_of_getElem? (i := 0) rfl)))
        rw [check_honest ho hcr] at h9
        exact ⟨_, .cons (h.ev rfl) (.cons (h.ev rfl) (.cons (h.ev rfl) (.cons he49 .nil))), h9⟩
      refine rg_q (fun ac ww h => c_move (h.ev rfl)) rfl ?_
      refine rg_q (fun ac ww h => c_extract (h.ev rfl) rfl) rfl ?_
      refine rg_q (fun ac ww h => c_extract (h.ev rfl) rfl) rfl ?_
      refine rg_alloc ty36 rfl ?_
      refine rg_nil fun ac ww L' hf hfe hs hlk => ?_
      simp only [List.drop_succ_cons, List.drop_zero]
      obtain ⟨v12, L12, M12, h12, e12, ⟨v49, L49, M49, h49, e49, rfl, rfl⟩, rfl⟩ := hfe
      replace hs := hs.add h12
      replace hs := hs.add h49
      obtain ⟨g12, rfl, rfl⟩ := e12
      obtain ⟨wv1, pv1, rfl, rfl⟩ := e49
      refine sk_storeW (i := 0) hs ty36 rfl rfl rfl (by rw [List.length_map, el_length]) (all_map_B _) rfl (fun ww hs => late_turn rfl rfl (late_nil)) fun ww hs => ?_
      refine s_q hs (c_assign (hs.ev rfl)) rfl fun ac hs => ?_
      refine s_end ?_
      replace hs := hs.sub (F' := [(4, _), (5, _), (6, _), (7, _), (8, _), (10, _), (11, _), (13, _)]) ⟨rfl, rfl, rfl, rfl, rfl, rfl, rfl, rfl, trivial⟩
      refine then_n ?_
      refine wp_seq ?_
      refine wp_seq ?_
      refine wp_reg ?_
      refine s_q hs (c_move (hs.ev rfl)) rfl fun ac hs => ?_
      refine s_q hs (c_neqI (hs.ev rfl) (hs.ev rfl)) rfl fun ac hs => ?_
      refine s_end ?_
      replace hs := hs.sub (F' := [(4, _), (5, _), (6, _), (7, _), (8, _), (10, _), (11, _), (54, _)]) ⟨rfl, rfl, rfl, rfl, rfl, rfl, rfl, rfl, trivial⟩
      refine then_n ?_
      refine wp_cond_false (hs.ev rfl) ?_
      refine wp_skip ?_
      refine then_n ?_
      refine wp_seq ?_
      refine wp_region_rg pmix 13 (by kernel_rfl) rfl hs ?_
      simp only [List.take_succ_cons, List.take_zero]
      refine rg_call fu25 (fun ac ww h => .nil) (fun ww hf => law09_awake ww) rfl ?_
      refine rg_q (fun ac ww h => c_move (h.ev rfl)) rfl ?_
      refine rg_yes rfl rfl (fun ac ww h => c_loadW ty66 ag66 (h.ev rfl) (h.blk (hs.seg (i := 6) rfl)) (by simp [hsl])) rfl ?_
      refine rg_yes rfl rfl (fun ac ww h => c_loadW ty66 ag66 (h.ev rfl) (h.blk (hs.seg (i := 3) rfl)) (by simp [hsl])) rfl ?_
      refine rg_strip rfl rfl ?_
      refine rg_call fu29 (fun ac ww h => (.cons (h.ev rfl) (.cons (h.ev rfl) .nil))) (fun ww hf => ref09_SameCredY _ _ _ _ _ _ _ _ _ hsl hswl hspl ww (Rd.fr0 (Rd.of_row (hs.get (i := 5) rfl)) hf) (Rd.fr0 (Rd.of_row (hs.get (i := 4) rfl)) hf) (Rd.fr0 (Rd.of_row (hs.get (i := 5) rfl)) hf) (Rd.fr0 (Rd.of_row (hs.get (i := 4) rfl)) hf)) rfl ?_
      refine rg_yes rfl rfl (fun ac ww h => c_move (h.ev rfl)) rfl ?_
      refine rg_no rfl rfl rfl rfl ?_
      refine rg_no rfl rfl rfl rfl ?_
      refine rg_no rfl rfl rfl rfl ?_
      refine rg_no rfl rfl rfl rfl ?_
      refine rg_no rfl rfl rfl rfl ?_
      refine rg_no rfl rfl rfl rfl ?_
      refine rg_no rfl rfl rfl rfl ?_
      refine rg_nil fun ac ww L' hf hfe hs => ?_
      simp only [List.drop_succ_cons, List.drop_zero]
      obtain rfl : L' = [] := hfe
      replace hs := hs.toL (List.nil_append _)
      refine s_no hs rfl rfl rfl rfl fun ac hs => ?_
      refine s_no hs rfl rfl rfl rfl fun ac hs => ?_
      refine s_yes hs rfl rfl ?_
      refine s_q hs (c_pick (hs.ev rfl) (hs.ev rfl) (hs.ev rfl)) rfl fun ac hs => ?_
      refine s_q hs (c_pick (hs.ev rfl) (hs.ev rfl) (hs.ev rfl)) rfl fun ac hs => ?_
      refine s_q hs (c_assign (hs.ev rfl)) rfl fun ac hs => ?_
      refine s_end ?_
      replace hs := hs.sub (F' := [(10, _)]) ⟨rfl, trivial⟩
      refine then_n ?_
      refine wp_ret ?_
      refine s_ret hs rfl (.tmp (hs.tmp rfl) .nil) rfl ⟨_, rfl, hs.fr, ?_⟩
      rfl
    · skip
      subst hc
      refine wp_skip ?_
      refine then_n ?_
      refine wp_seq ?_
      refine wp_region_rgX (J := [17]) pmix 19 (by kernel_rfl) (by kernel_rfl) rfl rfl hs ?_
      simp only [List.take_succ_cons, List.take_zero]
      refine rg_q (fun ac ww h => c_loadW ty23 ag23 (h.ev rfl) (h.blk (hs.seg (i := 6) rfl)) (by rfl)) rfl ?_
      refine rg_call fu15 (fun ac ww h => (.cons (h.ev rfl) .nil)) (fun ww hf => law08_To p.W p.S p.H ww) rfl ?_
      refine rg_q (fun ac ww h => c_loadW ty23 ag23 (h.ev rfl) (h.blk (hs.seg (i := 6) rfl)) (by rfl)) rfl ?_
      refine rg_q (fun ac ww h => c_loadW ty24 rfl (h.ev rfl) (h.blk (hs.seg (i := 5) rfl)) (by rw [List.length_map, hsd])) rfl ?_
      refine rg_q (fun ac ww h => c_fld fl54_0 (h.ev rfl)) rfl ?_
      refine rg_q (fun ac ww h => c_loadS un3 rfl (h.ev rfl) (h.blk (hs.seg (i := 4) rfl)) rfl) rfl ?_
      refine rg_q (fun ac ww h => c_fld fl54_1 (h.ev rfl)) rfl ?_
      refine rg_q (fun ac ww h => c_fld fl52_0 (h.ev rfl)) rfl ?_
      refine rg_q (fun ac ww h => c_loadS un25 rfl (h.ev rfl) (h.blk (hs.seg (i := 4) rfl)) rfl) rfl ?_
      refine rg_call fu20 (fun ac ww h => (.cons (h.ev rfl) (.cons (h.ev rfl) (.cons (h.ev rfl) (.cons (h.ev rfl) .nil))))) (fun ww hf => ref08_Root p ho hlv ww) rfl ?_
      refine rg_q (fun ac ww h => c_loadW ty54 ag54 (h.ev rfl) (h.blk (hs.seg (i := 4) rfl)) (by rfl)) rfl ?_
      refine rg_call fu27 (fun ac ww h => (.cons (h.ev rfl) .nil)) (fun ww hf => law09_To p.d (m : Int) sn p.ep sq ww) rfl ?_
      refine rg_q (fun ac ww h => c_loadW ty66 ag66 (h.ev rfl) (h.blk (hs.seg (i := 3) rfl)) (by simp [hlf])) rfl ?_
      refine rg_callE (crE 36 lf nw ws np ps) (fun _ _ _ _ _ h => h) fu34 (fun ac ww h => ?_) rfl ?_
      · exact ⟨_, .cons (h.ev rfl) (.nil), law09_ToCred lf ws ps nw np _ _ hlf hwl hpl (by omega) (by omega) _ (hqw.fr0 (hs.fr.trans0 h.fr)) (hqp.fr0 (hs.fr.trans0 h.fr))⟩
      refine rg_callV (c := .tuple #[.agg ((ckR p.W p.S p.H p.d (m : Int) sn p.ep sq (hRt p) lf ws nw ps np).1.map Go.Fw.B).toArray, I (ckR p.W p.S p.H p.d (m : Int) sn p.ep sq (hRt p) lf ws nw ps np).2]) fu40 (fun ac ww h => ?_) rfl ?_
      · obtain ⟨u49, L49, he49, hee, hh49⟩ := h.ent (n := 49) rfl rfl
        obtain ⟨wv1, pv1, rfl, rfl⟩ := hee
        have h9 := proof_Check p.W p.S p.H p.d (m : Int) sn p.ep sq (hRt p) (lf) (ws) (ps) (nw) np wv1 pv1 hRt_length hlf hwl hpl ww (Rd.of_row (hh49.holds _ (List.mem_of_getElem? (i := 1) rfl))) (Rd.of_row (hh49.holds _ (List.mem_of_getElem? (i := 0) rfl)))
        exact ⟨_, .cons (h.ev rfl) (.cons (h.ev rfl) (.cons (h.ev rfl) (.cons he49 .nil))), h9⟩
      refine rg_q (fun ac ww h => c_move (h.ev rfl)) rfl ?_
      refine rg_q (fun ac ww h => c_extract (h.ev rfl) rfl) rfl ?_
      refine rg_q (fun ac ww h => c_extract (h.ev rfl) rfl) rfl ?_
      refine rg_alloc ty36 rfl ?_
      refine rg_nil fun ac ww L' hf hfe hs hlk => ?_
      simp only [List.drop_succ_cons, List.drop_zero]
      obtain ⟨v12, L12, M12, h12, e12, ⟨v49, L49, M49, h49, e49, rfl, rfl⟩, rfl⟩ := hfe
      replace hs := hs.add h12
      replace hs := hs.add h49
      obtain ⟨g12, rfl, rfl⟩ := e12
      obtain ⟨wv1, pv1, rfl, rfl⟩ := e49
      refine sk_storeW (i := 0) hs ty36 rfl rfl rfl (by rw [List.length_map, ckR_length hlf]) (all_map_B _) rfl (fun ww hs => late_turn rfl rfl (late_nil)) fun ww hs => ?_
      refine s_q hs (c_assign (hs.ev rfl)) rfl fun ac hs => ?_
      refine s_end ?_
      replace hs := hs.sub (F' := [(4, _), (5, _), (6, _), (7, _), (8, _), (10, _), (11, _), (13, _)]) ⟨rfl, rfl, rfl, rfl, rfl, rfl, rfl, rfl, trivial⟩
      refine then_n ?_
      refine wp_seq ?_
      refine wp_seq ?_
      refine wp_reg ?_
      by_cases hqq : lf = hLf p m sn sq ∧ ws = hWs p m sn sq ∧ ps = hPs p sq
      · refine s_q hs (c_move (hs.ev rfl)) rfl fun ac hs => ?_
        refine s_q hs (c_neqI (hs.ev rfl) (hs.ev rfl)) rfl fun ac hs => ?_
        refine s_end ?_
        replace hs := hs.sub (F' := [(4, _), (5, _), (6, _), (7, _), (8, _), (10, _), (11, _), (54, _)]) ⟨rfl, rfl, rfl, rfl, rfl, rfl, rfl, rfl, trivial⟩
        refine then_n ?_
        refine s_cond hs rfl (fun hc => ?_) (fun hc => ?_)
        · skip
          refine wp_seq ?_
          refine wp_reg ?_
          refine s_call hs fu25 .nil (law09_awake _) rfl fun ac ww v55 hf hp hs => ?_
          obtain rfl := hp
          replace hs := hs [] (.nil _ _)
          refine s_q hs (c_move (hs.ev rfl)) rfl fun ac hs => ?_
          refine s_yes hs rfl rfl ?_
          refine s_q hs (c_move (hs.ev rfl)) rfl fun ac hs => ?_
          refine s_yes hs rfl rfl ?_
          refine s_q hs (c_not (hs.ev rfl)) rfl fun ac hs => ?_
          refine s_q hs (c_pick (hs.ev rfl) (hs.ev rfl) (hs.ev rfl)) rfl fun ac hs => ?_
          refine s_q hs (c_assign (hs.ev rfl)) rfl fun ac hs => ?_
          refine s_end ?_
          replace hs := hs.sub (F' := [(5, _), (6, _), (7, _), (8, _), (10, _), (11, _)]) ⟨rfl, rfl, rfl, rfl, rfl, rfl, trivial⟩
          refine then_n ?_
          refine wp_ret ?_
          refine then_r ?_
          refine s_ret hs rfl (.tmp (hs.tmp rfl) .nil) rfl ⟨_, rfl, hs.fr, ?_⟩
          rfl
        · skip
          refine wp_skip ?_
          refine then_n ?_
          refine wp_seq ?_
          refine wp_region_rg pmix 13 (by kernel_rfl) rfl hs ?_
          simp only [List.take_succ_cons, List.take_zero]
          refine rg_call fu25 (fun ac ww h => .nil) (fun ww hf => law09_awake ww) rfl ?_
          refine rg_q (fun ac ww h => c_move (h.ev rfl)) rfl ?_
          refine rg_yes rfl rfl (fun ac ww h => c_loadW ty66 ag66 (h.ev rfl) (h.blk (hs.seg (i := 6) rfl)) (by simp [hlf])) rfl ?_
          refine rg_yes rfl rfl (fun ac ww h => c_loadW ty66 ag66 (h.ev rfl) (h.blk (hs.seg (i := 3) rfl)) (by simp [hsl])) rfl ?_
          refine rg_strip rfl rfl ?_
          refine rg_call fu29 (fun ac ww h => (.cons (h.ev rfl) (.cons (h.ev rfl) .nil))) (fun ww hf => (by have h9 := ref09_SameCred lf ws ps (hLf p m sn sq) (hWs p m sn sq) (hPs p sq) nw np (shN (m : Int) p.W sn) p.H _ _ _ _ hlf hsl hwl hpl hswl hspl ww (hqw.fr0 (hs.fr.trans0 hf)) (hqp.fr0 (hs.fr.trans0 hf)) (Rd.fr0 (Rd.of_row (hs.get (i := 5) rfl)) hf) (Rd.fr0 (Rd.of_row (hs.get (i := 4) rfl)) hf); rw [decide_eq_true hqq.1, decide_eq_true hqq.2.1, decide_eq_true hqq.2.2] at h9; exact h9)) rfl ?_
          refine rg_yes rfl rfl (fun ac ww h => c_move (h.ev rfl)) rfl ?_
          refine rg_no rfl rfl rfl rfl ?_
          refine rg_no rfl rfl rfl rfl ?_
          refine rg_no rfl rfl rfl rfl ?_
          refine rg_no rfl rfl rfl rfl ?_
          refine rg_no rfl rfl rfl rfl ?_
          refine rg_no rfl rfl rfl rfl ?_
          refine rg_no rfl rfl rfl rfl ?_
          refine rg_nil fun ac ww L' hf hfe hs => ?_
          simp only [List.drop_succ_cons, List.drop_zero]
          obtain rfl : L' = [] := hfe
          replace hs := hs.toL (List.nil_append _)
          refine s_no hs rfl rfl rfl rfl fun ac hs => ?_
          refine s_no hs rfl rfl rfl rfl fun ac hs => ?_
          refine s_yes hs rfl rfl ?_
          refine s_q hs (c_pick (hs.ev rfl) (hs.ev rfl) (hs.ev rfl)) rfl fun ac hs => ?_
          refine s_q hs (c_pick (hs.ev rfl) (hs.ev rfl) (hs.ev rfl)) rfl fun ac hs => ?_
          refine s_q hs (c_assign (hs.ev rfl)) rfl fun ac hs => ?_
          refine s_end ?_
          replace hs := hs.sub (F' := [(10, _)]) ⟨rfl, trivial⟩
          refine then_n ?_
          refine wp_ret ?_
          refine s_ret hs rfl (.tmp (hs.tmp rfl) .nil) rfl ⟨_, rfl, hs.fr, ?_⟩
          rfl
      · refine s_q hs (c_move (hs.ev rfl)) rfl fun ac hs => ?_
        refine s_q hs (c_neqI (hs.ev rfl) (hs.ev rfl)) rfl fun ac hs => ?_
        refine s_end ?_
        replace hs := hs.sub (F' := [(4, _), (5, _), (6, _), (7, _), (8, _), (10, _), (11, _), (54, _)]) ⟨rfl, rfl, rfl, rfl, rfl, rfl, rfl, rfl, trivial⟩
        refine then_n ?_
        refine s_cond hs rfl (fun hc => ?_) (fun hc => ?_)
        · skip
          refine wp_seq ?_
          refine wp_reg ?_
          refine s_call hs fu25 .nil (law09_awake _) rfl fun ac ww v55 hf hp hs => ?_
          obtain rfl := hp
          replace hs := hs [] (.nil _ _)
          refine s_q hs (c_move (hs.ev rfl)) rfl fun ac hs => ?_
          refine s_yes hs rfl rfl ?_
          refine s_q hs (c_move (hs.ev rfl)) rfl fun ac hs => ?_
          refine s_yes hs rfl rfl ?_
          refine s_q hs (c_not (hs.ev rfl)) rfl fun ac hs => ?_
          refine s_q hs (c_pick (hs.ev rfl) (hs.ev rfl) (hs.ev rfl)) rfl fun ac hs => ?_
          refine s_q hs (c_assign (hs.ev rfl)) rfl fun ac hs => ?_
          refine s_end ?_
          replace hs := hs.sub (F' := [(5, _), (6, _), (7, _), (8, _), (10, _), (11, _)]) ⟨rfl, rfl, rfl, rfl, rfl, rfl, trivial⟩
          refine then_n ?_
          refine wp_ret ?_
          refine then_r ?_
          refine s_ret hs rfl (.tmp (hs.tmp rfl) .nil) rfl ⟨_, rfl, hs.fr, ?_⟩
          rfl
        · skip
          have hck0 : (ckR p.W p.S p.H p.d (m : Int) sn p.ep sq (hRt p) lf ws nw ps np).2 = 0 := by simpa using hc
          have hclash : clash (txs p m sq) (cks p m sn sq lf ws nw ps np) = true := by
            rw [← Bool.not_eq_false]
            intro h9
            exact hqq (sound_shown ho hcr hlf hwl hpl hck0 h9)
          have hqf : (decide (lf = hLf p m sn sq) && decide (ws = hWs p m sn sq) && decide (ps = hPs p sq)) = false := by
            rw [← Bool.not_eq_true]
            intro h9
            simp only [Bool.and_eq_true, decide_eq_true_eq] at h9
            exact hqq ⟨h9.1.1, h9.1.2, h9.2⟩
          refine wp_skip ?_
          refine then_n ?_
          refine wp_seq ?_
          refine wp_region_rg pmix 13 (by kernel_rfl) rfl hs ?_
          simp only [List.take_succ_cons, List.take_zero]
          refine rg_call fu25 (fun ac ww h => .nil) (fun ww hf => law09_awake ww) rfl ?_
          refine rg_q (fun ac ww h => c_move (h.ev rfl)) rfl ?_
          refine rg_yes rfl rfl (fun ac ww h => c_loadW ty66 ag66 (h.ev rfl) (h.blk (hs.seg (i := 6) rfl)) (by simp [hlf])) rfl ?_
          refine rg_yes rfl rfl (fun ac ww h => c_loadW ty66 ag66 (h.ev rfl) (h.blk (hs.seg (i := 3) rfl)) (by simp [hsl])) rfl ?_
          refine rg_strip rfl rfl ?_
          refine rg_call fu29 (fun ac ww h => (.cons (h.ev rfl) (.cons (h.ev rfl) .nil))) (fun ww hf => (by have h9 := ref09_SameCred lf ws ps (hLf p m sn sq) (hWs p m sn sq) (hPs p sq) nw np (shN (m : Int) p.W sn) p.H _ _ _ _ hlf hsl hwl hpl hswl hspl ww (hqw.fr0 (hs.fr.trans0 hf)) (hqp.fr0 (hs.fr.trans0 hf)) (Rd.fr0 (Rd.of_row (hs.get (i := 5) rfl)) hf) (Rd.fr0 (Rd.of_row (hs.get (i := 4) rfl)) hf); rw [hqf] at h9; exact h9)) rfl ?_
          refine rg_yes rfl rfl (fun ac ww h => c_move (h.ev rfl)) rfl ?_
          refine rg_yes rfl rfl (fun ac ww h => c_loadW ty23 ag23 (h.ev rfl) (h.blk (hs.seg (i := 9) rfl)) (by rfl)) rfl ?_
          refine rg_yes rfl rfl (fun ac ww h => c_loadW ty24 rfl (h.ev rfl) (h.blk (hs.seg (i := 8) rfl)) (by rw [List.length_map, hsd])) rfl ?_
          refine rg_yes rfl rfl (fun ac ww h => c_loadW ty54 ag54 (h.ev rfl) (h.blk (hs.seg (i := 7) rfl)) (by rfl)) rfl ?_
          refine rg_strip rfl rfl ?_
          refine rg_callE (textsE 177 5 (txs p m sq)) (fun _ _ _ _ _ h => h) fu42 (fun ac ww h => ?_) rfl ?_
          · exact ⟨_, .cons (h.ev rfl) (.cons (h.ev rfl) (.cons (h.ev rfl) (.nil))), ref09_Texts p ho m sn sq hcr _⟩
          refine rg_yes rfl rfl (fun ac ww h => c_loadW ty23 ag23 (h.ev rfl) (h.blk (hs.seg (i := 9) rfl)) (by rfl)) rfl ?_
          refine rg_yes rfl rfl (fun ac ww h => c_loadW ty54 ag54 (h.ev rfl) (h.blk (hs.seg (i := 7) rfl)) (by rfl)) rfl ?_
          refine rg_yes rfl rfl (fun ac ww h => c_loadW ty66 ag66 (h.ev rfl) (h.blk (hs.seg (i := 6) rfl)) (by simp [hlf])) rfl ?_
          refine rg_nil fun ac ww L' hf hfe hs => ?_
          simp only [List.drop_succ_cons, List.drop_zero]
          obtain ⟨v69, L69, M69, h69, e69, rfl, rfl⟩ := hfe
          replace hs := hs.add h69
          obtain ⟨ps1, hps1, rfl⟩ := e69
          refine s_yes hs rfl rfl ?_
          refine s_call hs fu43 (.cons (hs.ev rfl) (.cons (hs.ev rfl) (.cons (hs.ev rfl) .nil))) (ref09_Checked p ho m sn sq lf ws ps nw np _ _ hcr hlf hwl hpl (by omega) (by omega) _ (hqw.fr0 hs.fr) (hqp.fr0 hs.fr)) rfl fun ac ww v73 hf hp hs => ?_
          obtain ⟨L', ⟨ps2, hps2, rfl⟩, hh⟩ := hp
          replace hs := hs _ hh
          refine s_yes hs rfl rfl ?_
          refine s_call hs fu41 (.cons (hs.ev rfl) (.cons (hs.ev rfl) .nil)) ((by have h9 := ref06_Clash ps1 ps2 _ _ (good_of hps1 (by have := txs_le ho hlv3 m sq; omega) (txs_good p m sq)) (good_of hps2 (by have := cks_le (m := m) (sn := sn) (sq := sq) (lf := lf) (ws := ws) (ps := ps) (nw := nw) (np := np) ho hlv3; omega) (cks_good hlf hwl)) _ (RdP.texts (hs.get (i := 1) rfl)) (RdP.texts (hs.get (i := 0) rfl)); rw [hps1, hps2, hclash] at h9; exact h9)) rfl fun ac ww v74 hf hp hs => ?_
          obtain rfl := hp
          replace hs := hs [] (.nil _ _)
          refine s_yes hs rfl rfl ?_
          refine s_q hs (c_pick (hs.ev rfl) (hs.ev rfl) (hs.ev rfl)) rfl fun ac hs => ?_
          refine s_q hs (c_pick (hs.ev rfl) (hs.ev rfl) (hs.ev rfl)) rfl fun ac hs => ?_
          refine s_q hs (c_assign (hs.ev rfl)) rfl fun ac hs => ?_
          refine s_end ?_
          replace hs := hs.sub (F' := [(10, _)]) ⟨rfl, trivial⟩
          refine then_n ?_
          refine wp_ret ?_
          refine s_ret hs rfl (.tmp (hs.tmp rfl) .nil) rfl ⟨_, rfl, hs.fr, ?_⟩
          rfl
end Go.Proofs.YtklajbdbnnceiaaGreat
end
