/- Own texts of this seat, laid together for one claim (with what its proof uses alone). -/
import Derived.Test.YtklajbdbnnceiaaGreatPzIssuesKd
section
/- Springs as the document has them. -/
set_option linter.unusedSimpArgs false
set_option linter.unusedVariables false
set_option maxRecDepth 100000
namespace Go.Proofs.YtklajbdbnnceiaaGreat
open Go Go.Fw
open Sha
theorem climb_el0 {p : Spr} (hlv : 0 ≤ levels p.W) (q n : Nat) (hn : n ≤ 16) : climbB p.d p.ep (i32 (q : Int)) (elE p q) 0 (n : Int) p.W = el p q n := by
  rw [climbB, if_pos (climbOk_iff.2 ⟨by omega, by omega, by omega, hlv⟩), el]
  congr 1
theorem ref06_ClimbEl {p : Spr} (hlv : 0 ≤ levels p.W) (q n : Nat) (hn : n ≤ 16) (w : World) : Ctr Tryz.prog 71 [.agg #[I p.d, U p.ep, U (i32 (q : Int))], .agg ((elE p q).map B).toArray, I 0, I n, I p.W] w (fun _ => False) fun v _ => v = .tuple #[.agg ((el p q n).map B).toArray, I (climbE 0 n p.W)] := by
  have h9 := ref06_Climb p.d p.ep (i32 (q : Int)) (elE p q) 0 (n : Int) p.W (elE_length p q) (by omega) (by omega) w
  rw [climb_el0 hlv q n hn] at h9
  exact h9
set_option maxHeartbeats 4000000 in
theorem ref08_Element (p : Spr) (ho : p.Ok) (hlv : 0 ≤ levels p.W) (q n : Nat) (hn : n ≤ 16) (w : World)  : Ctr Tryz.prog 21 [.agg #[I p.W, I p.S, I p.H], .agg (p.seed.map B).toArray, I p.d, U p.ep, I q, I n] w (fun _ => False) (fun v _ => v = .agg ((el p q n).map B).toArray) := by
  refine fn_start (N := 41) Tryz.func21 rfl rfl rfl fun ac hk => ?_
  have hs := St.start hk w
  refine wp_seq ?_
  refine wp_reg ?_
  refine s_box hs rfl rfl rfl fun ac ww g6 hs => ?_
  refine s_box hs rfl rfl rfl fun ac ww g7 hs => ?_
  refine s_alloc hs ty35 rfl fun ac ww g12 hs => ?_
  refine s_end ?_
  replace hs := hs.sub (F' := [(2, _), (3, _), (4, _), (5, _), (6, _), (7, _), (12, _)]) ⟨rfl, rfl, rfl, rfl, rfl, rfl, rfl, trivial⟩
  refine then_n ?_
  refine wp_seq ?_
  refine wp_reg ?_
  refine s_q hs (c_loadW ty24 rfl (hs.ev rfl) (hs.seg (i := 1) rfl) (by rw [List.length_map, ho.seed])) rfl fun ac hs => ?_
  refine s_q hs (c_move (hs.ev rfl)) rfl fun ac hs => ?_
  refine s_q hs (c_cvIV un3 un124 (hs.ev rfl)) rfl fun ac hs => ?_
  refine s_q hs (c_move (hs.ev rfl)) rfl fun ac hs => ?_
  refine s_q hs (c_cvUV un25 un124 (hs.ev rfl)) rfl fun ac hs => ?_
  refine s_q hs (c_move (hs.ev rfl)) rfl fun ac hs => ?_
  refine s_q hs (c_cvIV un3 un124 (hs.ev rfl)) rfl fun ac hs => ?_
  refine s_bslice hs un155 ty124 (.cons (hs.ev rfl) (.cons (hs.ev rfl) (.cons (hs.ev rfl) .nil))) rfl (by simp [Value.cells]) (by decide) rfl rfl fun ac ww g24 hs => ?_
  refine s_call hs fu70 (.cons (hs.ev rfl) (.cons (hs.ev rfl) (.cons (hs.ev rfl) .nil))) (ref05_Prf p.seed 69 [i64 p.d, p.ep.toUInt64, i64 (q : Int)] _ ho.seed (by show 3 ≤ 17592186044000; decide) _ (RdV.seg (l := [i64 p.d, p.ep.toUInt64, i64 (q : Int)]) (hs.seg (i := 0) rfl) (by show 3 ≤ maxLen; decide))) rfl fun ac ww v25 hf hp hs => ?_
  obtain rfl := hp
  replace hs := hs [] (.nil _ _)
  refine s_alloc hs ty35 rfl fun ac ww g13 hs => ?_
  refine s_storeW (i := 0) hs ty35 rfl rfl rfl (by rw [List.length_map]; exact elE_length p q) (all_map_B _) rfl fun ww hs => ?_
  refine s_end ?_
  replace hs := hs.sub (F' := [(2, _), (3, _), (4, _), (5, _), (6, _), (12, _), (13, _)]) ⟨rfl, rfl, rfl, rfl, rfl, rfl, rfl, trivial⟩
  refine then_n ?_
  refine wp_seq ?_
  refine wp_reg ?_
  refine s_q hs (c_move (hs.ev rfl)) rfl fun ac hs => ?_
  refine s_q hs (c_move (hs.ev rfl)) rfl fun ac hs => ?_
  refine s_q hs (c_move (hs.ev rfl)) rfl fun ac hs => ?_
  refine s_q hs (c_cvIU un3 un25 (hs.ev rfl)) rfl fun ac hs => ?_
  refine s_q hs (c_buildS ty157 bp157 (.cons (hs.ev rfl) (.cons (hs.ev rfl) (.cons (hs.ev rfl) .nil))) ⟨rfl, rfl, rfl, trivial⟩ (by simp [flatCells, Value.cells]) rfl) rfl fun ac hs => ?_
  refine s_alloc hs ty157 rfl fun ac ww g14 hs => ?_
  refine s_storeW (i := 0) hs ty157 rfl rfl rfl (by rfl) (by rfl) (by simp) fun ww hs => ?_
  refine s_end ?_
  replace hs := hs.sub (F' := [(5, _), (6, _), (12, _), (13, _), (14, _)]) ⟨rfl, rfl, rfl, rfl, rfl, trivial⟩
  refine then_n ?_
  refine wp_seq ?_
  refine wp_reg ?_
  refine s_q hs (c_loadW ty157 ag157 (hs.ev rfl) (hs.seg (i := 0) rfl) (by rfl)) rfl fun ac hs => ?_
  refine s_q hs (c_loadW ty35 rfl (hs.ev rfl) (hs.seg (i := 1) rfl) (by rw [List.length_map]; exact elE_length p q)) rfl fun ac hs => ?_
  refine s_q hs (c_move (hs.ev rfl)) rfl fun ac hs => ?_
  refine s_q hs (c_fld fl23_0 (hs.ev rfl)) rfl fun ac hs => ?_
  refine s_q hs (c_loadS un3 rfl (hs.ev rfl) (hs.seg (i := 5) rfl) rfl) rfl fun ac hs => ?_
  refine s_call hs fu71 (.cons (hs.ev rfl) (.cons (hs.ev rfl) (.cons (hs.ev rfl) (.cons (hs.ev rfl) (.cons (hs.ev rfl) .nil))))) (ref06_ClimbEl hlv q n hn _) rfl fun ac ww v37 hf hp hs => ?_
  obtain rfl := hp
  replace hs := hs [] (.nil _ _)
  refine s_q hs (c_move (hs.ev rfl)) rfl fun ac hs => ?_
  refine s_q hs (c_extract (hs.ev rfl) rfl) rfl fun ac hs => ?_
  refine s_q hs (c_extract (hs.ev rfl) rfl) rfl fun ac hs => ?_
  refine s_alloc hs ty35 rfl fun ac ww g15 hs => ?_
  refine s_storeW (i := 0) hs ty35 rfl rfl rfl (by rw [List.length_map, el_length]) (all_map_B _) rfl fun ww hs => ?_
  refine s_q hs (c_assign (hs.ev rfl)) rfl fun ac hs => ?_
  refine s_end ?_
  replace hs := hs.sub (F' := [(12, _), (15, _)]) ⟨rfl, rfl, trivial⟩
  refine then_n ?_
  refine wp_seq ?_
  refine wp_reg ?_
  refine s_q hs (c_loadW ty35 rfl (hs.ev rfl) (hs.seg (i := 0) rfl) (by rw [List.length_map, el_length])) rfl fun ac hs => ?_
  refine s_storeW (i := 4) hs ty35 rfl rfl rfl (by rw [List.length_map, el_length]) (all_map_B _) rfl fun ww hs => ?_
  refine s_end ?_
  replace hs := hs.sub (F' := [(12, _)]) ⟨rfl, trivial⟩
  refine then_n ?_
  refine wp_ret ?_
  refine s_ret hs rfl (.cell (hs.tmp rfl) (run_loadA ty35 rfl (hs.seg (i := 4) rfl) (List.take_of_length_le (show (List.map B (el p q n)).length ≤ 16 by rw [List.length_map, el_length]; exact Nat.le_refl _)) (show (List.map B (el p q n)).length = 16 by rw [List.length_map, el_length])) .nil) rfl ⟨_, rfl, hs.fr, ?_⟩
  rfl
set_option maxHeartbeats 4000000 in
theorem ref08_Ends (p : Spr) (ho : p.Ok) (hlv : 0 ≤ levels p.W) (w : World)  : Ctr Tryz.prog 69 [.agg #[I p.W, I p.S, I p.H], .agg (p.seed.map B).toArray, I p.d, U p.ep] w (fun _ => False) (outE (rowS' p.m (ends p p.m)) w) := by
  refine fn_start (N := 29) Tryz.func69 rfl rfl rfl fun ac hk => ?_
  have hs := St.start hk w
  refine wp_seq ?_
  refine wp_reg ?_
  refine s_box hs rfl rfl rfl fun ac ww g4 hs => ?_
  refine s_box hs rfl rfl rfl fun ac ww g5 hs => ?_
  refine s_q hs (c_assign (hs.ev rfl)) rfl fun ac hs => ?_
  refine s_end ?_
  replace hs := hs.sub (F' := [(2, _), (3, _), (4, _), (5, _), (8, _)]) ⟨rfl, rfl, rfl, rfl, rfl, trivial⟩
  refine then_n ?_
  refine wp_seq ?_
  refine wp_reg ?_
  refine s_q hs (c_assign (hs.ev rfl)) rfl fun ac hs => ?_
  refine s_end ?_
  replace hs := hs.nilrow 35 16
  refine then_n ?_
  refine wp_seq ?_
  refine wp_seq ?_
  refine wp_reg ?_
  refine s_q hs (c_assign (hs.ev rfl)) rfl fun ac hs => ?_
  refine s_end ?_
  refine then_n ?_
  refine wp_block ?_
  refine s_loop hs (X := Nat × Value) (fun x => [(9, x.2), (10, I x.1)]) [(2, _), (3, _), (4, _), (5, _), (8, _)] (fun x => [.row x.2 x.1 ((ends p x.1).map B) 35 16, _, _]) (fun m x => x.1 ≤ p.m ∧ m = p.m - x.1) (_) ((0, _)) (⟨Nat.zero_le _, rfl⟩) ⟨rfl, rfl, rfl, rfl, rfl, rfl, rfl, trivial⟩ rfl ?_
  rintro n ⟨k, v⟩ ac ww hok hs
  simp only [List.cons_append, List.nil_append] at hs
  obtain ⟨hk, rfl⟩ := hok
  simp only at hk hs
  have hm64 := ho.m64
  have hs16 := ho.s16
  have hcl := ends_length p k
  refine wp_seq ?_
  refine wp_seq ?_
  refine wp_reg ?_
  refine s_q hs (c_move (hs.ev rfl)) rfl fun ac hs => ?_
  refine s_q hs (c_loadW ty23 ag23 (hs.ev rfl) (hs.seg (i := 2) rfl) (by rfl)) rfl fun ac hs => ?_
  refine s_call hs fu18 (.cons (hs.ev rfl) .nil) (ref08_Many p.W p.S p.H ho.h6 _) rfl fun ac ww v13 hf hp hs => ?_
  obtain rfl := hp
  replace hs := hs [] (.nil _ _)
  refine s_q hs (c_lssI (hs.ev rfl) (hs.ev rfl)) rfl fun ac hs => ?_
  refine s_end ?_
  refine then_n ?_
  refine s_cond hs rfl (fun hc => ?_) (fun hc => ?_)
  · try simp only [decide_eq_true_eq, decide_eq_false_iff_not, Bool.not_eq_true', Bool.not_eq_false', Bool.and_eq_true, Bool.or_eq_true, Bool.or_eq_false_iff] at hc
    have hkn : k < p.m := by unfold Spr.m; omega
    refine wp_skip ?_
    refine then_n ?_
    refine wp_seq ?_
    refine wp_block ?_
    refine wp_reg ?_
    refine s_q hs (c_move (hs.ev rfl)) rfl fun ac hs => ?_
    refine s_q hs (c_loadW ty23 ag23 (hs.ev rfl) (hs.seg (i := 2) rfl) (by rfl)) rfl fun ac hs => ?_
    refine s_q hs (c_loadW ty24 rfl (hs.ev rfl) (hs.seg (i := 1) rfl) (by rw [List.length_map, ho.seed])) rfl fun ac hs => ?_
    refine s_q hs (c_move (hs.ev rfl)) rfl fun ac hs => ?_
    refine s_q hs (c_move (hs.ev rfl)) rfl fun ac hs => ?_
    refine s_q hs (c_move (hs.ev rfl)) rfl fun ac hs => ?_
    refine s_q hs (c_fld fl23_1 (hs.ev rfl)) rfl fun ac hs => ?_
    refine s_q hs (c_loadS un3 rfl (hs.ev rfl) (hs.seg (i := 2) rfl) rfl) rfl fun ac hs => ?_
    refine s_call hs fu21 (.cons (hs.ev rfl) (.cons (hs.ev rfl) (.cons (hs.ev rfl) (.cons (hs.ev rfl) (.cons (hs.ev rfl) (.cons (hs.ev rfl) .nil)))))) (ref08_Element p ho hlv k p.S hs16 _) rfl fun ac ww v25 hf hp hs => ?_
    obtain rfl := hp
    replace hs := hs [] (.nil _ _)
    refine s_bslice hs un47 ty35 (.cons (hs.ev rfl) .nil) rfl (by intro v hv; simp only [List.mem_singleton] at hv; subst hv; simp [Value.cells, el_length]) (by decide) (show _ = (el p k p.S).map B by simp [flatCells, Value.cells]) rfl fun ac ww g26 hs => ?_
    refine s_append (i := 1) hs un47 ty35 (by decide) rfl rfl rfl (Rd.of_seg (n := 1) (hs.seg (i := 0) rfl) (Nat.le_refl _) (by decide) (List.take_of_length_le (by simp))) (by rw [List.length_map, el_length]) (all_map_B _) (by unfold maxLen; omega) (by omega) rfl fun ac ww v27 hf hnil hs => ?_
    refine s_q hs (c_assign (hs.ev rfl)) rfl fun ac hs => ?_
    refine s_end ?_
    refine blk_n ?_
    refine then_n ?_
    refine wp_reg ?_
    refine s_q hs (c_move (hs.ev rfl)) rfl fun ac hs => ?_
    refine s_q hs (c_addI (hs.ev rfl) (hs.ev rfl) (by omega) (by omega)) rfl fun ac hs => ?_
    refine s_q hs (c_assign (hs.ev rfl)) rfl fun ac hs => ?_
    refine s_end ?_
    refine then_n ?_
    replace hs := hs.pick (L' := [_, _, _]) (.cons _ (.refl _))
    exact ⟨p.m - (k + 1), by (try simp only); omega, (k + 1, _), ⟨by (try simp only); omega, rfl⟩, St.next hs ⟨rfl, rfl, rfl, rfl, rfl, rfl, rfl, trivial⟩ (by rw [ends_succ, List.map_append]; try rfl)⟩
  · try simp only [decide_eq_true_eq, decide_eq_false_iff_not, Bool.not_eq_true', Bool.not_eq_false', Bool.and_eq_true, Bool.or_eq_true, Bool.or_eq_false_iff] at hc
    have hmm : p.m = 2 ^ p.H := rfl
    obtain rfl : k = p.m := by omega
    refine wp_exit ?_
    refine then_e ?_
    refine then_e ?_
    refine blk_hit ?_
    refine then_n ?_
    refine wp_seq ?_
    refine wp_reg ?_
    refine s_q hs (c_move (hs.ev rfl)) rfl fun ac hs => ?_
    refine s_q hs (c_assign (hs.ev rfl)) rfl fun ac hs => ?_
    refine s_end ?_
    replace hs := hs.sub (F' := [(8, _)]) ⟨rfl, trivial⟩
    refine then_n ?_
    refine wp_ret ?_
    refine s_ret hs rfl (.tmp (hs.tmp rfl) .nil) rfl ⟨_, rfl, hs.fr, ?_⟩
    exact ⟨_, rfl, (hs.pick (L' := [_]) (.cons_cons _ (List.nil_sublist _))).made⟩
theorem height_m {p : Spr} (ho : p.Ok) : height (p.m : Int) = p.H := by
  have := height_pow p.H (by have := ho.h6; omega)
  rw [← this]
  unfold Spr.m
  push_cast
  rfl
set_option maxHeartbeats 4000000 in
theorem ref08_Path (p : Spr) (ho : p.Ok) (hlv : 0 ≤ levels p.W) (q : Nat) (hq : q < p.m) (w : World)  : Ctr Tryz.prog 24 [.agg #[I p.W, I p.S, I p.H], .agg (p.seed.map B).toArray, I p.d, U p.ep, I q] w (fun _ => False) (outE (rowS' p.H (gPath p.d p.ep (ends p p.m) q p.H)) w) := by
  refine fn_start (N := 20) Tryz.func24 rfl rfl rfl fun ac hk => ?_
  have hs := St.start hk w
  refine wp_seq ?_
  refine wp_reg ?_
  refine s_box hs rfl rfl rfl fun ac ww g5 hs => ?_
  refine s_box hs rfl rfl rfl fun ac ww g6 hs => ?_
  refine s_q hs (c_assign (hs.ev rfl)) rfl fun ac hs => ?_
  refine s_end ?_
  replace hs := hs.sub (F' := [(2, _), (3, _), (4, _), (5, _), (6, _), (10, _)]) ⟨rfl, rfl, rfl, rfl, rfl, rfl, trivial⟩
  refine then_n ?_
  refine wp_seq ?_
  refine wp_reg ?_
  refine s_q hs (c_move (hs.ev rfl)) rfl fun ac hs => ?_
  refine s_q hs (c_move (hs.ev rfl)) rfl fun ac hs => ?_
  refine s_q hs (c_loadW ty23 ag23 (hs.ev rfl) (hs.seg (i := 1) rfl) (by rfl)) rfl fun ac hs => ?_
  refine s_q hs (c_loadW ty24 rfl (hs.ev rfl) (hs.seg (i := 0) rfl) (by rw [List.length_map, ho.seed])) rfl fun ac hs => ?_
  refine s_q hs (c_move (hs.ev rfl)) rfl fun ac hs => ?_
  refine s_q hs (c_move (hs.ev rfl)) rfl fun ac hs => ?_
  refine s_call hs fu69 (.cons (hs.ev rfl) (.cons (hs.ev rfl) (.cons (hs.ev rfl) (.cons (hs.ev rfl) .nil)))) (ref08_Ends p ho hlv _) rfl fun ac ww v17 hf hp hs => ?_
  obtain ⟨L', rfl, hh⟩ := hp
  replace hs := hs _ hh
  refine s_q hs (c_move (hs.ev rfl)) rfl fun ac hs => ?_
  refine s_call hs fu72 (.cons (hs.ev rfl) (.cons (hs.ev rfl) (.cons (hs.ev rfl) (.cons (hs.ev rfl) .nil)))) (ref07_Path p.d p.ep (ends p p.m) p.m p.H q _ (ends_len p) ho.h6 rfl (height_m ho) hq _ (Rd.of_row (hs.get (i := 0) rfl))) rfl fun ac ww v19 hf hp hs => ?_
  obtain ⟨L', rfl, hh⟩ := hp
  replace hs := hs _ hh
  refine s_q hs (c_assign (hs.ev rfl)) rfl fun ac hs => ?_
  refine s_end ?_
  replace hs := hs.sub (F' := [(10, _)]) ⟨rfl, trivial⟩
  refine then_n ?_
  refine wp_ret ?_
  refine s_ret hs rfl (.tmp (hs.tmp rfl) .nil) rfl ⟨_, rfl, hs.fr, ?_⟩
  exact ⟨_, rfl, (hs.pick (L' := [_]) (.cons_cons _ (List.nil_sublist _))).made⟩
end Go.Proofs.YtklajbdbnnceiaaGreat
end

section
/- Credentials as the document has them. -/
set_option linter.unusedSimpArgs false
set_option linter.unusedVariables false
set_option maxRecDepth 100000
namespace Go.Proofs.YtklajbdbnnceiaaGreat
open Go Go.Fw
open Sha
/-- A credential in memory of its own. -/
def crE (T : TypeId) (lf : List UInt8) (nw : Nat) (ws : List UInt8) (np : Nat) (ps : List UInt8) : Value → List Ent → World → Prop := fun v L _ =>
  ∃ wv pv, v = credV lf wv pv ∧ L = [.row pv np (ps.map B) T 16, .row wv nw (ws.map B) T 16]
set_option maxHeartbeats 4000000 in
theorem ref09_Place (d mt sn : Int) (ep sq : UInt32) (w : World)  : Ctr Tryz.prog 80 [.agg #[I d, U ep, U sq, I mt, I sn]] w (fun _ => False) (fun v _ => v = .agg #[I d, U ep, U sq]) := by
  refine fn_start (N := 12) Tryz.func80 rfl rfl rfl fun ac hk => ?_
  have hs := St.start hk w
  refine wp_seq ?_
  refine wp_reg ?_
  refine s_box hs rfl rfl rfl fun ac ww g1 hs => ?_
  refine s_alloc hs ty157 rfl fun ac ww g2 hs => ?_
  refine s_end ?_
  replace hs := hs.sub (F' := [(1, _), (2, _)]) ⟨rfl, rfl, trivial⟩
  refine then_n ?_
  refine wp_seq ?_
  refine wp_reg ?_
  refine s_q hs (c_fld fl54_0 (hs.ev rfl)) rfl fun ac hs => ?_
  refine s_q hs (c_loadS un3 rfl (hs.ev rfl) (hs.seg (i := 1) rfl) rfl) rfl fun ac hs => ?_
  refine s_q hs (c_fld fl54_1 (hs.ev rfl)) rfl fun ac hs => ?_
  refine s_q hs (c_fld fl52_0 (hs.ev rfl)) rfl fun ac hs => ?_
  refine s_q hs (c_loadS un25 rfl (hs.ev rfl) (hs.seg (i := 1) rfl) rfl) rfl fun ac hs => ?_
  refine s_q hs (c_fld fl54_1 (hs.ev rfl)) rfl fun ac hs => ?_
  refine s_q hs (c_fld fl52_1 (hs.ev rfl)) rfl fun ac hs => ?_
  refine s_q hs (c_loadS un25 rfl (hs.ev rfl) (hs.seg (i := 1) rfl) rfl) rfl fun ac hs => ?_
  refine s_q hs (c_buildS ty157 bp157 (.cons (hs.ev rfl) (.cons (hs.ev rfl) (.cons (hs.ev rfl) .nil))) ⟨rfl, rfl, rfl, trivial⟩ (by simp [flatCells, Value.cells]) rfl) rfl fun ac hs => ?_
  refine s_storeW (i := 0) hs ty157 rfl rfl rfl (by rfl) (by rfl) (by simp) fun ww hs => ?_
  refine s_end ?_
  replace hs := hs.sub (F' := [(2, _)]) ⟨rfl, trivial⟩
  refine then_n ?_
  refine wp_ret ?_
  refine s_ret hs rfl (.cell (hs.tmp rfl) (run_loadA ty157 ag157 (hs.seg (i := 0) rfl) rfl (by rfl)) .nil) rfl ⟨_, rfl, hs.fr, ?_⟩
  rfl
set_option maxHeartbeats 4000000 in
theorem law09_FromCred (lf ws ps : List UInt8) (nw np : Nat) (wv pv : Value) (hlf : lf.length = 16) (hwl : ws.length = nw * 16) (hpl : ps.length = np * 16) (hnw : nw ≤ 1000000) (hnp : np ≤ 1000000) (w : World) (hqw : Rd w wv nw (ws.map B)) (hqp : Rd w pv np (ps.map B)) : Ctr Tryz.prog 30 [credV lf wv pv] w (fun _ => False) (outE (crE 35 lf nw ws np ps) w) := by
  have hnwl := hqw.le
  have hnpl := hqp.le
  obtain ⟨wad, wcap, rfl, hwc, hwm⟩ := Rd.sl hqw
  obtain ⟨pad, pcap, rfl, hpc, hpm⟩ := Rd.sl hqp
  refine fn_start (N := 12) Tryz.func30 rfl rfl rfl fun ac hk => ?_
  have hs := St.start hk w
  refine wp_seq ?_
  refine wp_reg ?_
  refine s_box hs rfl rfl rfl fun ac ww g1 hs => ?_
  refine s_alloc hs ty66 rfl fun ac ww g2 hs => ?_
  refine s_end ?_
  replace hs := hs.sub (F' := [(1, _), (2, _)]) ⟨rfl, rfl, trivial⟩
  refine then_n ?_
  refine wp_seq ?_
  refine wp_region_rg pmix 8 (by kernel_rfl) rfl hs ?_
  simp only [List.take_succ_cons, List.take_zero]
  refine rg_q (fun ac ww h => c_fld fl56_0 (h.ev rfl)) rfl ?_
  refine rg_q (fun ac ww h => c_loadA ty36 rfl (h.ev rfl) (h.blk (hs.seg (i := 1) rfl)) (cred_leaf hlf _ _) (show (List.map B lf).length = 16 by rw [List.length_map, hlf])) rfl ?_
  refine rg_q (fun ac ww h => c_fld fl56_1 (h.ev rfl)) rfl ?_
  refine rg_q (fun ac ww h => c_loadS un39 rfl (h.ev rfl) (h.blk (hs.seg (i := 1) rfl)) (cred_way hlf _ _)) rfl ?_
  refine rg_callE (rowS' nw ws) (fun _ _ _ _ _ h => h) fu23 (fun ac ww h => ?_) rfl ?_
  · exact ⟨_, .cons (h.ev rfl) (.nil), law03_From nw ws _ hwl hnw _ (hqw.fr0 (hs.fr.trans0 h.fr))⟩
  refine rg_q (fun ac ww h => c_fld fl56_2 (h.ev rfl)) rfl ?_
  refine rg_q (fun ac ww h => c_loadS un39 rfl (h.ev rfl) (h.blk (hs.seg (i := 1) rfl)) (cred_path hlf _ _)) rfl ?_
  refine rg_callE (rowS' np ps) (fun _ _ _ _ _ h => h) fu23 (fun ac ww h => ?_) rfl ?_
  · exact ⟨_, .cons (h.ev rfl) (.nil), law03_From np ps _ hpl hnp _ (hqp.fr0 (hs.fr.trans0 h.fr))⟩
  refine rg_nil fun ac ww L' hf hfe hs => ?_
  simp only [List.drop_succ_cons, List.drop_zero]
  obtain ⟨v10, L10, M10, h10, e10, ⟨v7, L7, M7, h7, e7, rfl, rfl⟩, rfl⟩ := hfe
  replace hs := hs.add h10
  replace hs := hs.add h7
  obtain rfl := e7
  obtain rfl := e10
  obtain ⟨wad2, wcap2, rfl, hwc2, hwm2⟩ := Rd.sl (Rd.of_row (hs.get (i := 1) rfl))
  obtain ⟨pad2, pcap2, rfl, hpc2, hpm2⟩ := Rd.sl (Rd.of_row (hs.get (i := 0) rfl))
  refine s_q hs (c_buildS (zc := lf.map B ++ [.slice wad2 nw wcap2, .slice pad2 np pcap2]) ty66 bp66 (.cons (hs.ev rfl) (.cons (hs.ev rfl) (.cons (hs.ev rfl) .nil))) ⟨(by simp [Value.cells, hlf]), (by simp [Value.cells, hlf]), (by simp [Value.cells, hlf]), trivial⟩ (by simp [flatCells, Value.cells, hlf]) (by simp [flatCells, Value.cells, hlf])) rfl fun ac hs => ?_
  refine s_storeW (i := 2) hs ty66 rfl rfl rfl (by simp [hlf]) (by simp [Value.oneCell', B]) rfl fun ww hs => ?_
  refine s_end ?_
  replace hs := hs.sub (F' := [(2, _)]) ⟨rfl, trivial⟩
  refine then_n ?_
  refine wp_ret ?_
  refine s_ret hs rfl (.cell (hs.tmp rfl) (run_loadA ty66 ag66 (hs.seg (i := 2) rfl) (List.take_of_length_le (by simp [hlf])) (by simp [hlf])) .nil) rfl ⟨_, rfl, hs.fr, ?_⟩
  exact ⟨_, ⟨_, _, rfl, rfl⟩, (hs.pick (L' := [_, _]) (.cons_cons _ (.cons_cons _ (List.nil_sublist _)))).made⟩
set_option maxHeartbeats 4000000 in
theorem ref09_SameCred (l1 w1 p1 l2 w2 p2 : List UInt8) (n1 m1 n2 m2 : Nat) (wv1 pv1 wv2 pv2 : Value) (hl1 : l1.length = 16) (hl2 : l2.length = 16) (hw1 : w1.length = n1 * 16) (hp1 : p1.length = m1 * 16) (hw2 : w2.length = n2 * 16) (hp2 : p2.length = m2 * 16) (w : World) (hqw1 : Rd w wv1 n1 (w1.map B)) (hqp1 : Rd w pv1 m1 (p1.map B)) (hqw2 : Rd w wv2 n2 (w2.map B)) (hqp2 : Rd w pv2 m2 (p2.map B)) : Ctr Tryz.prog 29 [credV l1 wv1 pv1, credV l2 wv2 pv2] w (fun _ => False) (fun v _ => v = .bool (decide (l1 = l2) && decide (w1 = w2) && decide (p1 = p2))) := by
  obtain ⟨ad1, cp1, rfl, hc1, hm1⟩ := Rd.sl hqw1
  obtain ⟨ad2, cp2, rfl, hc2, hm2⟩ := Rd.sl hqp1
  obtain ⟨ad3, cp3, rfl, hc3, hm3⟩ := Rd.sl hqw2
  obtain ⟨ad4, cp4, rfl, hc4, hm4⟩ := Rd.sl hqp2
  refine fn_start (N := 24) Tryz.func29 rfl rfl rfl fun ac hk => ?_
  have hs := St.start hk w
  refine wp_seq ?_
  refine wp_reg ?_
  refine s_box hs rfl rfl rfl fun ac ww g2 hs => ?_
  refine s_box hs rfl rfl rfl fun ac ww g3 hs => ?_
  refine s_q hs (c_assign (hs.ev rfl)) rfl fun ac hs => ?_
  refine s_end ?_
  replace hs := hs.sub (F' := [(2, _), (3, _), (4, _)]) ⟨rfl, rfl, rfl, trivial⟩
  refine then_n ?_
  refine wp_seq ?_
  refine wp_reg ?_
  refine s_q hs (c_fld fl66_0 (hs.ev rfl)) rfl fun ac hs => ?_
  refine s_q hs (c_loadA ty35 rfl (hs.ev rfl) (hs.seg (i := 1) rfl) (cred_leaf hl1 _ _) (show (List.map B l1).length = 16 by rw [List.length_map, hl1])) rfl fun ac hs => ?_
  refine s_q hs (c_fld fl66_0 (hs.ev rfl)) rfl fun ac hs => ?_
  refine s_q hs (c_loadA ty35 rfl (hs.ev rfl) (hs.seg (i := 0) rfl) (cred_leaf hl2 _ _) (show (List.map B l2).length = 16 by rw [List.length_map, hl2])) rfl fun ac hs => ?_
  refine s_q hs (c_eqlAB un35 ty5 eg35 (hs.ev rfl) (hs.ev rfl) hl1 hl2) rfl fun ac hs => ?_
  refine s_q hs (c_move (hs.ev rfl)) rfl fun ac hs => ?_
  refine s_g hs rfl rfl (fun hg => c_fld fl66_1 (hs.ev rfl)) rfl fun ac hs => ?_
  refine s_g hs rfl rfl (fun hg => c_loadS un47 rfl (gev (hs.ev rfl) hg) (hs.seg (i := 1) rfl) (cred_way hl1 _ _)) rfl fun ac hs => ?_
  refine s_g hs rfl rfl (fun hg => c_fld fl66_1 (hs.ev rfl)) rfl fun ac hs => ?_
  refine s_g hs rfl rfl (fun hg => c_loadS un47 rfl (gev (hs.ev rfl) hg) (hs.seg (i := 0) rfl) (cred_way hl2 _ _)) rfl fun ac hs => ?_
  refine s_gcall hs rfl rfl fu22 (fun hg => (.cons (gev (hs.ev rfl) hg) (.cons (gev (hs.ev rfl) hg) .nil))) (fun hg => ref03_SameSums n1 n2 w1 w2 _ _ hw1 hw2 _ (hqw1.fr0 hs.fr) (hqw2.fr0 hs.fr)) rfl fun ac ww hf hs => ?_
  refine s_q hs (c_and (hs.ev rfl) (hs.ev rfl)) rfl fun ac hs => ?_
  refine s_q hs (c_move (hs.ev rfl)) rfl fun ac hs => ?_
  refine s_g hs rfl rfl (fun hg => c_fld fl66_2 (hs.ev rfl)) rfl fun ac hs => ?_
  refine s_g hs rfl rfl (fun hg => c_loadS un47 rfl (gev (hs.ev rfl) hg) (hs.seg (i := 1) rfl) (cred_path hl1 _ _)) rfl fun ac hs => ?_
  refine s_g hs rfl rfl (fun hg => c_fld fl66_2 (hs.ev rfl)) rfl fun ac hs => ?_
  refine s_g hs rfl rfl (fun hg => c_loadS un47 rfl (gev (hs.ev rfl) hg) (hs.seg (i := 0) rfl) (cred_path hl2 _ _)) rfl fun ac hs => ?_
  refine s_gcall hs rfl rfl fu22 (fun hg => (.cons (gev (hs.ev rfl) hg) (.cons (gev (hs.ev rfl) hg) .nil))) (fun hg => ref03_SameSums m1 m2 p1 p2 _ _ hp1 hp2 _ (hqp1.fr0 hs.fr) (hqp2.fr0 hs.fr)) rfl fun ac ww hf hs => ?_
  refine s_q hs (c_and (hs.ev rfl) (hs.ev rfl)) rfl fun ac hs => ?_
  refine s_q hs (c_assign (hs.ev rfl)) rfl fun ac hs => ?_
  refine s_end ?_
  replace hs := hs.sub (F' := [(4, _)]) ⟨rfl, trivial⟩
  refine then_n ?_
  refine wp_ret ?_
  refine s_ret hs rfl (.tmp (hs.tmp rfl) .nil) rfl ⟨_, rfl, hs.fr, ?_⟩
  rfl
end Go.Proofs.YtklajbdbnnceiaaGreat
end

section
/- Regions with a frame of their own: calls that turn what was there and come to a known value. -/
set_option linter.unusedSimpArgs false
set_option linter.unusedVariables false
namespace Go.FwK
open Go Go.Fw
section
variable {P : Program} {ops : Array Oper} {N B1 : Nat} {w1 : World} {Fk : World → World → Prop} {K : List (Nat × Value) → Fes → Prop} {Fc : List (Nat × Value)} {Fe : Fes} {rest : List Oper}
variable {d : Tmp} {op : Op} {ty : TypeId} {pos : String} {aft : Array Edge}
theorem rg_callKc (hK : FrK Fk B1) {f : FuncId} {args : Array Operand} {vs : List Value} {tys : Array TypeId} {c : Value} (hF : Fun P f)
    (hargs : ∀ a w, RC Fk N Fc Fe ⟨some d, .call { callee := .value (.func f), args := args, argTypes := tys }, ty, pos, aft, none⟩ B1 w1 a w → Evs a args.toList vs)
    (hc : ∀ w, Fk w1 w → Calls P f vs.toArray w fun e w' => e = .returned c ∧ Fk w w') (hE : lookE Fe d = none)
    (k : RG Fk P ops N B1 w1 K ((d, c) :: Fc) Fe rest) : RG Fk P ops N B1 w1 K Fc Fe (⟨some d, .call { callee := .value (.func f), args := args, argTypes := tys }, ty, pos, aft, none⟩ :: rest) :=
  ⟨d, .c c, rfl, ⟨.inl ⟨rfl, fun a w h => by
    rw [run_call hF (hargs a w h)]
    exact Calls.mono (hc w h.fr) fun e w' ⟨he, hf⟩ => ⟨c, he, [], ⟨rfl, rfl⟩, hf, .nil _ _⟩⟩, fun h => by cases h⟩, hE, k⟩
end
end Go.FwK
end

section
/- Laws of proofs: an example. -/
set_option linter.unusedSimpArgs false
set_option linter.unusedVariables false
set_option maxRecDepth 100000
namespace Go.Proofs.YtklajbdbnnceiaaGreat
open Go Go.Fw
open Sha
/-- Calls to the spring alone: it stands, whichever columns are made. -/
abbrev SpK (p : Spr) (a b : World) : Prop := Fr (SpM p) a b ∧ (SpSome a p → SpSome b p)
theorem SpSome.fr0 {w w' : World} {p : Spr} (h : SpSome w p) (hf : Fr0 w w') : SpSome w' p := by
  obtain ⟨K, t, h⟩ := h
  exact ⟨K, t, h.fr0 hf⟩
theorem spK {w : World} {p : Spr} (h : SpSome w p) : FwK.FrK (SpK p) w.heap.size := by
  obtain ⟨K, t, h⟩ := h
  exact FwK.frK (M := SpM p) (R := fun a b => SpSome a p → SpSome b p) (fun k hk => hk.elim (fun e => e ▸ heap_lt h.hg) fun e => e ▸ heap_lt h.hc) (fun h k x => k (h x)) fun hf x => x.fr0 hf
theorem root_call {p : Spr} (ho : p.Ok) {w w2 : World} (h : SpSome w p) (hf : SpK p w w2) : Calls Tryz.prog 19 #[.pointer (some ⟨p.g, 0, none⟩)] w2 fun e w' => e = .returned (.agg ((gNode p.d p.ep (ends p p.m) p.H 0).map B).toArray) ∧ SpK p w2 w' := by
  obtain ⟨K, t, h2⟩ := hf.2 h
  refine Calls.mono (spring_Root p ho K t w2 h2) fun e w' ⟨v, he, hf, hv, K', pv, hst, _⟩ => ⟨he.trans (congrArg _ hv), hf, fun _ => ⟨K', some pv, hst.1⟩⟩
theorem awake_leaf {p : Spr} (h : SpIs p 1 1 0 (List.replicate 32 0) 0 0) : shL 0 0 0 0 (el p 0 0) p.W 0 = gNode p.d p.ep (ends p p.m) p.H 0 := by
  have hS : p.S = 1 := by have := h.S; omega
  have hH : p.H = 0 := by have := h.H; omega
  have hm : p.m = 1 := by rw [Spr.m, hH]
  rw [h.W, h.d, h.ep, hH, hm, gNode, node, gLf, ends, hS]
  have e1 : okS 0 1 0 = true := by decide
  have e2 : rightB ((0 : Nat) : Int) 1 = true := by decide
  rw [shL, if_pos e1]
  have e3 : chunk (rows (fun q => el p q 1) 1) 0 = el p 0 1 := by
    rw [rows_succ, show rows (fun q => el p q 1) 0 = [] from rfl, List.nil_append]
    show ((el p 0 1).drop (16 * 0)).take 16 = _
    rw [List.drop_zero, List.take_of_length_le (by rw [el_length]; exact Nat.le_refl _)]
  rw [e3, el_succ, upB, h.W, h.d, h.ep, if_pos e2]
  rfl
set_option maxHeartbeats 4000000 in
theorem law09_awake  (w : World)  : Ctr Tryz.prog 25 [] w (fun _ => False) (fun v _ => v = .bool true) := by
  refine fn_start (N := 31) Tryz.func25 rfl rfl rfl fun ac hk => ?_
  have hs := St.start hk w
  refine wp_seq ?_
  refine wp_reg ?_
  refine s_q hs (c_assign (hs.ev rfl)) rfl fun ac hs => ?_
  refine s_end ?_
  refine then_n ?_
  refine wp_seq ?_
  refine wp_reg ?_
  refine s_q hs (c_buildS ty33 bp33 (.cons (hs.ev rfl) (.cons (hs.ev rfl) .nil)) ⟨rfl, rfl, trivial⟩ (by simp [flatCells, Value.cells]) rfl) rfl fun ac hs => ?_
  refine s_q hs (c_buildA ty129 un129 ty5 (zc := (List.replicate 32 (0 : UInt8)).map B) (vs := []) .nil (by simp) (by simp [flatCells]) rfl) rfl fun ac hs => ?_
  have hs0 := hs
  refine s_call hs fu14 (.cons (hs.ev rfl) (.cons (hs.ev rfl) (.cons (hs.ev rfl) (.cons (hs.ev rfl) .nil)))) (spring_New 1 1 0 0 0 (List.replicate 32 (0 : UInt8)) (by simp) _) rfl fun ac ww v8 hf hp hs => ?_
  have hsz0 := hs0.fr.size
  have hf0 := hf
  obtain ⟨p, hsi, hsp, hg0, hc0, rfl⟩ : ∃ p, SpIs p _ _ _ _ _ _ ∧ SpAt ww p 0 (fun _ => none) none ∧ _ ≤ p.g ∧ _ ≤ p.cg ∧ _ := hp.elim (fun h => absurd h.1 (by rw [show spFits 1 1 0 0 0 = true from by decide]; simp)) (fun h => h.2)
  replace hs := hs [] (.nil _ _)
  have hg1 : w.heap.size ≤ p.g := Nat.le_trans hsz0 hg0
  have hc1 : w.heap.size ≤ p.cg := Nat.le_trans hsz0 hc0
  have ho := hsi.ok
  have hfr0 := hs.fr
  replace hs := St.start hs.know ww
  have hwW := hsi.W
  have hwS := hsi.S
  have hwH := hsi.H
  refine s_q hs (c_move (hs.ev rfl)) rfl fun ac hs => ?_
  refine s_q hs (c_extract (hs.ev rfl) rfl) rfl fun ac hs => ?_
  refine s_q hs (c_extract (hs.ev rfl) rfl) rfl fun ac hs => ?_
  refine s_q hs (c_assign (hs.ev rfl)) rfl fun ac hs => ?_
  refine s_q hs (c_assign (hs.ev rfl)) rfl fun ac hs => ?_
  refine s_end ?_
  replace hs := hs.sub (F' := [(0, _), (1, _)]) ⟨rfl, rfl, trivial⟩
  refine then_n ?_
  refine wp_seq ?_
  refine wp_reg ?_
  refine s_q hs (c_move (hs.ev rfl)) rfl fun ac hs => ?_
  refine s_q hs (c_buildS ty61 bp61 .nil trivial (by simp [flatCells, Value.cells]) rfl) rfl fun ac hs => ?_
  have hfr1 := hfr0.trans0 hs.fr
  refine s_callR hs fu26 (.cons (hs.ev rfl) (.cons (hs.ev rfl) .nil)) (proof_Issue p ho _ none 0 0 0 0 0 _ (hsp.fr0 hs.fr)) rfl fun ac ww v14 hf hp hs => ?_
  obtain ⟨hspA, wv, pv, rfl, hwv, hpv, _, _⟩ := (hp.elim (fun h => absurd h.1 (by
    have e1 : p.S = 1 := by omega
    have e2 : p.H = 0 := by omega
    rw [hwW, e1, e2]
    decide)) fun h => h.2)
  replace hfr0 := over_sp hfr1 hf hg1 hc1
  have hsl := shL_length 0 0 0 0 (el p 0 0) p.W 0
  have hwo := hwv.one
  have hpo := hpv.one
  refine s_q hs (c_move (hs.ev rfl)) rfl fun ac hs => ?_
  refine s_q hs (c_extract (hs.ev rfl) rfl) rfl fun ac hs => ?_
  refine s_q hs (c_extract (hs.ev rfl) rfl) rfl fun ac hs => ?_
  refine s_alloc hs ty56 rfl fun ac ww g3 hs => ?_
  refine s_storeW (i := 0) hs ty56 rfl rfl rfl (by simp [hsl]) (by simp [hwo, hpo]; exact fun x _ => rfl) rfl fun ww hs => ?_
  refine s_q hs (c_assign (hs.ev rfl)) rfl fun ac hs => ?_
  refine s_end ?_
  replace hs := hs.sub (F' := [(0, _), (1, _), (3, _), (4, _)]) ⟨rfl, rfl, rfl, rfl, trivial⟩
  refine then_n ?_
  refine wp_seq ?_
  have hb3 := hs.seg (i := 0) rfl
  have hfrS := hfr0.trans0 hs.fr
  have hspB : SpSome ww p := (hspA.fr0 hs.fr).elim fun K h => h.elim fun u h => ⟨K, some u, h⟩
  have hK := spK hspB
  refine FwK.wp_region_rgK pmix hK 7 (by kernel_rfl) rfl hs.know ?_
  simp only [List.take_succ_cons, List.take_zero]
  refine FwK.rg_q hK (fun ac w2 h => c_move (h.ev rfl)) rfl ?_
  refine FwK.rg_q hK (fun ac w2 h => c_eqlI (h.ev rfl) (h.ev rfl)) rfl ?_
  refine FwK.rg_q hK (fun ac w2 h => c_move (h.ev rfl)) rfl ?_
  refine FwK.rg_strip rfl rfl ?_
  refine FwK.rg_q hK (fun ac w2 h => c_fld fl56_0 (h.ev rfl)) rfl ?_
  refine FwK.rg_strip rfl rfl ?_
  refine FwK.rg_q hK (v := .agg ((shL 0 0 0 0 (el p 0 0) p.W 0).map B).toArray) (fun ac w2 h => c_loadA ty36 rfl (h.ev rfl) (h.fr.1.keepT hb3 fun i hi => by obtain ⟨K0, t0, h0⟩ := hspB; exact hi.elim (fun e => ⟨_, _, _, e ▸ h0.hg, rfl⟩) fun e => ⟨_, _, _, e ▸ h0.hc, rfl⟩) (by simp [hsl]) (by simp [hsl])) rfl ?_
  refine FwK.rg_strip rfl rfl ?_
  refine FwK.rg_q hK (fun ac w2 h => c_move (h.ev rfl)) rfl ?_
  refine FwK.rg_strip rfl rfl ?_
  refine FwK.rg_callKc hK fu19 (fun ac w2 h => .cons (h.ev rfl) .nil) (fun w2 hf => root_call ho hspB hf) rfl ?_
  refine FwK.rg_nil fun ac w2 L' hfk hfe hkn hhas hlk => ?_
  simp only [List.drop_succ_cons, List.drop_zero]
  have hfr0 := over_sp hfrS hfk.1 hg1 hc1
  replace hs := St.start hkn w2
  refine s_yes hs rfl rfl ?_
  refine s_q hs (c_tt (c_eqlAB un36 ty5 eg36 (hs.ev rfl) (hs.ev rfl) hsl (by rw [← awake_leaf hsi]; exact hsl)) (by rw [awake_leaf hsi]; simp)) rfl fun ac hs => ?_
  refine s_q hs (c_pick (hs.ev rfl) (hs.ev rfl) (hs.ev rfl)) rfl fun ac hs => ?_
  refine s_q hs (c_move (hs.ev rfl)) rfl fun ac hs => ?_
  refine s_yes hs rfl rfl ?_
  refine s_q hs (c_buildS ty33 bp33 (.cons (hs.ev rfl) (.cons (hs.ev rfl) (.cons (hs.ev rfl) .nil))) ⟨rfl, rfl, rfl, trivial⟩ (by simp [flatCells, Value.cells]) rfl) rfl fun ac hs => ?_
  refine s_yes hs rfl rfl ?_
  refine s_call hs fu73 (.cons (hs.ev rfl) (.cons (hs.ev rfl) .nil)) (proof_Cost 4 3 2 1 _) rfl fun ac ww v28 hf hp hs => ?_
  obtain rfl := hp
  replace hs := hs [] (.nil _ _)
  refine s_yes hs rfl rfl ?_
  refine s_q hs (c_tt (c_eqlI (hs.ev rfl) (hs.ev rfl)) (by decide)) rfl fun ac hs => ?_
  refine s_q hs (c_pick (hs.ev rfl) (hs.ev rfl) (hs.ev rfl)) rfl fun ac hs => ?_
  refine s_q hs (c_assign (hs.ev rfl)) rfl fun ac hs => ?_
  refine s_end ?_
  replace hs := hs.sub (F' := [(0, _)]) ⟨rfl, trivial⟩
  refine then_n ?_
  refine wp_ret ?_
  refine s_ret hs rfl (.tmp (hs.tmp rfl) .nil) rfl ⟨_, rfl, (hfr0.trans0 hs.fr), ?_⟩
  rfl
end Go.Proofs.YtklajbdbnnceiaaGreat
end

section
/- Honest proofs. -/
set_option linter.unusedSimpArgs false
set_option linter.unusedVariables false
set_option maxRecDepth 100000
namespace Go.Proofs.YtklajbdbnnceiaaGreat
open Go Go.Fw
open Sha
section
variable {p : Spr} {m : Nat} {sn : Int} {sq : UInt32}
/-- The honest leaf, way, path. -/
abbrev hLf (p : Spr) (m : Nat) (sn : Int) (sq : UInt32) : List UInt8 := shL p.d p.ep sq (m : Int) (el p sq.toNat m) p.W sn
abbrev hWs (p : Spr) (m : Nat) (sn : Int) (sq : UInt32) : List UInt8 := shW p.d p.ep sq (m : Int) (el p sq.toNat m) p.W sn
abbrev hPs (p : Spr) (sq : UInt32) : List UInt8 := gPath p.d p.ep (ends p p.m) sq.toNat p.H
theorem seq_lt (h : clRight p.W p.S p.H p.d m sn p.ep sq = true) : sq.toNat < p.m := by
  obtain ⟨_, _, _, _, _, _, h1, _, _⟩ := clRight_iff.1 h
  simpa [Spr.m] using h1
end
end Go.Proofs.YtklajbdbnnceiaaGreat
end

section
/- What is issued and checked, as the document has it. -/
set_option linter.unusedSimpArgs false
set_option linter.unusedVariables false
set_option maxRecDepth 100000
namespace Go.Proofs.YtklajbdbnnceiaaGreat
open Go Go.Fw
open Sha
set_option maxHeartbeats 4000000 in
theorem ref09_Issue (p : Spr) (ho : p.Ok) (m : Nat) (sn : Int) (sq : UInt32) (hcr : clRight p.W p.S p.H p.d m sn p.ep sq = true) (w : World)  : Ctr Tryz.prog 31 [.agg #[I p.W, I p.S, I p.H], .agg (p.seed.map B).toArray, .agg #[I p.d, U p.ep, U sq, I (m : Nat), I sn]] w (fun _ => False) (outE (crE 35 (hLf p m sn sq) (shN (m : Int) p.W sn) (hWs p m sn sq) p.H (hPs p sq)) w) := by
  obtain ⟨hR, hd0, hdW, hsn0, hsnW, hep, hsq, hmt0, hmtS⟩ := clRight_iff.1 hcr
  obtain ⟨hlv, hS1, hS16, hH0, hH6⟩ := spRight_iff.1 hR
  have hsqm := seq_lt hcr
  have hsl := shL_length p.d p.ep sq (m : Int) (el p sq.toNat m) p.W sn
  refine fn_start (N := 56) Tryz.func31 rfl rfl rfl fun ac hk => ?_
  have hs := St.start hk w
  refine wp_seq ?_
  refine wp_reg ?_
  refine s_box hs rfl rfl rfl fun ac ww g3 hs => ?_
  refine s_box hs rfl rfl rfl fun ac ww g4 hs => ?_
  refine s_box hs rfl rfl rfl fun ac ww g5 hs => ?_
  refine s_alloc hs ty66 rfl fun ac ww g6 hs => ?_
  refine s_end ?_
  replace hs := hs.sub (F' := [(3, _), (4, _), (5, _), (6, _)]) ⟨rfl, rfl, rfl, rfl, trivial⟩
  refine then_n ?_
  refine wp_seq ?_
  refine wp_reg ?_
  refine s_q hs (c_loadW ty23 ag23 (hs.ev rfl) (hs.seg (i := 3) rfl) (by rfl)) rfl fun ac hs => ?_
  refine s_q hs (c_loadW ty24 rfl (hs.ev rfl) (hs.seg (i := 2) rfl) (by rw [List.length_map, ho.seed])) rfl fun ac hs => ?_
  refine s_q hs (c_fld fl54_0 (hs.ev rfl)) rfl fun ac hs => ?_
  refine s_q hs (c_loadS un3 rfl (hs.ev rfl) (hs.seg (i := 1) rfl) rfl) rfl fun ac hs => ?_
  refine s_q hs (c_fld fl54_1 (hs.ev rfl)) rfl fun ac hs => ?_
  refine s_q hs (c_fld fl52_0 (hs.ev rfl)) rfl fun ac hs => ?_
  refine s_q hs (c_loadS un25 rfl (hs.ev rfl) (hs.seg (i := 1) rfl) rfl) rfl fun ac hs => ?_
  refine s_q hs (c_fld fl54_1 (hs.ev rfl)) rfl fun ac hs => ?_
  refine s_q hs (c_fld fl52_1 (hs.ev rfl)) rfl fun ac hs => ?_
  refine s_q hs (c_loadS un25 rfl (hs.ev rfl) (hs.seg (i := 1) rfl) rfl) rfl fun ac hs => ?_
  refine s_q hs (c_cvUI un25 un3 (hs.ev rfl)) rfl fun ac hs => ?_
  refine s_q hs (c_fld fl54_1 (hs.ev rfl)) rfl fun ac hs => ?_
  refine s_q hs (c_fld fl52_2 (hs.ev rfl)) rfl fun ac hs => ?_
  refine s_q hs (c_loadS un3 rfl (hs.ev rfl) (hs.seg (i := 1) rfl) rfl) rfl fun ac hs => ?_
  refine s_call hs fu21 (.cons (hs.ev rfl) (.cons (hs.ev rfl) (.cons (hs.ev rfl) (.cons (hs.ev rfl) (.cons (hs.ev rfl) (.cons (hs.ev rfl) .nil)))))) (ref08_Element p ho hlv sq.toNat m (by omega) _) rfl fun ac ww v25 hf hp hs => ?_
  obtain rfl := hp
  replace hs := hs [] (.nil _ _)
  refine s_alloc hs ty35 rfl fun ac ww g7 hs => ?_
  refine s_storeW (i := 0) hs ty35 rfl rfl rfl (by rw [List.length_map, el_length]) (all_map_B _) rfl fun ww hs => ?_
  refine s_end ?_
  replace hs := hs.sub (F' := [(3, _), (4, _), (5, _), (6, _), (7, _)]) ⟨rfl, rfl, rfl, rfl, rfl, trivial⟩
  refine then_n ?_
  refine wp_seq ?_
  refine wp_region_rgX (J := [13, 14]) pmix 16 (by kernel_rfl) (by kernel_rfl) rfl rfl hs ?_
  simp only [List.take_succ_cons, List.take_zero]
  refine rg_q (fun ac ww h => c_loadW ty54 ag54 (h.ev rfl) (h.blk (hs.seg (i := 2) rfl)) (by rfl)) rfl ?_
  refine rg_call fu80 (fun ac ww h => (.cons (h.ev rfl) .nil)) (fun ww hf => ref09_Place p.d m sn p.ep sq ww) rfl ?_
  refine rg_q (fun ac ww h => c_fld fl54_1 (h.ev rfl)) rfl ?_
  refine rg_q (fun ac ww h => c_fld fl52_2 (h.ev rfl)) rfl ?_
  refine rg_q (fun ac ww h => c_loadS un3 rfl (h.ev rfl) (h.blk (hs.seg (i := 2) rfl)) rfl) rfl ?_
  refine rg_q (fun ac ww h => c_loadW ty35 rfl (h.ev rfl) (h.blk (hs.seg (i := 0) rfl)) (by rw [List.length_map, el_length])) rfl ?_
  refine rg_q (fun ac ww h => c_fld fl23_0 (h.ev rfl)) rfl ?_
  refine rg_q (fun ac ww h => c_loadS un3 rfl (h.ev rfl) (h.blk (hs.seg (i := 4) rfl)) rfl) rfl ?_
  refine rg_q (fun ac ww h => c_fld fl54_2 (h.ev rfl)) rfl ?_
  refine rg_q (fun ac ww h => c_loadS un3 rfl (h.ev rfl) (h.blk (hs.seg (i := 2) rfl)) rfl) rfl ?_
  refine rg_callE (tupG [.agg ((hLf p m sn sq).map B).toArray] [I (shE (m : Int) p.W sn)] (rowS' (shN (m : Int) p.W sn) (hWs p m sn sq))) (fun _ _ _ _ _ h => h) fu79 (fun ac ww h => ?_) rfl ?_
  · exact ⟨_, .cons (h.ev rfl) (.cons (h.ev rfl) (.cons (h.ev rfl) (.cons (h.ev rfl) (.cons (h.ev rfl) (.nil))))), ref06_ShowA p.d p.ep sq (m : Int) (el p sq.toNat m) p.W sn (el_length _ _ _) _⟩
  refine rg_moveG rfl rfl rfl ?_
  refine rg_extGc rfl rfl rfl (fun _ => rfl) ?_
  refine rg_extGe rfl rfl rfl rfl ?_
  refine rg_extGc rfl rfl rfl (fun _ => rfl) ?_
  refine rg_alloc ty35 rfl ?_
  refine rg_nil fun ac ww L' hf hfe hs hlk => ?_
  simp only [List.drop_succ_cons, List.drop_zero]
  obtain ⟨v8, L8, M8, h8, e8, ⟨v39, L39, M39, h39, e39, ⟨v26, L26, M26, h26, e26, ⟨v37, L37, M37, h37, e37, rfl, rfl⟩, rfl⟩, rfl⟩, rfl⟩ := hfe
  replace hs := hs.add h8
  replace hs := hs.add h39
  replace hs := hs.add h26
  replace hs := hs.add h37
  obtain ⟨g8, rfl, rfl⟩ := e8
  obtain ⟨tv37, rfl, e37⟩ := e37
  obtain ⟨-, rfl⟩ := e26
  obtain rfl := lk_move (j := 11) hlk (by decide) rfl (by kernel_rfl) h26 h37
  obtain ⟨-, rfl⟩ := e39
  obtain rfl := lk_ext (j := 13) hlk (by decide) rfl (by kernel_rfl) h39 h26 rfl
  obtain rfl := e37
  refine sk_storeW (i := 0) hs ty35 rfl rfl rfl (by rw [List.length_map, hsl]) (all_map_B _) rfl (fun ww hs => late_turn rfl rfl (late_turn rfl rfl (late_nil))) fun ww hs => ?_
  refine s_q hs (c_assign (hs.ev rfl)) rfl fun ac hs => ?_
  refine s_q hs (c_assign (hs.ev rfl)) rfl fun ac hs => ?_
  refine s_end ?_
  replace hs := hs.sub (F' := [(3, _), (4, _), (5, _), (6, _), (8, _), (9, _)]) ⟨rfl, rfl, rfl, rfl, rfl, rfl, trivial⟩
  refine then_n ?_
  refine wp_seq ?_
  obtain ⟨wad, wcap, rfl, hwc, hwm⟩ := Rd.sl (Rd.of_row (hs.get (i := 1) rfl))
  refine wp_region_rg pmix 14 (by kernel_rfl) rfl hs ?_
  simp only [List.take_succ_cons, List.take_zero]
  refine rg_q (fun ac ww h => c_loadW ty35 rfl (h.ev rfl) (h.blk (hs.seg (i := 0) rfl)) (by rw [List.length_map, hsl])) rfl ?_
  refine rg_q (fun ac ww h => c_move (h.ev rfl)) rfl ?_
  refine rg_q (fun ac ww h => c_loadW ty23 ag23 (h.ev rfl) (h.blk (hs.seg (i := 6) rfl)) (by rfl)) rfl ?_
  refine rg_q (fun ac ww h => c_loadW ty24 rfl (h.ev rfl) (h.blk (hs.seg (i := 5) rfl)) (by rw [List.length_map, ho.seed])) rfl ?_
  refine rg_q (fun ac ww h => c_fld fl54_0 (h.ev rfl)) rfl ?_
  refine rg_q (fun ac ww h => c_loadS un3 rfl (h.ev rfl) (h.blk (hs.seg (i := 4) rfl)) rfl) rfl ?_
  refine rg_q (fun ac ww h => c_fld fl54_1 (h.ev rfl)) rfl ?_
  refine rg_q (fun ac ww h => c_fld fl52_0 (h.ev rfl)) rfl ?_
  refine rg_q (fun ac ww h => c_loadS un25 rfl (h.ev rfl) (h.blk (hs.seg (i := 4) rfl)) rfl) rfl ?_
  refine rg_q (fun ac ww h => c_fld fl54_1 (h.ev rfl)) rfl ?_
  refine rg_q (fun ac ww h => c_fld fl52_1 (h.ev rfl)) rfl ?_
  refine rg_q (fun ac ww h => c_loadS un25 rfl (h.ev rfl) (h.blk (hs.seg (i := 4) rfl)) rfl) rfl ?_
  refine rg_q (fun ac ww h => c_cvUI un25 un3 (h.ev rfl)) rfl ?_
  refine rg_callE (rowS' p.H (hPs p sq)) (fun _ _ _ _ _ h => h) fu24 (fun ac ww h => ?_) rfl ?_
  · exact ⟨_, .cons (h.ev rfl) (.cons (h.ev rfl) (.cons (h.ev rfl) (.cons (h.ev rfl) (.cons (h.ev rfl) (.nil))))), ref08_Path p ho hlv sq.toNat hsqm _⟩
  refine rg_nil fun ac ww L' hf hfe hs => ?_
  simp only [List.drop_succ_cons, List.drop_zero]
  obtain ⟨v54, L54, M54, h54, e54, rfl, rfl⟩ := hfe
  replace hs := hs.add h54
  obtain rfl := e54
  obtain ⟨pad, pcap, rfl, hpc, hpm⟩ := Rd.sl (Rd.of_row (hs.get (i := 0) rfl))
  refine s_q hs (c_buildS (zc := (hLf p m sn sq).map B ++ [.slice wad (shN (m : Int) p.W sn) wcap, .slice pad p.H pcap]) ty66 bp66 (.cons (hs.ev rfl) (.cons (hs.ev rfl) (.cons (hs.ev rfl) .nil))) ⟨(by simp [Value.cells, hsl]), (by simp [Value.cells, hsl]), (by simp [Value.cells, hsl]), trivial⟩ (by simp [flatCells, Value.cells, hsl]) (by simp [flatCells, Value.cells, hsl])) rfl fun ac hs => ?_
  refine s_storeW (i := 4) hs ty66 rfl rfl rfl (by simp [hsl]) (by simp [Value.oneCell', B]) rfl fun ww hs => ?_
  refine s_end ?_
  replace hs := hs.sub (F' := [(6, _)]) ⟨rfl, trivial⟩
  refine then_n ?_
  refine wp_ret ?_
  refine s_ret hs rfl (.cell (hs.tmp rfl) (run_loadA ty66 ag66 (hs.seg (i := 4) rfl) (List.take_of_length_le (by simp [hsl])) (by simp [hsl])) .nil) rfl ⟨_, rfl, hs.fr, ?_⟩
  exact ⟨_, ⟨_, _, rfl, rfl⟩, (hs.pick (L' := [_, _]) (.cons_cons _ (.cons _ (.cons_cons _ (List.nil_sublist _))))).made⟩
end Go.Proofs.YtklajbdbnnceiaaGreat
end

section
/- The law of quick checks. -/
set_option linter.unusedSimpArgs false
set_option linter.unusedVariables false
set_option maxRecDepth 100000
namespace Go.Proofs.YtklajbdbnnceiaaGreat
open Go Go.Fw
open Sha
theorem keepS {w w' : World} {p : Spr} {lk : Int} {K : Nat → Option Value} {t : Option Value} {b : Nat} {cs : Array Value} {T : TypeId} {fr : Nat × Nat} (hsp : SpAt w p lk K t) (hf : Fr (SpM p) w w') (hb : w.heap[b]? = some (.cells cs T fr)) (h1 : Nat.beq 149 T = false := by rfl) (h2 : Nat.beq 203 T = false := by rfl) : w'.heap[b]? = some (.cells cs T fr) :=
  hf.keepT hb fun i hi => hi.elim (fun e => ⟨_, _, _, e ▸ hsp.hg, h1⟩) fun e => ⟨_, _, _, e ▸ hsp.hc, h2⟩
theorem hPs_length {p : Spr} {m : Nat} {sn : Int} {sq : UInt32} (h : clRight p.W p.S p.H p.d m sn p.ep sq = true) : (hPs p sq).length = p.H * 16 := gPath_length (ends_length p p.m) (seq_lt h) p.H (Nat.le_refl _)
end Go.Proofs.YtklajbdbnnceiaaGreat
end

section
/- The law of what a spring issues. -/
set_option linter.unusedSimpArgs false
set_option linter.unusedVariables false
set_option maxRecDepth 100000
namespace Go.Proofs.YtklajbdbnnceiaaGreat
open Go Go.Fw
open Sha
theorem ref09_SameCredY (l ws ps : List UInt8) (n m : Nat) (wv1 pv1 wv2 pv2 : Value) (hl : l.length = 16) (hw : ws.length = n * 16) (hp : ps.length = m * 16) (w : World) (h1 : Rd w wv1 n (ws.map B)) (h2 : Rd w pv1 m (ps.map B)) (h3 : Rd w wv2 n (ws.map B)) (h4 : Rd w pv2 m (ps.map B)) :
    Ctr Tryz.prog 29 [credV l wv1 pv1, credV l wv2 pv2] w (fun _ => False) fun v _ => v = .bool true := by
  have h := ref09_SameCred l ws ps l ws ps n m n m wv1 pv1 wv2 pv2 hl hl hw hp hw hp w h1 h2 h3 h4
  simpa using h
set_option maxHeartbeats 4000000 in
theorem law_ProofIssues (W S H d mt sn : Int) (ep sq : UInt32) (seed : List UInt8) (hsd : seed.length = 32) (w : World)  : Ctr Tryz.prog 4 [.agg #[I W, I S, I H], .agg (seed.map B).toArray, .agg #[I d, U ep, U sq, I mt, I sn]] w (fun _ => False) (fun v _ => v = .bool true) := by
  refine fn_start (N := 77) Tryz.func4 rfl rfl rfl fun ac hk => ?_
  have hs := St.start hk w
  refine wp_seq ?_
  refine wp_reg ?_
  refine s_box hs rfl rfl rfl fun ac ww g3 hs => ?_
  refine s_box hs rfl rfl rfl fun ac ww g4 hs => ?_
  refine s_box hs rfl rfl rfl fun ac ww g5 hs => ?_
  refine s_q hs (c_assign (hs.ev rfl)) rfl fun ac hs => ?_
  refine s_end ?_
  replace hs := hs.sub (F' := [(3, _), (4, _), (5, _), (6, _)]) ⟨rfl, rfl, rfl, rfl, trivial⟩
  refine then_n ?_
  refine wp_seq ?_
  refine wp_seq ?_
  refine wp_reg ?_
  refine s_q hs (c_loadW ty23 ag23 (hs.ev rfl) (hs.seg (i := 2) rfl) (by rfl)) rfl fun ac hs => ?_
  refine s_call hs fu11 (.cons (hs.ev rfl) .nil) (law08_Light W S H _) rfl fun ac ww v12 hf hp hs => ?_
  obtain rfl := hp
  replace hs := hs [] (.nil _ _)
  refine s_q hs (c_not (hs.ev rfl)) rfl fun ac hs => ?_
  refine s_q hs (c_move (hs.ev rfl)) rfl fun ac hs => ?_
  refine s_g hs rfl rfl (fun hg => c_loadW ty23 ag23 (hs.ev rfl) (hs.seg (i := 2) rfl) (by rfl)) rfl fun ac hs => ?_
  refine s_g hs rfl rfl (fun hg => c_fld fl54_0 (hs.ev rfl)) rfl fun ac hs => ?_
  refine s_g hs rfl rfl (fun hg => c_loadS un3 rfl (gev (hs.ev rfl) hg) (hs.seg (i := 0) rfl) rfl) rfl fun ac hs => ?_
  refine s_g hs rfl rfl (fun hg => c_fld fl54_1 (hs.ev rfl)) rfl fun ac hs => ?_
  refine s_g hs rfl rfl (fun hg => c_fld fl52_0 (gev (hs.ev rfl) hg)) rfl fun ac hs => ?_
  refine s_g hs rfl rfl (fun hg => c_loadS un25 rfl (gev (hs.ev rfl) hg) (hs.seg (i := 0) rfl) rfl) rfl fun ac hs => ?_
  refine s_gcall hs rfl rfl fu12 (fun hg => (.cons (gev (hs.ev rfl) hg) (.cons (gev (hs.ev rfl) hg) (.cons (gev (hs.ev rfl) hg) .nil)))) (fun hg => ref08_Fits W S H d ep _) rfl fun ac ww hf hs => ?_
  refine s_g hs rfl rfl (fun hg => c_not (gev (hs.ev rfl) hg)) rfl fun ac hs => ?_
  refine s_q hs (c_or (hs.ev rfl) (hs.ev rfl)) rfl fun ac hs => ?_
  refine s_end ?_
  replace hs := hs.sub (F' := [(3, _), (4, _), (5, _), (6, _), (23, _)]) ⟨rfl, rfl, rfl, rfl, rfl, trivial⟩
  refine then_n ?_
  refine s_cond hs rfl (fun hc => ?_) (fun hc => ?_)
  · skip
    refine wp_seq ?_
    refine wp_reg ?_
    refine s_call hs fu25 .nil (law09_awake _) rfl fun ac ww v24 hf hp hs => ?_
    obtain rfl := hp
    replace hs := hs [] (.nil _ _)
    refine s_q hs (c_assign (hs.ev rfl)) rfl fun ac hs => ?_
    refine s_end ?_
    replace hs := hs.sub (F' := [(3, _), (4, _), (5, _), (6, _)]) ⟨rfl, rfl, rfl, rfl, trivial⟩
    refine then_n ?_
    refine wp_ret ?_
    refine then_r ?_
    refine s_ret hs rfl (.tmp (hs.tmp rfl) .nil) rfl ⟨_, rfl, hs.fr, ?_⟩
    rfl
  · skip
    have hc2 : spLight W S H = true ∧ spFits W S H d ep = true := by
      simp at hc
      exact hc
    obtain ⟨hlight, hfit⟩ := hc2
    refine wp_skip ?_
    refine then_n ?_
    refine wp_seq ?_
    refine wp_region_rgL pmix 13 (by kernel_rfl) rfl hs ?_
    simp only [List.take_succ_cons, List.take_zero]
    refine rg_q (fun ac ww h => c_loadW ty23 ag23 (h.ev rfl) (h.blk (hs.seg (i := 2) rfl)) (by rfl)) rfl ?_
    refine rg_call fu15 (fun ac ww h => (.cons (h.ev rfl) .nil)) (fun ww hf => law08_To W S H ww) rfl ?_
    refine rg_q (fun ac ww h => c_loadW ty24 rfl (h.ev rfl) (h.blk (hs.seg (i := 1) rfl)) (by rw [List.length_map, hsd])) rfl ?_
    refine rg_q (fun ac ww h => c_fld fl54_0 (h.ev rfl)) rfl ?_
    refine rg_q (fun ac ww h => c_loadS un3 rfl (h.ev rfl) (h.blk (hs.seg (i := 0) rfl)) rfl) rfl ?_
    refine rg_q (fun ac ww h => c_fld fl54_1 (h.ev rfl)) rfl ?_
    refine rg_q (fun ac ww h => c_fld fl52_0 (h.ev rfl)) rfl ?_
    refine rg_q (fun ac ww h => c_loadS un25 rfl (h.ev rfl) (h.blk (hs.seg (i := 0) rfl)) rfl) rfl ?_
    refine rg_callE (tupG [] [I 0] (sprE w.heap.size W S H seed d ep)) sprE.st fu14 (fun ac ww h => ?_) rfl ?_
    · exact ⟨_, .cons (h.ev rfl) (.cons (h.ev rfl) (.cons (h.ev rfl) (.cons (h.ev rfl) (.nil)))), spring_NewE hsd hfit ww w.heap.size (Nat.le_trans hs.fr.size h.fr.size)⟩
    refine rg_moveG rfl rfl rfl ?_
    refine rg_extGe rfl rfl rfl rfl ?_
    refine rg_extGc rfl rfl rfl (fun _ => rfl) ?_
    refine rg_assignE (fun _ => True) rfl rfl (fun _ _ _ _ => trivial) rfl ?_
    refine rg_nil fun ac ww L' hf hfe hs hlk => ?_
    simp only [List.drop_succ_cons, List.drop_zero]
    obtain ⟨v7, L7, M7, h7, e7, ⟨v35, L35, M35, h35, e35, ⟨v25, L25, M25, h25, e25, ⟨v34, L34, M34, h34, e34, rfl, rfl⟩, rfl⟩, rfl⟩, rfl⟩ := hfe
    replace hs := hs.add h7
    replace hs := hs.add h35
    replace hs := hs.add h25
    replace hs := hs.add h34
    obtain ⟨tv34, rfl, e34⟩ := e34
    obtain ⟨-, rfl⟩ := e25
    obtain rfl := lk_move (j := 9) hlk (by decide) rfl (by kernel_rfl) h25 h34
    obtain ⟨-, rfl⟩ := e35
    obtain rfl := lk_ext (j := 10) hlk (by decide) rfl (by kernel_rfl) h35 h25 rfl
    obtain ⟨-, rfl⟩ := e7
    obtain rfl := lk_assign (j := 12) hlk (by decide) rfl (by kernel_rfl) h7 h35
    obtain ⟨rfl, p, hsi, hsp, hg1, hc1, rfl⟩ := e34
    have ho := hsi.ok
    refine s_q hs (c_assign (hs.ev rfl)) rfl fun ac hs => ?_
    refine s_end ?_
    have hb3 := hs.seg (i := 2) rfl
    have hb4 := hs.seg (i := 1) rfl
    have hb5 := hs.seg (i := 0) rfl
    have hfr0 := hs.fr
    have hsN := St.start hs.know ww
    obtain ⟨_, hW, hS, hH, hse, hde, hee⟩ := hsi
    subst hW
    subst hS
    subst hH
    subst hde
    subst hee
    subst hse
    obtain ⟨hR, hd0, hdW, hep⟩ := spFits_iff.1 hfit
    obtain ⟨hlv, hS1, hS16, hH0, hH6⟩ := spRight_iff.1 hR
    have hs := hsN
    replace hs := hs.sub (F' := [(3, _), (4, _), (5, _), (6, _), (7, _)]) ⟨rfl, rfl, rfl, rfl, rfl, trivial⟩
    refine then_n ?_
    refine wp_seq ?_
    refine wp_reg ?_
    refine s_q hs (c_move (hs.ev rfl)) rfl fun ac hs => ?_
    refine s_q hs (c_loadW ty54 ag54 (hs.ev rfl) (hs.old hb5 id) (by rfl)) rfl fun ac hs => ?_
    refine s_call hs fu27 (.cons (hs.ev rfl) .nil) (law09_To p.d mt sn p.ep sq _) rfl fun ac ww v40 hf hp hs => ?_
    obtain rfl := hp
    replace hs := hs [] (.nil _ _)
    cases hcr : clRight p.W p.S p.H p.d mt sn p.ep sq
    · have hfr1 := hfr0.trans0 hs.fr
      have hb3p := hs.old hb3 id
      have hb4p := hs.old hb4 id
      have hb5p := hs.old hb5 id
      have hspP := hsp.fr0 hs.fr
      refine s_callR hs fu26 (.cons (hs.ev rfl) (.cons (hs.ev rfl) .nil)) (proof_Issue p ho _ none p.d mt sn p.ep sq _ hspP) rfl fun ac ww v41 hf hp hs => ?_
      obtain ⟨rfl, _⟩ := (hp.elim (fun h => h.2) fun h => absurd (hcr.symm.trans h.1) (by decide))
      replace hfr0 := over_sp hfr1 hf hg1 hc1
      replace hb3 := keepS hspP hf hb3p
      replace hb4 := keepS hspP hf hb4p
      replace hb5 := keepS hspP hf hb5p
      refine s_q hs (c_move (hs.ev rfl)) rfl fun ac hs => ?_
      refine s_q hs (c_extract (hs.ev rfl) rfl) rfl fun ac hs => ?_
      refine s_q hs (c_extract (hs.ev rfl) rfl) rfl fun ac hs => ?_
      refine s_alloc hs ty56 rfl fun ac ww g9 hs => ?_
      refine s_storeW (i := 0) hs ty56 rfl rfl rfl (by rfl) (by rfl) rfl fun ww hs => ?_
      refine s_q hs (c_assign (hs.ev rfl)) rfl fun ac hs => ?_
      refine s_end ?_
      replace hs := hs.sub (F' := [(3, _), (4, _), (5, _), (6, _), (9, _), (10, _)]) ⟨rfl, rfl, rfl, rfl, rfl, rfl, trivial⟩
      refine then_n ?_
      refine wp_seq ?_
      refine wp_seq ?_
      refine wp_reg ?_
      refine s_q hs (c_loadW ty23 ag23 (hs.ev rfl) (hs.old hb3 id) (by rfl)) rfl fun ac hs => ?_
      refine s_q hs (c_loadW ty54 ag54 (hs.ev rfl) (hs.old hb5 id) (by rfl)) rfl fun ac hs => ?_
      refine s_call hs fu28 (.cons (hs.ev rfl) (.cons (hs.ev rfl) .nil)) (ref09_Right p.W p.S p.H p.d mt sn p.ep sq _) rfl fun ac ww v46 hf hp hs => ?_
      rw [hcr] at hp
      obtain rfl := hp
      replace hs := hs [] (.nil _ _)
      refine s_q hs (c_not (hs.ev rfl)) rfl fun ac hs => ?_
      refine s_end ?_
      replace hs := hs.sub (F' := [(3, _), (4, _), (5, _), (6, _), (9, _), (10, _), (47, _)]) ⟨rfl, rfl, rfl, rfl, rfl, rfl, rfl, trivial⟩
      refine then_n ?_
      refine wp_cond_true (hs.ev rfl) ?_
      refine wp_seq ?_
      refine wp_reg ?_
      refine s_call hs fu25 .nil (law09_awake _) rfl fun ac ww v48 hf hp hs => ?_
      obtain rfl := hp
      replace hs := hs [] (.nil _ _)
      refine s_q hs (c_move (hs.ev rfl)) rfl fun ac hs => ?_
      refine s_yes hs rfl rfl ?_
      refine s_q hs (c_move (hs.ev rfl)) rfl fun ac hs => ?_
      refine s_yes hs rfl rfl ?_
      refine s_q hs (c_tt (c_eqlI (hs.ev rfl) (hs.ev rfl)) (by rfl)) rfl fun ac hs => ?_
      refine s_q hs (c_pick (hs.ev rfl) (hs.ev rfl) (hs.ev rfl)) rfl fun ac hs => ?_
      refine s_q hs (c_move (hs.ev rfl)) rfl fun ac hs => ?_
      refine s_yes hs rfl rfl ?_
      refine s_q hs (c_fld fl56_1 (hs.ev rfl)) rfl fun ac hs => ?_
      refine s_yes hs rfl rfl ?_
      refine s_q hs (c_loadS un39 rfl (hs.ev rfl) (hs.seg (i := 0) rfl) rfl) rfl fun ac hs => ?_
      refine s_yes hs rfl rfl ?_
      refine s_q hs (c_lenS un39 (hs.ev rfl)) rfl fun ac hs => ?_
      refine s_yes hs rfl rfl ?_
      refine s_q hs (c_fld fl56_2 (hs.ev rfl)) rfl fun ac hs => ?_
      refine s_yes hs rfl rfl ?_
      refine s_q hs (c_loadS un39 rfl (hs.ev rfl) (hs.seg (i := 0) rfl) rfl) rfl fun ac hs => ?_
      refine s_yes hs rfl rfl ?_
      refine s_q hs (c_lenS un39 (hs.ev rfl)) rfl fun ac hs => ?_
      refine s_yes hs rfl rfl ?_
      refine s_q hs (c_addI (hs.ev rfl) (hs.ev rfl) (by decide) (by decide)) rfl fun ac hs => ?_
      refine s_yes hs rfl rfl ?_
      refine s_q hs (c_tt (c_eqlI (hs.ev rfl) (hs.ev rfl)) (by rfl)) rfl fun ac hs => ?_
      refine s_q hs (c_pick (hs.ev rfl) (hs.ev rfl) (hs.ev rfl)) rfl fun ac hs => ?_
      refine s_q hs (c_assign (hs.ev rfl)) rfl fun ac hs => ?_
      refine s_end ?_
      replace hs := hs.sub (F' := [(3, _), (4, _), (5, _), (6, _), (9, _), (10, _)]) ⟨rfl, rfl, rfl, rfl, rfl, rfl, trivial⟩
      refine then_n ?_
      refine wp_ret ?_
      refine then_r ?_
      refine s_ret hs rfl (.tmp (hs.tmp rfl) .nil) rfl ⟨_, rfl, (hfr0.trans0 hs.fr), ?_⟩
      rfl
    · obtain ⟨m, rfl⟩ := int_of (clRight_iff.1 hcr).2.2.2.2.2.2.2.1
      have hfr1 := hfr0.trans0 hs.fr
      have hb3p := hs.old hb3 id
      have hb4p := hs.old hb4 id
      have hb5p := hs.old hb5 id
      have hspP := hsp.fr0 hs.fr
      refine s_callR hs fu26 (.cons (hs.ev rfl) (.cons (hs.ev rfl) .nil)) (proof_Issue p ho _ none p.d (m : Int) sn p.ep sq _ hspP) rfl fun ac ww v41 hf hp hs => ?_
      simp only [Int.toNat_natCast] at hp
      obtain ⟨hsm, wv, pv, rfl, hwv, hpv, _, _⟩ := (hp.elim (fun h => absurd (hcr.symm.trans h.1) (by decide)) fun h => h.2)
      replace hfr0 := over_sp hfr1 hf hg1 hc1
      replace hb3 := keepS hspP hf hb3p
      replace hb4 := keepS hspP hf hb4p
      replace hb5 := keepS hspP hf hb5p
      have hwo := hwv.one
      have hpo := hpv.one
      have hsl : (hLf p m sn sq).length = 16 := shL_length _ _ _ _ _ _ _
      have hwl : (hWs p m sn sq).length = (shN (m : Int) p.W sn) * 16 := shW_length _ _ _ _ _ _ _
      have hpl := hPs_length hcr
      have hnw := shN_le (m : Int) p.W sn
      refine s_q hs (c_move (hs.ev rfl)) rfl fun ac hs => ?_
      refine s_q hs (c_extract (hs.ev rfl) rfl) rfl fun ac hs => ?_
      refine s_q hs (c_extract (hs.ev rfl) rfl) rfl fun ac hs => ?_
      refine s_alloc hs ty56 rfl fun ac ww g9 hs => ?_
      refine s_storeW (i := 0) hs ty56 rfl rfl rfl (by simp [shL_length]) (by simp [hwo, hpo]; exact fun x _ => rfl) rfl fun ww hs => ?_
      refine s_q hs (c_assign (hs.ev rfl)) rfl fun ac hs => ?_
      refine s_end ?_
      replace hs := hs.sub (F' := [(3, _), (4, _), (5, _), (6, _), (9, _), (10, _)]) ⟨rfl, rfl, rfl, rfl, rfl, rfl, trivial⟩
      refine then_n ?_
      refine wp_seq ?_
      refine wp_seq ?_
      refine wp_reg ?_
      refine s_q hs (c_loadW ty23 ag23 (hs.ev rfl) (hs.old hb3 id) (by rfl)) rfl fun ac hs => ?_
      refine s_q hs (c_loadW ty54 ag54 (hs.ev rfl) (hs.old hb5 id) (by rfl)) rfl fun ac hs => ?_
      refine s_call hs fu28 (.cons (hs.ev rfl) (.cons (hs.ev rfl) .nil)) (ref09_Right p.W p.S p.H p.d (m : Int) sn p.ep sq _) rfl fun ac ww v46 hf hp hs => ?_
      rw [hcr] at hp
      obtain rfl := hp
      replace hs := hs [] (.nil _ _)
      refine s_q hs (c_not (hs.ev rfl)) rfl fun ac hs => ?_
      refine s_end ?_
      replace hs := hs.sub (F' := [(3, _), (4, _), (5, _), (6, _), (9, _), (10, _), (47, _)]) ⟨rfl, rfl, rfl, rfl, rfl, rfl, rfl, trivial⟩
      refine then_n ?_
      refine wp_cond_false (hs.ev rfl) ?_
      refine wp_skip ?_
      refine then_n ?_
      refine wp_seq ?_
      refine wp_region_rg pmix 11 (by kernel_rfl) rfl hs ?_
      simp only [List.take_succ_cons, List.take_zero]
      refine rg_call fu25 (fun ac ww h => .nil) (fun ww hf => law09_awake ww) rfl ?_
      refine rg_q (fun ac ww h => c_move (h.ev rfl)) rfl ?_
      refine rg_yes rfl rfl (fun ac ww h => c_move (h.ev rfl)) rfl ?_
      refine rg_yes rfl rfl (fun ac ww h => c_tt (c_eqlI (h.ev rfl) (h.ev rfl)) (by rfl)) rfl ?_
      refine rg_q (fun ac ww h => c_pick (h.ev rfl) (h.ev rfl) (h.ev rfl)) rfl ?_
      refine rg_q (fun ac ww h => c_move (h.ev rfl)) rfl ?_
      refine rg_yes rfl rfl (fun ac ww h => c_loadW ty56 ag56 (h.ev rfl) (h.blk (hs.seg (i := 0) rfl)) (by simp [hsl])) rfl ?_
      refine rg_strip rfl rfl ?_
      refine rg_callE (crE 35 (hLf p m sn sq) (shN (m : Int) p.W sn) (hWs p m sn sq) p.H (hPs p sq)) (fun _ _ _ _ _ h => h) fu30 (fun ac ww h => ?_) rfl ?_
      · exact ⟨_, .cons (h.ev rfl) (.nil), law09_FromCred _ _ _ _ _ _ _ hsl hwl hpl (by omega) (by omega) _ (hwv.fr0 (hs.fr.trans0 h.fr)) (hpv.fr0 (hs.fr.trans0 h.fr))⟩
      refine rg_yes rfl rfl (fun ac ww h => c_loadW ty23 ag23 (h.ev rfl) (h.blk (hs.old hb3 id)) (by rfl)) rfl ?_
      refine rg_yes rfl rfl (fun ac ww h => c_loadW ty24 rfl (h.ev rfl) (h.blk (hs.old hb4 id)) (by rw [List.length_map, hsd])) rfl ?_
      refine rg_yes rfl rfl (fun ac ww h => c_loadW ty54 ag54 (h.ev rfl) (h.blk (hs.old hb5 id)) (by rfl)) rfl ?_
      refine rg_nil fun ac ww L' hf hfe hs => ?_
      simp only [List.drop_succ_cons, List.drop_zero]
      obtain ⟨v70, L70, M70, h70, e70, rfl, rfl⟩ := hfe
      replace hs := hs.add h70
      obtain ⟨wv1, pv1, rfl, rfl⟩ := e70
      refine s_yes hs rfl rfl ?_
      refine s_call hs fu31 (.cons (hs.ev rfl) (.cons (hs.ev rfl) (.cons (hs.ev rfl) .nil))) (ref09_Issue p ho m sn sq hcr _) rfl fun ac ww v74 hf hp hs => ?_
      obtain ⟨L', ⟨wv2, pv2, rfl, rfl⟩, hh⟩ := hp
      replace hs := hs _ hh
      refine s_yes hs rfl rfl ?_
      refine s_call hs fu29 (.cons (hs.ev rfl) (.cons (hs.ev rfl) .nil)) (ref09_SameCredY _ _ _ _ _ _ _ _ _ hsl hwl hpl _ (Rd.of_row (hs.get (i := 3) rfl)) (Rd.of_row (hs.get (i := 2) rfl)) (Rd.of_row (hs.get (i := 1) rfl)) (Rd.of_row (hs.get (i := 0) rfl))) rfl fun ac ww v75 hf hp hs => ?_
      obtain rfl := hp
      replace hs := hs [] (.nil _ _)
      refine s_q hs (c_pick (hs.ev rfl) (hs.ev rfl) (hs.ev rfl)) rfl fun ac hs => ?_
      refine s_q hs (c_assign (hs.ev rfl)) rfl fun ac hs => ?_
      refine s_end ?_
      replace hs := hs.sub (F' := [(6, _)]) ⟨rfl, trivial⟩
      refine then_n ?_
      refine wp_ret ?_
      refine s_ret hs rfl (.tmp (hs.tmp rfl) .nil) rfl ⟨_, rfl, (hfr0.trans0 hs.fr), ?_⟩
      rfl
end Go.Proofs.YtklajbdbnnceiaaGreat
end

section
/- The opening of a struct of five cells: an int, a struct (uint32, uint32, int), an int. -/
set_option linter.unusedSimpArgs false
set_option linter.unusedVariables false
namespace Go.Fw
section
open Go Go.ChangeShapes Go.WideShapes Go.ChangeAt Go.RowKit
variable {H : Type} {enc : TypeId × Value → H} {P : Program} {w : World} {base : Nat} {spare : Nat → Bool} {held : Bool} {fuel : Nat} {t e u : TypeId} {cs : List Value} {x : DataW H × List MemPlace} {v : Value} {d : DataW H} {ps : List MemPlace} {r : Reach} {b0 : Nat}
theorem opIK {f0 f1 f2 g0 g1 g2 : Field} (ht : P.underlying t = some (.struct #[f0, f1, f2])) (h0 : P.underlying f0.type = some (.int .i64)) (h1 : P.underlying f1.type = some (.struct #[g0, g1, g2])) (h2 : P.underlying f2.type = some (.int .i64))
    (k0 : P.underlying g0.type = some (.int .u32)) (k1 : P.underlying g1.type = some (.int .u32)) (k2 : P.underlying g2.type = some (.int .i64)) (o0 : f0.offset = 0) (o1 : f1.offset = 1) (o2 : f2.offset = 4) (p0 : g0.offset = 0) (p1 : g1.offset = 1) (p2 : g2.offset = 2)
    (c0 : P.cellsOf f0.type = 1) (c1 : P.cellsOf f1.type = 3) (c2 : P.cellsOf f2.type = 1) (ct : P.cellsOf t = 5) (d0 : P.cellsOf g0.type = 1) (d1 : P.cellsOf g1.type = 1) (d2 : P.cellsOf g2.type = 1) (hval : Value.okWide P w r b0 t v) (hd : DataW.Trod enc P w base spare held t v d ps) :
    ∃ (n : Int) (ep sq : UInt32) (i j : Int), v = .agg #[I n, U ep, U sq, I i, I j] ∧ (-9223372036854775808 ≤ n ∧ n ≤ 9223372036854775807) ∧ (-9223372036854775808 ≤ i ∧ i ≤ 9223372036854775807) ∧ (-9223372036854775808 ≤ j ∧ j ≤ 9223372036854775807) := by
  obtain ⟨cs, rfl, _⟩ := okWide_struct ht hval
  obtain ⟨fu, hf⟩ := hd
  obtain ⟨y0, y1, y2, n, _, hl, hy0, hy1, hy2⟩ := Go.Deep.trod_struct3 ht hf
  obtain ⟨z0, z1, z2, m, _, hl1, hz0, hz1, hz2⟩ := Go.Deep.trod_struct3 h1 hy1
  simp only [Value.cells] at hl hy0 hy1 hy2 hz0 hz1 hz2
  rw [ct] at hl
  match hcs : cs.toList, hl with
  | [a, b, c, e, f], _ =>
    rw [hcs, o0, c0] at hy0
    rw [hcs, o2, c2] at hy2
    rw [hcs, o1, c1, p0, d0] at hz0
    rw [hcs, o1, c1, p1, d1] at hz1
    rw [hcs, o1, c1, p2, d2] at hz2
    obtain ⟨z, hz, _, hw⟩ := DataW.trod_int h0 hy0
    obtain ⟨ze, hze, _, hwe⟩ := DataW.trod_int k0 hz0
    obtain ⟨zs, hzs, _, hws⟩ := DataW.trod_int k1 hz1
    obtain ⟨zm, hzm, _, hwm⟩ := DataW.trod_int k2 hz2
    obtain ⟨zn, hzn, _, hwn⟩ := DataW.trod_int h2 hy2
    simp at hz hze hzs hzm hzn
    subst hz hze hzs hzm hzn
    obtain ⟨ep, hep⟩ := ofU hwe
    obtain ⟨sq, hsq⟩ := ofU hws
    refine ⟨z, ep, sq, zm, zn, ?_, bounds_i64 hw, bounds_i64 hwm, bounds_i64 hwn⟩
    congr 1
    apply Array.ext'
    rw [hcs, ← hep, ← hsq]
end
end Go.Fw
end
