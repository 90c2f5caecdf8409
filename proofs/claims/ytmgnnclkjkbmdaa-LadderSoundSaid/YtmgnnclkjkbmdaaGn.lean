/- Own texts of this seat, laid together: LadF, Fw37, LadG. -/
import Derived.Test.YtmgnnclkjkbmdaaGa
import Derived.Test.YtmgnnclkjkbmdaaGb
import Derived.Test.YtmgnnclkjkbmdaaGc
import Derived.Test.YtmgnnclkjkbmdaaGd
import Derived.Test.YtmgnnclkjkbmdaaGe
import Derived.Test.YtmgnnclkjkbmdaaGf
import Derived.Test.YtmgnnclkjkbmdaaGg
import Derived.Test.YtmgnnclkjkbmdaaGh
import Derived.Test.YtmgnnclkjkbmdaaGi
import Derived.Test.YtmgnnclkjkbmdaaGj
import Derived.Test.YtmgnnclkjkbmdaaGk
import Derived.Test.YtmgnnclkjkbmdaaGl
import Derived.Test.YtmgnnclkjkbmdaaGm
/- Climbing. -/
section
set_option linter.unusedSimpArgs false
set_option linter.unusedVariables false
set_option maxRecDepth 100000
namespace Go.Proofs.Ytmgnnclkjkbmdaa
open Go Go.Fw

open Sha
/-- n rungs on from rung r. -/
def climbN (d : Int) (ep sq : UInt32) (e : List UInt8) (r x : Int) : Nat → List UInt8
  | 0 => e
  | n + 1 => upB d ep sq (r + n) (climbN d ep sq e r x n) x
theorem climbN_length {d : Int} {ep sq : UInt32} {e : List UInt8} {r x : Int} (he : e.length = 16) : ∀ n, (climbN d ep sq e r x n).length = 16
  | 0 => he
  | n + 1 => upB_length _ _ _ _ _ _
theorem climbN_add (d : Int) (ep sq : UInt32) (e : List UInt8) (r x : Int) (m : Nat) : ∀ n, climbN d ep sq e r x (m + n) = climbN d ep sq (climbN d ep sq e r x m) (r + m) x n
  | 0 => rfl
  | n + 1 => by
    rw [← Nat.add_assoc]
    simp only [climbN, climbN_add d ep sq e r x m n]
    rw [Int.add_assoc]
    simp
def climbOk (fr to x : Int) : Bool := decide (0 ≤ fr) && decide (to ≤ 16) && decide (fr ≤ to) && decide (0 ≤ levels x)
def climbB (d : Int) (ep sq : UInt32) (e : List UInt8) (fr to x : Int) : List UInt8 := if climbOk fr to x = true then climbN d ep sq e fr x (to - fr).toNat else List.replicate 16 0
def climbE (fr to x : Int) : Int := if climbOk fr to x = true then 0 else 1
theorem climbB_length {d : Int} {ep sq : UInt32} {e : List UInt8} {fr to x : Int} (he : e.length = 16) : (climbB d ep sq e fr to x).length = 16 := by
  unfold climbB
  split
  · exact climbN_length he _
  · simp
theorem climbOk_iff {fr to x : Int} : climbOk fr to x = true ↔ 0 ≤ fr ∧ to ≤ 16 ∧ fr ≤ to ∧ 0 ≤ levels x := by
  unfold climbOk
  simp only [Bool.and_eq_true, decide_eq_true_iff, and_assoc]
theorem climb_two {d : Int} {ep sq : UInt32} {e : List UInt8} {fr mid to x : Int} (h1 : climbOk fr mid x = true) (h2 : climbOk mid to x = true) : climbOk fr to x = true ∧ climbB d ep sq (climbB d ep sq e fr mid x) mid to x = climbB d ep sq e fr to x := by
  have g1 := climbOk_iff.1 h1
  have g2 := climbOk_iff.1 h2
  have h3 : climbOk fr to x = true := climbOk_iff.2 ⟨g1.1, g2.2.1, by omega, g1.2.2.2⟩
  refine ⟨h3, ?_⟩
  have e1 : climbB d ep sq e fr mid x = climbN d ep sq e fr x (mid - fr).toNat := if_pos h1
  rw [e1]
  have e2 : ∀ f, climbB d ep sq f mid to x = climbN d ep sq f mid x (to - mid).toNat := fun f => if_pos h2
  rw [e2]
  have e3 : climbB d ep sq e fr to x = climbN d ep sq e fr x (to - fr).toNat := if_pos h3
  rw [e3, show (to - fr).toNat = (mid - fr).toNat + (to - mid).toNat from by omega, climbN_add, show fr + ((mid - fr).toNat : Int) = mid from by omega]

-- ladder.Climb
set_option maxHeartbeats 4000000 in
theorem ladder_Climb (d : Int) (ep sq : UInt32) (e : List UInt8) (fr to x : Int) (hel : e.length = 16) (hfr : -9223372036854775808 ≤ fr) (hto : to ≤ 9223372036854775807) (w : World)  : Ctr Try.prog 84 [.agg #[I d, U ep, U sq], .agg (e.map B).toArray, I fr, I to, I x] w (fun _ => False) (fun v _ => v = .tuple #[.agg ((climbB d ep sq e fr to x).map B).toArray, I (climbE fr to x)]) := by
  refine fn_start (N := 45) Try.func84 rfl rfl rfl fun ac hk => ?_
  have hs := St.start hk w
  refine wp_seq ?_
  refine wp_reg ?_
  refine s_box hs rfl rfl rfl fun ac ww g5 hs => ?_
  refine s_box hs rfl rfl rfl fun ac ww g6 hs => ?_
  refine s_alloc hs ty54 rfl fun ac ww g10 hs => ?_
  refine s_q hs (c_assign (hs.ev rfl)) rfl fun ac hs => ?_
  refine s_end ?_
  replace hs := hs.sub (F' := [(2, _), (3, _), (4, _), (5, _), (6, _), (10, _), (11, _)]) ⟨rfl, rfl, rfl, rfl, rfl, rfl, rfl, trivial⟩
  refine then_n ?_
  refine wp_seq ?_
  refine wp_seq ?_
  refine wp_reg ?_
  refine s_q hs (c_move (hs.ev rfl)) rfl fun ac hs => ?_
  refine s_q hs (c_lssI (hs.ev rfl) (hs.ev rfl)) rfl fun ac hs => ?_
  refine s_q hs (c_move (hs.ev rfl)) rfl fun ac hs => ?_
  refine s_g hs rfl rfl (fun hg => c_move (hs.ev rfl)) rfl fun ac hs => ?_
  refine s_g hs rfl rfl (fun hg => c_gtrI (gev (hs.ev rfl) hg) (hs.ev rfl)) rfl fun ac hs => ?_
  refine s_q hs (c_or (hs.ev rfl) (hs.ev rfl)) rfl fun ac hs => ?_
  refine s_q hs (c_move (hs.ev rfl)) rfl fun ac hs => ?_
  refine s_g hs rfl rfl (fun hg => c_move (hs.ev rfl)) rfl fun ac hs => ?_
  refine s_g hs rfl rfl (fun hg => c_move (hs.ev rfl)) rfl fun ac hs => ?_
  refine s_g hs rfl rfl (fun hg => c_gtrI (gev (hs.ev rfl) hg) (gev (hs.ev rfl) hg)) rfl fun ac hs => ?_
  refine s_q hs (c_or (hs.ev rfl) (hs.ev rfl)) rfl fun ac hs => ?_
  refine s_q hs (c_move (hs.ev rfl)) rfl fun ac hs => ?_
  refine s_g hs rfl rfl (fun hg => c_move (hs.ev rfl)) rfl fun ac hs => ?_
  refine s_gcall hs rfl rfl fu75 (fun hg => (.cons (gev (hs.ev rfl) hg) .nil)) (fun hg => ladder_Levels x _) rfl fun ac ww hf hs => ?_
  refine s_g hs rfl rfl (fun hg => c_lssI (gev (hs.ev rfl) hg) (hs.ev rfl)) rfl fun ac hs => ?_
  refine s_q hs (c_or (hs.ev rfl) (hs.ev rfl)) rfl fun ac hs => ?_
  refine s_end ?_
  replace hs := hs.sub (F' := [(2, _), (3, _), (4, _), (5, _), (6, _), (10, _), (11, _), (28, _)]) ⟨rfl, rfl, rfl, rfl, rfl, rfl, rfl, rfl, trivial⟩
  refine then_n ?_
  refine s_cond hs rfl (fun hc => ?_) (fun hc => ?_)
  · skip
    have hno : ¬ climbOk fr to x = true := fun h => by
      have g := climbOk_iff.1 h
      simp only [Bool.or_eq_true, decide_eq_true_eq] at hc
      omega
    refine wp_seq ?_
    refine wp_reg ?_
    refine s_q hs (c_buildA ty54 un54 ty5 (zc := (List.replicate 16 (0 : UInt8)).map B) (vs := []) .nil (by simp) (by simp [flatCells]) rfl) rfl fun ac hs => ?_
    refine s_storeW (i := 0) hs ty54 rfl rfl rfl (by simp) (all_map_B _) rfl fun ww hs => ?_
    refine s_q hs (c_assign (hs.ev rfl)) rfl fun ac hs => ?_
    refine s_end ?_
    replace hs := hs.sub (F' := [(2, _), (3, _), (4, _), (5, _), (6, _), (10, _), (11, _)]) ⟨rfl, rfl, rfl, rfl, rfl, rfl, rfl, trivial⟩
    refine then_n ?_
    refine wp_ret ?_
    refine then_r ?_
    refine s_ret hs rfl (.cell (hs.tmp rfl) (run_loadA ty54 rfl (hs.seg (i := 0) rfl) (List.take_of_length_le (by simp)) (by simp)) (.tmp (hs.tmp rfl) .nil)) rfl ⟨_, rfl, hs.fr, ?_⟩
    show Value.tuple _ = Value.tuple _
    rw [climbB, climbE, if_neg hno, if_neg hno]
    rfl
  · skip
    have hyes : climbOk fr to x = true := climbOk_iff.2 (by
      simp only [Bool.or_eq_false_iff, decide_eq_false_iff_not] at hc
      omega)
    have g := climbOk_iff.1 hyes
    refine wp_skip ?_
    refine then_n ?_
    refine wp_seq ?_
    refine wp_seq ?_
    refine wp_reg ?_
    refine s_q hs (c_move (hs.ev rfl)) rfl fun ac hs => ?_
    refine s_q hs (c_assign (hs.ev rfl)) rfl fun ac hs => ?_
    refine s_end ?_
    replace hs := hs.sub (F' := [(3, _), (4, _), (5, _), (6, _), (10, _), (11, _), (12, _)]) ⟨rfl, rfl, rfl, rfl, rfl, rfl, rfl, trivial⟩
    refine then_n ?_
    refine wp_block ?_
    refine s_loop hs (X := Nat) (fun k => [(12, I (fr + k))]) [(3, _), (4, _), (5, _), (6, _), (10, _), (11, _)] (fun k => [_, .seg g6 ((climbN d ep sq e fr x k).map B) 54, _]) (fun n k => (k : Int) ≤ to - fr ∧ n = (to - fr).toNat - k) (_) (0) (⟨by omega, rfl⟩) ⟨(congrArg (fun z => some (I z)) (by omega)), rfl, rfl, rfl, rfl, rfl, rfl, trivial⟩ rfl ?_
    rintro n k ac ww hok hs
    simp only [List.cons_append, List.nil_append] at hs
    obtain ⟨hk, rfl⟩ := hok
    have hcl := climbN_length (d := d) (ep := ep) (sq := sq) (r := fr) (x := x) hel k
    refine wp_seq ?_
    refine wp_seq ?_
    refine wp_reg ?_
    refine s_q hs (c_move (hs.ev rfl)) rfl fun ac hs => ?_
    refine s_q hs (c_move (hs.ev rfl)) rfl fun ac hs => ?_
    refine s_q hs (c_lssI (hs.ev rfl) (hs.ev rfl)) rfl fun ac hs => ?_
    refine s_end ?_
    refine then_n ?_
    refine s_cond hs rfl (fun hc => ?_) (fun hc => ?_)
    · try simp only [decide_eq_true_eq, decide_eq_false_iff_not, Bool.not_eq_true', Bool.not_eq_false', Bool.and_eq_true, Bool.or_eq_true, Bool.or_eq_false_iff] at hc
      refine wp_skip ?_
      refine then_n ?_
      refine wp_seq ?_
      refine wp_block ?_
      refine wp_reg ?_
      refine s_q hs (c_loadW ty84 ag84 (hs.ev rfl) (hs.seg (i := 2) rfl) (by rfl)) rfl fun ac hs => ?_
      refine s_q hs (c_move (hs.ev rfl)) rfl fun ac hs => ?_
      refine s_q hs (c_loadW ty54 rfl (hs.ev rfl) (hs.seg (i := 1) rfl) (by rw [List.length_map, hcl])) rfl fun ac hs => ?_
      refine s_q hs (c_move (hs.ev rfl)) rfl fun ac hs => ?_
      refine s_call hs fu67 (.cons (hs.ev rfl) (.cons (hs.ev rfl) (.cons (hs.ev rfl) (.cons (hs.ev rfl) .nil)))) (ladder_Up d ep sq (fr + k) (climbN d ep sq e fr x k) x hcl _) rfl fun ac ww v41 hf hp hs => ?_
      obtain rfl := hp
      replace hs := hs [] (.nil _ _)
      refine s_q hs (c_move (hs.ev rfl)) rfl fun ac hs => ?_
      refine s_q hs (c_extract (hs.ev rfl) rfl) rfl fun ac hs => ?_
      refine s_q hs (c_extract (hs.ev rfl) rfl) rfl fun ac hs => ?_
      refine s_storeW (i := 1) hs ty54 rfl rfl rfl (by rw [List.length_map, upB_length]) (all_map_B _) (by rw [List.length_map, hcl]) fun ww hs => ?_
      refine s_end ?_
      replace hs := hs.sub (F' := [(3, _), (4, _), (5, _), (6, _), (10, _), (11, _), (12, _), (31, _), (32, _), (33, _), (36, _), (37, _), (38, _), (39, _), (40, _), (41, _), (42, _)]) ⟨rfl, rfl, rfl, rfl, rfl, rfl, rfl, rfl, rfl, rfl, rfl, rfl, rfl, rfl, rfl, rfl, rfl, trivial⟩
      refine blk_n ?_
      refine then_n ?_
      refine wp_reg ?_
      refine s_q hs (c_move (hs.ev rfl)) rfl fun ac hs => ?_
      refine s_q hs (c_addI (hs.ev rfl) (hs.ev rfl) (by omega) (by omega)) rfl fun ac hs => ?_
      refine s_q hs (c_assign (hs.ev rfl)) rfl fun ac hs => ?_
      refine s_end ?_
      refine then_n ?_
      exact ⟨(to - fr).toNat - (k + 1), by omega, k + 1, ⟨by omega, rfl⟩, St.next hs ⟨(congrArg (fun z => some (I z)) (by omega)), rfl, rfl, rfl, rfl, rfl, rfl, trivial⟩ rfl⟩
    · try simp only [decide_eq_true_eq, decide_eq_false_iff_not, Bool.not_eq_true', Bool.not_eq_false', Bool.and_eq_true, Bool.or_eq_true, Bool.or_eq_false_iff] at hc
      have hkt : (to - fr).toNat = k := by omega
      refine wp_exit ?_
      refine then_e ?_
      refine then_e ?_
      refine blk_hit ?_
      refine then_n ?_
      refine wp_seq ?_
      refine wp_reg ?_
      refine s_q hs (c_loadW ty54 rfl (hs.ev rfl) (hs.seg (i := 1) rfl) (by rw [List.length_map, hcl])) rfl fun ac hs => ?_
      refine s_storeW (i := 0) hs ty54 rfl rfl rfl (by rw [List.length_map, hcl]) (all_map_B _) rfl fun ww hs => ?_
      refine s_q hs (c_assign (hs.ev rfl)) rfl fun ac hs => ?_
      refine s_end ?_
      replace hs := hs.sub (F' := [(10, _), (11, _)]) ⟨rfl, rfl, trivial⟩
      refine then_n ?_
      refine wp_ret ?_
      refine s_ret hs rfl (.cell (hs.tmp rfl) (run_loadA ty54 rfl (hs.seg (i := 0) rfl) (List.take_of_length_le (show (List.map B (climbN d ep sq e fr x k)).length ≤ 16 by rw [List.length_map, climbN_length hel]; exact Nat.le_refl _)) (show (List.map B (climbN d ep sq e fr x k)).length = 16 by rw [List.length_map, climbN_length hel])) (.tmp (hs.tmp rfl) .nil)) rfl ⟨_, rfl, hs.fr, ?_⟩
      show Value.tuple _ = Value.tuple _
      rw [climbB, climbE, if_pos hyes, if_pos hyes, hkt]
      rfl

-- fingerpostref06.Climb
set_option maxHeartbeats 4000000 in
theorem ref06_Climb (d : Int) (ep sq : UInt32) (e : List UInt8) (fr to x : Int) (hel : e.length = 16) (hfr : -9223372036854775808 ≤ fr) (hto : to ≤ 9223372036854775807) (w : World)  : Ctr Try.prog 85 [.agg #[I d, U ep, U sq], .agg (e.map B).toArray, I fr, I to, I x] w (fun _ => False) (fun v _ => v = .tuple #[.agg ((climbB d ep sq e fr to x).map B).toArray, I (climbE fr to x)]) := by
  refine fn_start (N := 48) Try.func85 rfl rfl rfl fun ac hk => ?_
  have hs := St.start hk w
  refine wp_seq ?_
  refine wp_reg ?_
  refine s_box hs rfl rfl rfl fun ac ww g5 hs => ?_
  refine s_box hs rfl rfl rfl fun ac ww g6 hs => ?_
  refine s_alloc hs ty22 rfl fun ac ww g10 hs => ?_
  refine s_q hs (c_assign (hs.ev rfl)) rfl fun ac hs => ?_
  refine s_end ?_
  replace hs := hs.sub (F' := [(2, _), (3, _), (4, _), (5, _), (6, _), (10, _), (11, _)]) ⟨rfl, rfl, rfl, rfl, rfl, rfl, rfl, trivial⟩
  refine then_n ?_
  refine wp_seq ?_
  refine wp_seq ?_
  refine wp_reg ?_
  refine s_q hs (c_move (hs.ev rfl)) rfl fun ac hs => ?_
  refine s_q hs (c_lssI (hs.ev rfl) (hs.ev rfl)) rfl fun ac hs => ?_
  refine s_q hs (c_move (hs.ev rfl)) rfl fun ac hs => ?_
  refine s_g hs rfl rfl (fun hg => c_move (hs.ev rfl)) rfl fun ac hs => ?_
  refine s_g hs rfl rfl (fun hg => c_gtrI (gev (hs.ev rfl) hg) (hs.ev rfl)) rfl fun ac hs => ?_
  refine s_q hs (c_or (hs.ev rfl) (hs.ev rfl)) rfl fun ac hs => ?_
  refine s_q hs (c_move (hs.ev rfl)) rfl fun ac hs => ?_
  refine s_g hs rfl rfl (fun hg => c_move (hs.ev rfl)) rfl fun ac hs => ?_
  refine s_g hs rfl rfl (fun hg => c_move (hs.ev rfl)) rfl fun ac hs => ?_
  refine s_g hs rfl rfl (fun hg => c_gtrI (gev (hs.ev rfl) hg) (gev (hs.ev rfl) hg)) rfl fun ac hs => ?_
  refine s_q hs (c_or (hs.ev rfl) (hs.ev rfl)) rfl fun ac hs => ?_
  refine s_q hs (c_move (hs.ev rfl)) rfl fun ac hs => ?_
  refine s_g hs rfl rfl (fun hg => c_move (hs.ev rfl)) rfl fun ac hs => ?_
  refine s_gcall hs rfl rfl fu76 (fun hg => (.cons (gev (hs.ev rfl) hg) .nil)) (fun hg => ref06_Levels x _) rfl fun ac ww hf hs => ?_
  refine s_g hs rfl rfl (fun hg => c_lssI (gev (hs.ev rfl) hg) (hs.ev rfl)) rfl fun ac hs => ?_
  refine s_q hs (c_or (hs.ev rfl) (hs.ev rfl)) rfl fun ac hs => ?_
  refine s_end ?_
  replace hs := hs.sub (F' := [(2, _), (3, _), (4, _), (5, _), (6, _), (10, _), (11, _), (30, _)]) ⟨rfl, rfl, rfl, rfl, rfl, rfl, rfl, rfl, trivial⟩
  refine then_n ?_
  refine s_cond hs rfl (fun hc => ?_) (fun hc => ?_)
  · skip
    have hno : ¬ climbOk fr to x = true := fun h => by
      have g := climbOk_iff.1 h
      simp only [Bool.or_eq_true, decide_eq_true_eq] at hc
      omega
    refine wp_seq ?_
    refine wp_reg ?_
    refine s_q hs (c_buildA ty22 un22 ty5 (zc := (List.replicate 16 (0 : UInt8)).map B) (vs := []) .nil (by simp) (by simp [flatCells]) rfl) rfl fun ac hs => ?_
    refine s_storeW (i := 0) hs ty22 rfl rfl rfl (by simp) (all_map_B _) rfl fun ww hs => ?_
    refine s_q hs (c_assign (hs.ev rfl)) rfl fun ac hs => ?_
    refine s_end ?_
    replace hs := hs.sub (F' := [(2, _), (3, _), (4, _), (5, _), (6, _), (10, _), (11, _)]) ⟨rfl, rfl, rfl, rfl, rfl, rfl, rfl, trivial⟩
    refine then_n ?_
    refine wp_ret ?_
    refine then_r ?_
    refine s_ret hs rfl (.cell (hs.tmp rfl) (run_loadA ty22 rfl (hs.seg (i := 0) rfl) (List.take_of_length_le (by simp)) (by simp)) (.tmp (hs.tmp rfl) .nil)) rfl ⟨_, rfl, hs.fr, ?_⟩
    show Value.tuple _ = Value.tuple _
    rw [climbB, climbE, if_neg hno, if_neg hno]
    rfl
  · skip
    have hyes : climbOk fr to x = true := climbOk_iff.2 (by
      simp only [Bool.or_eq_false_iff, decide_eq_false_iff_not] at hc
      omega)
    have g := climbOk_iff.1 hyes
    refine wp_skip ?_
    refine then_n ?_
    refine wp_seq ?_
    refine wp_seq ?_
    refine wp_reg ?_
    refine s_q hs (c_move (hs.ev rfl)) rfl fun ac hs => ?_
    refine s_q hs (c_assign (hs.ev rfl)) rfl fun ac hs => ?_
    refine s_end ?_
    replace hs := hs.sub (F' := [(3, _), (4, _), (5, _), (6, _), (10, _), (11, _), (12, _)]) ⟨rfl, rfl, rfl, rfl, rfl, rfl, rfl, trivial⟩
    refine then_n ?_
    refine wp_block ?_
    refine s_loop hs (X := Nat) (fun k => [(12, I (fr + k))]) [(3, _), (4, _), (5, _), (6, _), (10, _), (11, _)] (fun k => [_, .seg g6 ((climbN d ep sq e fr x k).map B) 22, _]) (fun n k => (k : Int) ≤ to - fr ∧ n = (to - fr).toNat - k) (_) (0) (⟨by omega, rfl⟩) ⟨(congrArg (fun z => some (I z)) (by omega)), rfl, rfl, rfl, rfl, rfl, rfl, trivial⟩ rfl ?_
    rintro n k ac ww hok hs
    simp only [List.cons_append, List.nil_append] at hs
    obtain ⟨hk, rfl⟩ := hok
    have hcl := climbN_length (d := d) (ep := ep) (sq := sq) (r := fr) (x := x) hel k
    refine wp_seq ?_
    refine wp_seq ?_
    refine wp_reg ?_
    refine s_q hs (c_move (hs.ev rfl)) rfl fun ac hs => ?_
    refine s_q hs (c_move (hs.ev rfl)) rfl fun ac hs => ?_
    refine s_q hs (c_lssI (hs.ev rfl) (hs.ev rfl)) rfl fun ac hs => ?_
    refine s_end ?_
    refine then_n ?_
    refine s_cond hs rfl (fun hc => ?_) (fun hc => ?_)
    · try simp only [decide_eq_true_eq, decide_eq_false_iff_not, Bool.not_eq_true', Bool.not_eq_false', Bool.and_eq_true, Bool.or_eq_true, Bool.or_eq_false_iff] at hc
      refine wp_skip ?_
      refine then_n ?_
      refine wp_seq ?_
      refine wp_block ?_
      refine wp_seq ?_
      refine wp_reg ?_
      refine s_q hs (c_loadW ty81 ag81 (hs.ev rfl) (hs.seg (i := 2) rfl) (by rfl)) rfl fun ac hs => ?_
      refine s_q hs (c_move (hs.ev rfl)) rfl fun ac hs => ?_
      refine s_q hs (c_loadW ty22 rfl (hs.ev rfl) (hs.seg (i := 1) rfl) (by rw [List.length_map, hcl])) rfl fun ac hs => ?_
      refine s_q hs (c_move (hs.ev rfl)) rfl fun ac hs => ?_
      refine s_call hs fu69 (.cons (hs.ev rfl) (.cons (hs.ev rfl) (.cons (hs.ev rfl) (.cons (hs.ev rfl) .nil)))) (ref06_Up d ep sq (fr + k) (climbN d ep sq e fr x k) x hcl _) rfl fun ac ww v43 hf hp hs => ?_
      obtain rfl := hp
      replace hs := hs [] (.nil _ _)
      refine s_q hs (c_move (hs.ev rfl)) rfl fun ac hs => ?_
      refine s_q hs (c_extract (hs.ev rfl) rfl) rfl fun ac hs => ?_
      refine s_q hs (c_extract (hs.ev rfl) rfl) rfl fun ac hs => ?_
      refine s_alloc hs ty22 rfl fun ac ww g13 hs => ?_
      refine s_storeW (i := 0) hs ty22 rfl rfl rfl (by rw [List.length_map, upB_length]) (all_map_B _) rfl fun ww hs => ?_
      refine s_q hs (c_assign (hs.ev rfl)) rfl fun ac hs => ?_
      refine s_end ?_
      replace hs := hs.sub (F' := [(3, _), (4, _), (5, _), (6, _), (10, _), (11, _), (12, _), (13, _), (33, _), (34, _), (35, _), (38, _), (39, _), (40, _), (41, _), (42, _), (43, _), (44, _), (45, _)]) ⟨rfl, rfl, rfl, rfl, rfl, rfl, rfl, rfl, rfl, rfl, rfl, rfl, rfl, rfl, rfl, rfl, rfl, rfl, rfl, trivial⟩
      refine then_n ?_
      refine wp_reg ?_
      refine s_q hs (c_loadW ty22 rfl (hs.ev rfl) (hs.seg (i := 0) rfl) (by rw [List.length_map, upB_length])) rfl fun ac hs => ?_
      refine s_storeW (i := 2) hs ty22 rfl rfl rfl (by rw [List.length_map, upB_length]) (all_map_B _) (by rw [List.length_map, hcl]) fun ww hs => ?_
      refine s_end ?_
      replace hs := hs.pick (L' := [_, _, _]) (.cons _ (.refl _))
      refine blk_n ?_
      refine then_n ?_
      refine wp_reg ?_
      refine s_q hs (c_move (hs.ev rfl)) rfl fun ac hs => ?_
      refine s_q hs (c_addI (hs.ev rfl) (hs.ev rfl) (by omega) (by omega)) rfl fun ac hs => ?_
      refine s_q hs (c_assign (hs.ev rfl)) rfl fun ac hs => ?_
      refine s_end ?_
      refine then_n ?_
      exact ⟨(to - fr).toNat - (k + 1), by omega, k + 1, ⟨by omega, rfl⟩, St.next hs ⟨(congrArg (fun z => some (I z)) (by omega)), rfl, rfl, rfl, rfl, rfl, rfl, trivial⟩ rfl⟩
    · try simp only [decide_eq_true_eq, decide_eq_false_iff_not, Bool.not_eq_true', Bool.not_eq_false', Bool.and_eq_true, Bool.or_eq_true, Bool.or_eq_false_iff] at hc
      have hkt : (to - fr).toNat = k := by omega
      refine wp_exit ?_
      refine then_e ?_
      refine then_e ?_
      refine blk_hit ?_
      refine then_n ?_
      refine wp_seq ?_
      refine wp_reg ?_
      refine s_q hs (c_loadW ty22 rfl (hs.ev rfl) (hs.seg (i := 1) rfl) (by rw [List.length_map, hcl])) rfl fun ac hs => ?_
      refine s_storeW (i := 0) hs ty22 rfl rfl rfl (by rw [List.length_map, hcl]) (all_map_B _) rfl fun ww hs => ?_
      refine s_q hs (c_assign (hs.ev rfl)) rfl fun ac hs => ?_
      refine s_end ?_
      replace hs := hs.sub (F' := [(10, _), (11, _)]) ⟨rfl, rfl, trivial⟩
      refine then_n ?_
      refine wp_ret ?_
      refine s_ret hs rfl (.cell (hs.tmp rfl) (run_loadA ty22 rfl (hs.seg (i := 0) rfl) (List.take_of_length_le (show (List.map B (climbN d ep sq e fr x k)).length ≤ 16 by rw [List.length_map, climbN_length hel]; exact Nat.le_refl _)) (show (List.map B (climbN d ep sq e fr x k)).length = 16 by rw [List.length_map, climbN_length hel])) (.tmp (hs.tmp rfl) .nil)) rfl ⟨_, rfl, hs.fr, ?_⟩
      show Value.tuple _ = Value.tuple _
      rw [climbB, climbE, if_pos hyes, if_pos hyes, hkt]
      rfl

end Go.Proofs.Ytmgnnclkjkbmdaa
end

/- Operations whose guard was not told: they are not done. -/
section
set_option linter.unusedSimpArgs false
set_option linter.unusedVariables false
namespace Go.Fw
open Go
section
variable {P : Program} {ops : Array Oper} {Q : Exit → Act → World → Prop} {rest : List Oper} {N : Nat} {F F' : List (Nat × Value)} {L L' : List Ent} {M : Nat → Prop} {w0 w : World} {a : Act}
variable {d : Tmp} {op : Op} {ty : TypeId} {pos : String} {aft : Array Edge} {x y z : Operand} {t u : TypeId}
theorem s_noU {j s : Nat} {b : Bool} (hs : St N F L M w0 a w) (hj : (ops[j]?).bind (·.dst) = some s) (hb : look F s = some undef) (hd : Nat.blt d N = true)
    (k : ∀ a, St N ((d, undef) :: F) L M w0 a w → wpList P ops Q rest a w) : wpList P ops Q (⟨some d, op, ty, pos, aft, some (j, b)⟩ :: rest) a w := by
  have hy : yielded ops a.tmps j = none := by
    have := hs.know.at_ s _ hb
    simp [yielded, hj, this, undef]
  unfold wpList
  have hw : Region.wanted ⟨some d, op, ty, pos, aft, some (j, b)⟩ (yielded ops a.tmps) = false := by simp [Region.wanted, hy]
  rw [if_neg (by rw [hw]; simp)]
  exact k _ (hs.put (lt_of_blt hd) undef)
end
end Go.Fw
end

/- The law of climbing. -/
section
set_option linter.unusedSimpArgs false
set_option linter.unusedVariables false
set_option maxRecDepth 100000
namespace Go.Proofs.Ytmgnnclkjkbmdaa
open Go Go.Fw

open Sha
theorem climbE_ok {fr to x : Int} (h : climbE fr to x = 0) : climbOk fr to x = true := by
  unfold climbE at h
  split at h
  · assumption
  · cases h

-- fingerpostlaw06.LadderClimbs
set_option maxHeartbeats 4000000 in
theorem law_LadderClimbs (d : Int) (ep sq : UInt32) (e : List UInt8) (fr mid to x : Int) (hel : e.length = 16) (hfr : -9223372036854775808 ≤ fr ∧ fr ≤ 9223372036854775807) (hmid : -9223372036854775808 ≤ mid ∧ mid ≤ 9223372036854775807) (hto : -9223372036854775808 ≤ to ∧ to ≤ 9223372036854775807) (w : World)  : Ctr Try.prog 16 [.agg #[I d, U ep, U sq], .agg (e.map B).toArray, I fr, I mid, I to, I x] w (fun _ => False) (fun v _ => v = .bool true) := by
  refine fn_start (N := 87) Try.func16 rfl rfl rfl fun ac hk => ?_
  have hs := St.start hk w
  refine wp_seq ?_
  refine wp_reg ?_
  refine s_box hs rfl rfl rfl fun ac ww g6 hs => ?_
  refine s_box hs rfl rfl rfl fun ac ww g7 hs => ?_
  refine s_q hs (c_assign (hs.ev rfl)) rfl fun ac hs => ?_
  refine s_end ?_
  replace hs := hs.sub (F' := [(2, _), (3, _), (4, _), (5, _), (6, _), (7, _), (12, _)]) ⟨rfl, rfl, rfl, rfl, rfl, rfl, rfl, trivial⟩
  refine then_n ?_
  refine wp_seq ?_
  refine wp_region_rgX (jl := 9) pmix 11 (by kernel_rfl) (by decide) rfl rfl rfl rfl rfl rfl (by kernel_rfl) rfl rfl hs ?_
  simp only [List.take_succ_cons, List.take_zero]
  refine rg_q (fun ac ww h => c_loadW ty81 ag81 (h.ev rfl) (h.blk (hs.seg (i := 1) rfl)) (by rfl)) rfl ?_
  refine rg_call fu68 (fun ac ww h => (.cons (h.ev rfl) .nil)) (fun ww hf => law06_To d ep sq ww) rfl ?_
  refine rg_q (fun ac ww h => c_loadW ty22 rfl (h.ev rfl) (h.blk (hs.seg (i := 0) rfl)) (by rw [List.length_map, hel])) rfl ?_
  refine rg_q (fun ac ww h => c_move (h.ev rfl)) rfl ?_
  refine rg_q (fun ac ww h => c_move (h.ev rfl)) rfl ?_
  refine rg_q (fun ac ww h => c_move (h.ev rfl)) rfl ?_
  refine rg_call fu84 (fun ac ww h => (.cons (h.ev rfl) (.cons (h.ev rfl) (.cons (h.ev rfl) (.cons (h.ev rfl) (.cons (h.ev rfl) .nil)))))) (fun ww hf => ladder_Climb d ep sq e fr to x hel hfr.1 hto.2 ww) rfl ?_
  refine rg_q (fun ac ww h => c_move (h.ev rfl)) rfl ?_
  refine rg_q (fun ac ww h => c_extract (h.ev rfl) rfl) rfl ?_
  refine rg_q (fun ac ww h => c_extract (h.ev rfl) rfl) rfl ?_
  refine rg_alloc ty54 rfl ?_
  refine rg_nil fun ac ww L' hf hfe hs hlk => ?_
  simp only [List.drop_succ_cons, List.drop_zero]
  obtain ⟨v13, L13, M13, h13, e13, rfl, rfl⟩ := hfe
  replace hs := hs.add h13
  obtain ⟨g13, rfl, rfl⟩ := e13
  refine sk_storeW (i := 0) hs ty54 rfl rfl rfl (by rw [List.length_map, climbB_length hel]) (all_map_B _) rfl fun ww hs => ?_
  refine s_q hs (c_assign (hs.ev rfl)) rfl fun ac hs => ?_
  refine s_end ?_
  replace hs := hs.sub (F' := [(2, _), (3, _), (4, _), (5, _), (6, _), (7, _), (12, _), (13, _), (14, _)]) ⟨rfl, rfl, rfl, rfl, rfl, rfl, rfl, rfl, rfl, trivial⟩
  refine then_n ?_
  refine wp_seq ?_
  refine wp_reg ?_
  refine s_q hs (c_loadW ty81 ag81 (hs.ev rfl) (hs.seg (i := 2) rfl) (by rfl)) rfl fun ac hs => ?_
  refine s_q hs (c_loadW ty22 rfl (hs.ev rfl) (hs.seg (i := 1) rfl) (by rw [List.length_map, hel])) rfl fun ac hs => ?_
  refine s_q hs (c_move (hs.ev rfl)) rfl fun ac hs => ?_
  refine s_q hs (c_move (hs.ev rfl)) rfl fun ac hs => ?_
  refine s_q hs (c_move (hs.ev rfl)) rfl fun ac hs => ?_
  refine s_call hs fu85 (.cons (hs.ev rfl) (.cons (hs.ev rfl) (.cons (hs.ev rfl) (.cons (hs.ev rfl) (.cons (hs.ev rfl) .nil))))) (ref06_Climb d ep sq e fr to x hel hfr.1 hto.2 _) rfl fun ac ww v37 hf hp hs => ?_
  obtain rfl := hp
  replace hs := hs [] (.nil _ _)
  refine s_q hs (c_move (hs.ev rfl)) rfl fun ac hs => ?_
  refine s_q hs (c_extract (hs.ev rfl) rfl) rfl fun ac hs => ?_
  refine s_q hs (c_extract (hs.ev rfl) rfl) rfl fun ac hs => ?_
  refine s_alloc hs ty22 rfl fun ac ww g15 hs => ?_
  refine s_storeW (i := 0) hs ty22 rfl rfl rfl (by rw [List.length_map, climbB_length hel]) (all_map_B _) rfl fun ww hs => ?_
  refine s_q hs (c_assign (hs.ev rfl)) rfl fun ac hs => ?_
  refine s_end ?_
  replace hs := hs.sub (F' := [(2, _), (3, _), (4, _), (5, _), (6, _), (7, _), (12, _), (13, _), (14, _), (15, _), (16, _)]) ⟨rfl, rfl, rfl, rfl, rfl, rfl, rfl, rfl, rfl, rfl, rfl, trivial⟩
  refine then_n ?_
  refine wp_seq ?_
  refine wp_seq ?_
  refine wp_reg ?_
  refine s_call hs fu70 .nil (law06_awake _) rfl fun ac ww v40 hf hp hs => ?_
  obtain rfl := hp
  replace hs := hs [] (.nil _ _)
  refine s_q hs (c_ff (c_not (hs.ev rfl)) (rfl)) rfl fun ac hs => ?_
  refine s_q hs (c_move (hs.ev rfl)) rfl fun ac hs => ?_
  refine s_yes hs rfl rfl ?_
  refine s_q hs (c_move (hs.ev rfl)) rfl fun ac hs => ?_
  refine s_yes hs rfl rfl ?_
  refine s_q hs (c_move (hs.ev rfl)) rfl fun ac hs => ?_
  refine s_yes hs rfl rfl ?_
  refine s_q hs (c_ff (c_neqI (hs.ev rfl) (hs.ev rfl)) (by simp)) rfl fun ac hs => ?_
  refine s_q hs (c_pick (hs.ev rfl) (hs.ev rfl) (hs.ev rfl)) rfl fun ac hs => ?_
  refine s_q hs (c_move (hs.ev rfl)) rfl fun ac hs => ?_
  refine s_yes hs rfl rfl ?_
  refine s_q hs (c_loadW ty54 rfl (hs.ev rfl) (hs.seg (i := 1) rfl) (by rw [List.length_map, climbB_length hel])) rfl fun ac hs => ?_
  refine s_yes hs rfl rfl ?_
  refine s_q hs (c_loadW ty22 rfl (hs.ev rfl) (hs.seg (i := 0) rfl) (by rw [List.length_map, climbB_length hel])) rfl fun ac hs => ?_
  refine s_yes hs rfl rfl ?_
  refine s_q hs (c_ff (c_neqAB un54 ty5 eg54 (hs.ev rfl) (hs.ev rfl) (climbB_length hel) (climbB_length hel)) (by simp)) rfl fun ac hs => ?_
  refine s_q hs (c_pick (hs.ev rfl) (hs.ev rfl) (hs.ev rfl)) rfl fun ac hs => ?_
  refine s_end ?_
  replace hs := hs.sub (F' := [(2, _), (3, _), (4, _), (5, _), (6, _), (7, _), (12, _), (13, _), (14, _), (51, _)]) ⟨rfl, rfl, rfl, rfl, rfl, rfl, rfl, rfl, rfl, rfl, trivial⟩
  refine then_n ?_
  refine wp_cond_false (hs.ev rfl) ?_
  refine wp_skip ?_
  refine then_n ?_
  refine wp_seq ?_
  refine wp_region_rgX (jl := 9) pmix 11 (by kernel_rfl) (by decide) rfl rfl rfl rfl rfl rfl (by kernel_rfl) rfl rfl hs ?_
  simp only [List.take_succ_cons, List.take_zero]
  refine rg_q (fun ac ww h => c_loadW ty81 ag81 (h.ev rfl) (h.blk (hs.seg (i := 3) rfl)) (by rfl)) rfl ?_
  refine rg_call fu68 (fun ac ww h => (.cons (h.ev rfl) .nil)) (fun ww hf => law06_To d ep sq ww) rfl ?_
  refine rg_q (fun ac ww h => c_loadW ty22 rfl (h.ev rfl) (h.blk (hs.seg (i := 2) rfl)) (by rw [List.length_map, hel])) rfl ?_
  refine rg_q (fun ac ww h => c_move (h.ev rfl)) rfl ?_
  refine rg_q (fun ac ww h => c_move (h.ev rfl)) rfl ?_
  refine rg_q (fun ac ww h => c_move (h.ev rfl)) rfl ?_
  refine rg_call fu84 (fun ac ww h => (.cons (h.ev rfl) (.cons (h.ev rfl) (.cons (h.ev rfl) (.cons (h.ev rfl) (.cons (h.ev rfl) .nil)))))) (fun ww hf => ladder_Climb d ep sq e fr mid x hel hfr.1 hmid.2 ww) rfl ?_
  refine rg_q (fun ac ww h => c_move (h.ev rfl)) rfl ?_
  refine rg_q (fun ac ww h => c_extract (h.ev rfl) rfl) rfl ?_
  refine rg_q (fun ac ww h => c_extract (h.ev rfl) rfl) rfl ?_
  refine rg_alloc ty54 rfl ?_
  refine rg_nil fun ac ww L' hf hfe hs hlk => ?_
  simp only [List.drop_succ_cons, List.drop_zero]
  obtain ⟨v17, L17, M17, h17, e17, rfl, rfl⟩ := hfe
  replace hs := hs.add h17
  obtain ⟨g17, rfl, rfl⟩ := e17
  refine sk_storeW (i := 0) hs ty54 rfl rfl rfl (by rw [List.length_map, climbB_length hel]) (all_map_B _) rfl fun ww hs => ?_
  refine s_q hs (c_assign (hs.ev rfl)) rfl fun ac hs => ?_
  refine s_end ?_
  replace hs := hs.sub (F' := [(3, _), (4, _), (5, _), (6, _), (12, _), (13, _), (14, _), (17, _), (18, _)]) ⟨rfl, rfl, rfl, rfl, rfl, rfl, rfl, rfl, rfl, trivial⟩
  refine then_n ?_
  refine wp_seq ?_
  refine wp_region_rgX (jl := 9) pmix 11 (by kernel_rfl) (by decide) rfl rfl rfl rfl rfl rfl (by kernel_rfl) rfl rfl hs ?_
  simp only [List.take_succ_cons, List.take_zero]
  refine rg_q (fun ac ww h => c_loadW ty81 ag81 (h.ev rfl) (h.blk (hs.seg (i := 4) rfl)) (by rfl)) rfl ?_
  refine rg_call fu68 (fun ac ww h => (.cons (h.ev rfl) .nil)) (fun ww hf => law06_To d ep sq ww) rfl ?_
  refine rg_q (fun ac ww h => c_loadW ty54 rfl (h.ev rfl) (h.blk (hs.seg (i := 0) rfl)) (by rw [List.length_map, climbB_length hel])) rfl ?_
  refine rg_q (fun ac ww h => c_move (h.ev rfl)) rfl ?_
  refine rg_q (fun ac ww h => c_move (h.ev rfl)) rfl ?_
  refine rg_q (fun ac ww h => c_move (h.ev rfl)) rfl ?_
  refine rg_call fu84 (fun ac ww h => (.cons (h.ev rfl) (.cons (h.ev rfl) (.cons (h.ev rfl) (.cons (h.ev rfl) (.cons (h.ev rfl) .nil)))))) (fun ww hf => ladder_Climb d ep sq (climbB d ep sq e fr mid x) mid to x (climbB_length hel) hmid.1 hto.2 ww) rfl ?_
  refine rg_q (fun ac ww h => c_move (h.ev rfl)) rfl ?_
  refine rg_q (fun ac ww h => c_extract (h.ev rfl) rfl) rfl ?_
  refine rg_q (fun ac ww h => c_extract (h.ev rfl) rfl) rfl ?_
  refine rg_alloc ty54 rfl ?_
  refine rg_nil fun ac ww L' hf hfe hs hlk => ?_
  simp only [List.drop_succ_cons, List.drop_zero]
  obtain ⟨v19, L19, M19, h19, e19, rfl, rfl⟩ := hfe
  replace hs := hs.add h19
  obtain ⟨g19, rfl, rfl⟩ := e19
  refine sk_storeW (i := 0) hs ty54 rfl rfl rfl (by rw [List.length_map, climbB_length (climbB_length hel)]) (all_map_B _) rfl fun ww hs => ?_
  refine s_q hs (c_assign (hs.ev rfl)) rfl fun ac hs => ?_
  refine s_end ?_
  replace hs := hs.sub (F' := [(12, _), (13, _), (14, _), (18, _), (19, _), (20, _)]) ⟨rfl, rfl, rfl, rfl, rfl, rfl, trivial⟩
  refine then_n ?_
  refine wp_seq ?_
  refine wp_reg ?_
  refine s_q hs (c_move (hs.ev rfl)) rfl fun ac hs => ?_
  refine s_q hs (c_neqI (hs.ev rfl) (hs.ev rfl)) rfl fun ac hs => ?_
  refine s_q hs (c_move (hs.ev rfl)) rfl fun ac hs => ?_
  refine s_g hs rfl rfl (fun hg => c_move (hs.ev rfl)) rfl fun ac hs => ?_
  refine s_g hs rfl rfl (fun hg => c_neqI (gev (hs.ev rfl) hg) (hs.ev rfl)) rfl fun ac hs => ?_
  refine s_q hs (c_or (hs.ev rfl) (hs.ev rfl)) rfl fun ac hs => ?_
  refine s_q hs (c_move (hs.ev rfl)) rfl fun ac hs => ?_
  by_cases hsp : (!decide (climbE fr mid x = 0) || !decide (climbE mid to x = 0)) = true
  · rw [hsp] at hs
    refine s_no hs rfl rfl rfl rfl fun ac hs => ?_
    refine s_no hs rfl rfl rfl rfl fun ac hs => ?_
    refine s_no hs rfl rfl rfl rfl fun ac hs => ?_
    refine s_noU hs rfl rfl rfl fun ac hs => ?_
    refine s_noU hs rfl rfl rfl fun ac hs => ?_
    refine s_noU hs rfl rfl rfl fun ac hs => ?_
    refine s_no hs rfl rfl rfl rfl fun ac hs => ?_
    refine s_q hs (c_pick (hs.ev rfl) (hs.ev rfl) (hs.ev rfl)) rfl fun ac hs => ?_
    refine s_q hs (c_assign (hs.ev rfl)) rfl fun ac hs => ?_
    refine s_end ?_
    replace hs := hs.sub (F' := [(12, _)]) ⟨rfl, trivial⟩
    refine then_n ?_
    refine wp_ret ?_
    refine s_ret hs rfl (.tmp (hs.tmp rfl) .nil) rfl ⟨_, rfl, hs.fr, ?_⟩
    rfl
  · rw [Bool.not_eq_true] at hsp
    rw [hsp] at hs
    simp only [Bool.or_eq_false_iff, Bool.not_eq_false', decide_eq_true_eq] at hsp
    obtain ⟨h2a, h2b⟩ := climb_two (d := d) (ep := ep) (sq := sq) (e := e) (climbE_ok hsp.1) (climbE_ok hsp.2)
    refine s_yes hs rfl rfl ?_
    refine s_q hs (c_move (hs.ev rfl)) rfl fun ac hs => ?_
    refine s_yes hs rfl rfl ?_
    refine s_q hs (c_tt (c_eqlI (hs.ev rfl) (hs.ev rfl)) (by rw [climbE, if_pos h2a]; rfl)) rfl fun ac hs => ?_
    refine s_yes hs rfl rfl ?_
    refine s_q hs (c_move (hs.ev rfl)) rfl fun ac hs => ?_
    refine s_yes hs rfl rfl ?_
    refine s_q hs (c_loadW ty54 rfl (hs.ev rfl) (hs.seg (i := 0) rfl) (by rw [List.length_map, climbB_length (climbB_length hel)])) rfl fun ac hs => ?_
    refine s_yes hs rfl rfl ?_
    refine s_q hs (c_loadW ty54 rfl (hs.ev rfl) (hs.seg (i := 3) rfl) (by rw [List.length_map, climbB_length hel])) rfl fun ac hs => ?_
    refine s_yes hs rfl rfl ?_
    refine s_q hs (c_tt (c_eqlAB un54 ty5 eg54 (hs.ev rfl) (hs.ev rfl) (climbB_length (climbB_length hel)) (climbB_length hel)) (by rw [h2b]; simp)) rfl fun ac hs => ?_
    refine s_yes hs rfl rfl ?_
    refine s_q hs (c_pick (hs.ev rfl) (hs.ev rfl) (hs.ev rfl)) rfl fun ac hs => ?_
    refine s_q hs (c_pick (hs.ev rfl) (hs.ev rfl) (hs.ev rfl)) rfl fun ac hs => ?_
    refine s_q hs (c_assign (hs.ev rfl)) rfl fun ac hs => ?_
    refine s_end ?_
    replace hs := hs.sub (F' := [(12, _)]) ⟨rfl, trivial⟩
    refine then_n ?_
    refine wp_ret ?_
    refine s_ret hs rfl (.tmp (hs.tmp rfl) .nil) rfl ⟨_, rfl, hs.fr, ?_⟩
    rfl

end Go.Proofs.Ytmgnnclkjkbmdaa
end
