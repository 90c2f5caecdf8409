/- Own texts of this seat, laid together: LadI, LadJ, LadK, LadL, LadM. -/
import Derived.Test.YtmgnnclkjkbmdaaGa
import Derived.Test.YtmgnnclkjkbmdaaGb
import Derived.Test.YtmgnnclkjkbmdaaGe
import Derived.Test.YtmgnnclkjkbmdaaHb
import Derived.Test.YtmgnnclkjkbmdaaHc
import Derived.Test.YtmgnnclkjkbmdaaJa
/- What a leaf and a way rise to. -/
section
set_option linter.unusedSimpArgs false
set_option linter.unusedVariables false
set_option maxRecDepth 100000
namespace Go.Proofs.Ytmgnnclkjkbmdaa
open Go Go.Fw

open Sha
abbrev lRise (d : Int) (ep sq : UInt32) (r : Int) (q : Nat) (l ws : List UInt8) : Nat → List UInt8 := riseN (lJ d ep sq r) q l (chunk ws)
abbrev lRiseTs (d : Int) (ep sq : UInt32) (r : Int) (q : Nat) (l ws : List UInt8) : Nat → List (List UInt8) := riseTs (lJ d ep sq r) q l (chunk ws)
theorem lRise_length {d : Int} {ep sq : UInt32} {r : Int} {q : Nat} {l ws : List UInt8} (hl : l.length = 16) (k : Nat) : (lRise d ep sq r q l ws k).length = 16 := riseN_length hl k
theorem lRiseTs_length (d : Int) (ep sq : UInt32) (r : Int) (q : Nat) (l ws : List UInt8) : ∀ k, (lRiseTs d ep sq r q l ws k).length = k
  | 0 => rfl
  | k + 1 => by rw [lRiseTs, riseTs, List.length_append, lRiseTs_length d ep sq r q l ws k]; rfl
def riseB (d : Int) (ep sq : UInt32) (r : Int) (q : Nat) (l ws : List UInt8) (lv n : Nat) : List UInt8 := if n = lv then lRise d ep sq r q l ws n else List.replicate 16 0
def riseE (lv n : Nat) : Int := if n = lv then 0 else 22
def riseX (d : Int) (ep sq : UInt32) (r : Int) (q : Nat) (l ws : List UInt8) (lv n : Nat) : List (List UInt8) := if n = lv then lRiseTs d ep sq r q l ws n else []
theorem riseB_length {d : Int} {ep sq : UInt32} {r : Int} {q : Nat} {l ws : List UInt8} (hl : l.length = 16) (lv n : Nat) : (riseB d ep sq r q l ws lv n).length = 16 := by
  unfold riseB
  split
  · exact lRise_length hl n
  · simp
def showW (d : Int) (ep sq : UInt32) (r : Int) (e : List UInt8) (q n : Nat) : List UInt8 := rows (wayN (lJ d ep sq r) (lLf d ep sq r e) q) n
theorem showW_length (d : Int) (ep sq : UInt32) (r : Int) (e : List UInt8) (q n : Nat) : (showW d ep sq r e q n).length = n * 16 := by
  rw [showW, rows_length (f := wayN (lJ d ep sq r) (lLf d ep sq r e) q) (N := n) (fun c _ => node_length (fun _ => rfl) _ _) n (Nat.le_refl _)]; omega
theorem showW_succ (d : Int) (ep sq : UInt32) (r : Int) (e : List UInt8) (q n : Nat) : showW d ep sq r e q (n + 1) = showW d ep sq r e q n ++ wayN (lJ d ep sq r) (lLf d ep sq r e) q n := rows_succ _ _
theorem beside_lt {q n k : Nat} (h : q < 2 ^ n) (hk : k < n) (hn : n ≤ 3) : besideI (q / 2 ^ k) < 2 ^ (20 - k) := by
  have h1 : q / 2 ^ k ≤ q := Nat.div_le_self _ _
  have h2 : 2 ^ n ≤ 8 := pow8 hn
  have h3 : 2 ^ 17 ≤ 2 ^ (20 - k) := Nat.pow_le_pow_right (by decide) (by omega)
  have h4 : (2 : Nat) ^ 17 = 131072 := by decide
  unfold besideI
  split <;> omega

-- ladder.Rise
set_option maxHeartbeats 4000000 in
theorem ladder_Rise (d : Int) (ep sq : UInt32) (r : Int) (W lv q n : Nat) (l ws : List UInt8) (wv : Value) (hr : rightB r W = true) (hW : W = 2 ^ lv) (hlv : lv ≤ 3) (hxl : levels W = lv) (hqW : q < W) (hll : l.length = 16) (hwl : ws.length = n * 16) (w : World) (hqw : Rd w wv n (ws.map B)) : Ctr Try.prog 109 [.agg #[I d, U ep, U sq], I r, I W, I q, .agg (l.map B).toArray, wv] w (fun _ => False) (fun v _ => v = .tuple #[.agg ((riseB d ep sq r q l ws lv n).map B).toArray, I (riseE lv n)]) := by
  have hW8 : W ≤ 8 := by rw [hW]; exact pow8 hlv
  have hnl := hqw.le
  obtain ⟨wad, wcap, rfl, hwc, hwm⟩ := Rd.sl hqw
  refine fn_start (N := 61) Try.func109 rfl rfl rfl fun ac hk => ?_
  have hs := St.start hk w
  refine wp_seq ?_
  refine wp_reg ?_
  refine s_box hs rfl rfl rfl fun ac ww g6 hs => ?_
  refine s_box hs rfl rfl rfl fun ac ww g10 hs => ?_
  refine s_alloc hs ty54 rfl fun ac ww g12 hs => ?_
  refine s_q hs (c_assign (hs.ev rfl)) rfl fun ac hs => ?_
  refine s_end ?_
  replace hs := hs.sub (F' := [(1, _), (2, _), (3, _), (5, _), (6, _), (10, _), (12, _), (13, _)]) ⟨rfl, rfl, rfl, rfl, rfl, rfl, rfl, rfl, trivial⟩
  refine then_n ?_
  refine wp_seq ?_
  refine wp_block ?_
  refine wp_seq ?_
  refine wp_reg ?_
  refine s_q hs (c_move (hs.ev rfl)) rfl fun ac hs => ?_
  refine s_q hs (c_move (hs.ev rfl)) rfl fun ac hs => ?_
  refine s_call hs fu165 (.cons (hs.ev rfl) (.cons (hs.ev rfl) .nil)) (ladder_right r W _) rfl fun ac ww v19 hf hp hs => ?_
  obtain rfl := hp
  replace hs := hs [] (.nil _ _)
  refine s_q hs (c_ff (c_not (hs.ev rfl)) (by rw [hr]; rfl)) rfl fun ac hs => ?_
  refine s_q hs (c_move (hs.ev rfl)) rfl fun ac hs => ?_
  refine s_yes hs rfl rfl ?_
  refine s_q hs (c_move (hs.ev rfl)) rfl fun ac hs => ?_
  refine s_yes hs rfl rfl ?_
  refine s_q hs (c_ff (c_lssI (hs.ev rfl) (hs.ev rfl)) (by simp; try omega)) rfl fun ac hs => ?_
  refine s_q hs (c_pick (hs.ev rfl) (hs.ev rfl) (hs.ev rfl)) rfl fun ac hs => ?_
  refine s_q hs (c_move (hs.ev rfl)) rfl fun ac hs => ?_
  refine s_yes hs rfl rfl ?_
  refine s_q hs (c_move (hs.ev rfl)) rfl fun ac hs => ?_
  refine s_yes hs rfl rfl ?_
  refine s_q hs (c_move (hs.ev rfl)) rfl fun ac hs => ?_
  refine s_yes hs rfl rfl ?_
  refine s_q hs (c_ff (c_geqI (hs.ev rfl) (hs.ev rfl)) (by simp; try omega)) rfl fun ac hs => ?_
  refine s_q hs (c_pick (hs.ev rfl) (hs.ev rfl) (hs.ev rfl)) rfl fun ac hs => ?_
  refine s_q hs (c_assign (hs.ev rfl)) rfl fun ac hs => ?_
  refine s_end ?_
  replace hs := hs.sub (F' := [(1, _), (2, _), (3, _), (5, _), (6, _), (10, _), (12, _), (13, _), (16, _)]) ⟨rfl, rfl, rfl, rfl, rfl, rfl, rfl, rfl, rfl, trivial⟩
  refine then_n ?_
  refine wp_cond_false (hs.ev rfl) ?_
  refine wp_seq ?_
  refine wp_reg ?_
  refine s_q hs (c_move (hs.ev rfl)) rfl fun ac hs => ?_
  refine s_q hs (c_lenS un110 (hs.ev rfl)) rfl fun ac hs => ?_
  refine s_q hs (c_move (hs.ev rfl)) rfl fun ac hs => ?_
  refine s_call hs fu75 (.cons (hs.ev rfl) .nil) ((by have h := ladder_Levels (W : Int) ww; rw [hxl] at h; exact h)) rfl fun ac ww v35 hf hp hs => ?_
  obtain rfl := hp
  replace hs := hs [] (.nil _ _)
  refine s_q hs (c_neqI (hs.ev rfl) (hs.ev rfl)) rfl fun ac hs => ?_
  refine s_q hs (c_assign (hs.ev rfl)) rfl fun ac hs => ?_
  refine s_end ?_
  replace hs := hs.sub (F' := [(1, _), (3, _), (5, _), (6, _), (10, _), (12, _), (13, _), (31, _)]) ⟨rfl, rfl, rfl, rfl, rfl, rfl, rfl, rfl, trivial⟩
  refine then_n ?_
  refine s_cond hs rfl (fun hc => ?_) (fun hc => ?_)
  · try simp only [decide_eq_true_eq, decide_eq_false_iff_not, Bool.not_eq_true', Bool.not_eq_false', Bool.and_eq_true, Bool.or_eq_true, Bool.or_eq_false_iff] at hc
    have hno : ¬ n = lv := fun e => hc (by rw [e])
    refine wp_seq ?_
    refine wp_reg ?_
    refine s_q hs (c_buildA ty54 un54 ty5 (zc := (List.replicate 16 (0 : UInt8)).map B) (vs := []) .nil (by simp) (by simp [flatCells]) rfl) rfl fun ac hs => ?_
    refine s_storeW (i := 0) hs ty54 rfl rfl rfl (by simp) (all_map_B _) rfl fun ww hs => ?_
    refine s_q hs (c_assign (hs.ev rfl)) rfl fun ac hs => ?_
    refine s_end ?_
    replace hs := hs.sub (F' := [(1, _), (3, _), (5, _), (6, _), (10, _), (12, _), (13, _)]) ⟨rfl, rfl, rfl, rfl, rfl, rfl, rfl, trivial⟩
    refine then_n ?_
    refine wp_ret ?_
    refine blk_r ?_
    refine then_r ?_
    refine s_ret hs rfl (.cell (hs.tmp rfl) (run_loadA ty54 rfl (hs.seg (i := 0) rfl) (List.take_of_length_le (by simp)) (by simp)) (.tmp (hs.tmp rfl) .nil)) rfl ⟨_, rfl, hs.fr, ?_⟩
    show Value.tuple _ = Value.tuple _
    rw [riseB, riseE, if_neg hno, if_neg hno]
    rfl
  · try simp only [decide_eq_true_eq, decide_eq_false_iff_not, Bool.not_eq_true', Bool.not_eq_false', Bool.and_eq_true, Bool.or_eq_true, Bool.or_eq_false_iff] at hc
    obtain rfl : n = lv := by omega
    refine wp_skip ?_
    refine blk_n ?_
    refine then_n ?_
    refine wp_seq ?_
    refine wp_seq ?_
    refine wp_reg ?_
    refine s_q hs (c_move (hs.ev rfl)) rfl fun ac hs => ?_
    refine s_q hs (c_lenS un110 (hs.ev rfl)) rfl fun ac hs => ?_
    refine s_q hs (c_move (hs.ev rfl)) rfl fun ac hs => ?_
    refine s_end ?_
    replace hs := hs.sub (F' := [(1, _), (3, _), (6, _), (10, _), (12, _), (13, _), (38, _), (39, _), (40, _)]) ⟨rfl, rfl, rfl, rfl, rfl, rfl, rfl, rfl, rfl, trivial⟩
    refine then_n ?_
    refine wp_block ?_
    refine s_loop hs (X := Nat) (fun k => [(3, I (q / 2 ^ k : Nat)), (40, I k)]) [(1, _), (6, _), (10, _), (12, _), (13, _), (38, _), (39, _)] (fun k => [_, .seg g10 ((lRise d ep sq r q l ws k).map B) 54, _]) (fun j k => k ≤ n ∧ j = n - k) (_) (0) (⟨Nat.zero_le _, rfl⟩) ⟨(congrArg (fun z : Nat => some (I z)) (by simp)), rfl, rfl, rfl, rfl, rfl, rfl, rfl, rfl, trivial⟩ rfl ?_
    rintro n k ac ww hok hs
    simp only [List.cons_append, List.nil_append] at hs
    obtain ⟨hk, rfl⟩ := hok
    have hrl := lRise_length (d := d) (ep := ep) (sq := sq) (r := r) (q := q) (ws := ws) hll k
    obtain ⟨qk, hqk⟩ : ∃ qk : Nat, q / 2 ^ k = qk := ⟨_, rfl⟩
    have hqle : qk ≤ q := hqk ▸ Nat.div_le_self _ _
    rw [hqk] at hs
    refine wp_seq ?_
    refine wp_reg ?_
    refine s_q hs (c_lssI (hs.ev rfl) (hs.ev rfl)) rfl fun ac hs => ?_
    refine s_end ?_
    refine then_n ?_
    refine wp_seq ?_
    refine s_cond hs rfl (fun hc => ?_) (fun hc => ?_)
    · try simp only [decide_eq_true_eq, decide_eq_false_iff_not, Bool.not_eq_true', Bool.not_eq_false', Bool.and_eq_true, Bool.or_eq_true, Bool.or_eq_false_iff] at hc
      have hkn : k < n := by omega
      have hcl := chunk_l hwl hkn
      obtain ⟨pb, po, pT, pf, pall, rfl, hpb, hps⟩ := Rd.bytes_at hqw hwl (by omega)
      refine wp_skip ?_
      refine then_n ?_
      refine wp_seq ?_
      refine wp_block ?_
      refine wp_seq ?_
      refine wp_reg ?_
      refine s_q hs (c_idxS (j := k) un110 ty54 (hs.ev rfl) (hs.ev rfl) (by omega) (by omega)) rfl fun ac hs => ?_
      refine s_q hs (c_loadA ty54 rfl (hs.ev rfl) (hs.old hpb id) (rdpiece hps hwl hkn) (by rw [List.length_map, hcl])) rfl fun ac hs => ?_
      refine s_alloc hs ty54 rfl fun ac ww g15 hs => ?_
      refine s_storeW (i := 0) hs ty54 rfl rfl rfl (by rw [List.length_map, hcl]) (all_map_B _) rfl fun ww hs => ?_
      refine s_end ?_
      refine then_n ?_
      refine wp_seq ?_
      refine wp_seq ?_
      refine wp_reg ?_
      refine s_q hs (c_move (hs.ev rfl)) rfl fun ac hs => ?_
      refine s_q hs (c_remI (hs.ev rfl) (hs.ev rfl) (by omega) (by omega)) rfl fun ac hs => ?_
      refine s_q hs (c_eqlI (hs.ev rfl) (hs.ev rfl)) rfl fun ac hs => ?_
      refine s_end ?_
      refine then_n ?_
      refine s_cond hs rfl (fun hc => ?_) (fun hc => ?_)
      · try simp only [decide_eq_true_eq, decide_eq_false_iff_not, Bool.not_eq_true', Bool.not_eq_false', Bool.and_eq_true, Bool.or_eq_true, Bool.or_eq_false_iff] at hc
        have hstep : lRise d ep sq r q l ws (k + 1) = ofT (joinX d ep sq r (lRise d ep sq r q l ws k) (chunk ws k)) := by rw [lRise, riseN, stepX, hqk, if_neg (by omega)]; rfl
        refine wp_reg ?_
        refine s_q hs (c_loadW ty84 ag84 (hs.ev rfl) (hs.seg (i := 3) rfl) (by rfl)) rfl fun ac hs => ?_
        refine s_q hs (c_move (hs.ev rfl)) rfl fun ac hs => ?_
        refine s_q hs (c_loadW ty54 rfl (hs.ev rfl) (hs.seg (i := 2) rfl) (by rw [List.length_map, hrl])) rfl fun ac hs => ?_
        refine s_q hs (c_loadW ty54 rfl (hs.ev rfl) (hs.seg (i := 0) rfl) (by rw [List.length_map, hcl])) rfl fun ac hs => ?_
        refine s_call hs fu73 (.cons (hs.ev rfl) (.cons (hs.ev rfl) (.cons (hs.ev rfl) (.cons (hs.ev rfl) .nil)))) (ladder_Join d ep sq r (lRise d ep sq r q l ws k) (chunk ws k) hrl hcl _) rfl fun ac ww v51 hf hp hs => ?_
        obtain rfl := hp
        replace hs := hs [] (.nil _ _)
        refine s_storeW (i := 2) hs ty54 rfl rfl rfl (by simp) (all_map_B _) (by rw [List.length_map, hrl]) fun ww hs => ?_
        refine s_end ?_
        refine then_n ?_
        refine wp_reg ?_
        refine s_q hs (c_move (hs.ev rfl)) rfl fun ac hs => ?_
        refine s_q hs (c_quoI (hs.ev rfl) (hs.ev rfl) (by omega) (by omega) (by omega)) rfl fun ac hs => ?_
        refine s_q hs (c_assign (hs.ev rfl)) rfl fun ac hs => ?_
        refine s_end ?_
        refine blk_n ?_
        refine then_n ?_
        refine wp_reg ?_
        refine s_q hs (c_addI (hs.ev rfl) (hs.ev rfl) (by omega) (by omega)) rfl fun ac hs => ?_
        refine s_q hs (c_move (hs.ev rfl)) rfl fun ac hs => ?_
        refine s_end ?_
        refine then_n ?_
        replace hs := hs.pick (L' := [_, _, _]) (.cons _ (.refl _))
        exact ⟨n - (k + 1), by omega, k + 1, ⟨by omega, rfl⟩, St.next hs ⟨(congrArg (fun z => some (I z)) (by rw [half_pow, hqk]; omega)), rfl, rfl, rfl, rfl, rfl, rfl, rfl, rfl, trivial⟩ (by rw [hstep]; try rfl)⟩
      · try simp only [decide_eq_true_eq, decide_eq_false_iff_not, Bool.not_eq_true', Bool.not_eq_false', Bool.and_eq_true, Bool.or_eq_true, Bool.or_eq_false_iff] at hc
        have hstep : lRise d ep sq r q l ws (k + 1) = ofT (joinX d ep sq r (chunk ws k) (lRise d ep sq r q l ws k)) := by rw [lRise, riseN, stepX, hqk, if_pos (by omega)]; rfl
        refine wp_reg ?_
        refine s_q hs (c_loadW ty84 ag84 (hs.ev rfl) (hs.seg (i := 3) rfl) (by rfl)) rfl fun ac hs => ?_
        refine s_q hs (c_move (hs.ev rfl)) rfl fun ac hs => ?_
        refine s_q hs (c_loadW ty54 rfl (hs.ev rfl) (hs.seg (i := 0) rfl) (by rw [List.length_map, hcl])) rfl fun ac hs => ?_
        refine s_q hs (c_loadW ty54 rfl (hs.ev rfl) (hs.seg (i := 2) rfl) (by rw [List.length_map, hrl])) rfl fun ac hs => ?_
        refine s_call hs fu73 (.cons (hs.ev rfl) (.cons (hs.ev rfl) (.cons (hs.ev rfl) (.cons (hs.ev rfl) .nil)))) (ladder_Join d ep sq r (chunk ws k) (lRise d ep sq r q l ws k) hcl hrl _) rfl fun ac ww v56 hf hp hs => ?_
        obtain rfl := hp
        replace hs := hs [] (.nil _ _)
        refine s_storeW (i := 2) hs ty54 rfl rfl rfl (by simp) (all_map_B _) (by rw [List.length_map, hrl]) fun ww hs => ?_
        refine s_end ?_
        refine then_n ?_
        refine wp_reg ?_
        refine s_q hs (c_move (hs.ev rfl)) rfl fun ac hs => ?_
        refine s_q hs (c_quoI (hs.ev rfl) (hs.ev rfl) (by omega) (by omega) (by omega)) rfl fun ac hs => ?_
        refine s_q hs (c_assign (hs.ev rfl)) rfl fun ac hs => ?_
        refine s_end ?_
        refine blk_n ?_
        refine then_n ?_
        refine wp_reg ?_
        refine s_q hs (c_addI (hs.ev rfl) (hs.ev rfl) (by omega) (by omega)) rfl fun ac hs => ?_
        refine s_q hs (c_move (hs.ev rfl)) rfl fun ac hs => ?_
        refine s_end ?_
        refine then_n ?_
        replace hs := hs.pick (L' := [_, _, _]) (.cons _ (.refl _))
        exact ⟨n - (k + 1), by omega, k + 1, ⟨by omega, rfl⟩, St.next hs ⟨(congrArg (fun z => some (I z)) (by rw [half_pow, hqk]; omega)), rfl, rfl, rfl, rfl, rfl, rfl, rfl, rfl, trivial⟩ (by rw [hstep]; try rfl)⟩
    · try simp only [decide_eq_true_eq, decide_eq_false_iff_not, Bool.not_eq_true', Bool.not_eq_false', Bool.and_eq_true, Bool.or_eq_true, Bool.or_eq_false_iff] at hc
      obtain rfl : n = k := by omega
      refine wp_exit ?_
      refine then_e ?_
      refine then_e ?_
      refine blk_hit ?_
      refine then_n ?_
      refine wp_seq ?_
      refine wp_reg ?_
      refine s_q hs (c_loadW ty54 rfl (hs.ev rfl) (hs.seg (i := 1) rfl) (by rw [List.length_map, hrl])) rfl fun ac hs => ?_
      refine s_storeW (i := 0) hs ty54 rfl rfl rfl (by rw [List.length_map, hrl]) (all_map_B _) rfl fun ww hs => ?_
      refine s_q hs (c_assign (hs.ev rfl)) rfl fun ac hs => ?_
      refine s_end ?_
      replace hs := hs.sub (F' := [(12, _), (13, _)]) ⟨rfl, rfl, trivial⟩
      refine then_n ?_
      refine wp_ret ?_
      refine s_ret hs rfl (.cell (hs.tmp rfl) (run_loadA ty54 rfl (hs.seg (i := 0) rfl) (List.take_of_length_le (show (List.map B (lRise d ep sq r q l ws n)).length ≤ 16 by rw [List.length_map, hrl]; exact Nat.le_refl _)) (show (List.map B (lRise d ep sq r q l ws n)).length = 16 by rw [List.length_map, hrl])) (.tmp (hs.tmp rfl) .nil)) rfl ⟨_, rfl, hs.fr, ?_⟩
      show Value.tuple _ = Value.tuple _
      rw [riseB, riseE, if_pos rfl, if_pos rfl]
      rfl

end Go.Proofs.Ytmgnnclkjkbmdaa
end

/- What a leaf and a way rise to, as the document has it. -/
section
set_option linter.unusedSimpArgs false
set_option linter.unusedVariables false
set_option maxRecDepth 100000
namespace Go.Proofs.Ytmgnnclkjkbmdaa
open Go Go.Fw

open Sha
/-- Three results, the second one texts. -/
def tup3E (c0 c2 : Value) (E : Value → List Ent → World → Prop) : Value → List Ent → World → Prop := fun v L w => ∃ tv, v = .tuple #[c0, tv, c2] ∧ E tv L w

-- fingerpostref06.Rise
set_option maxHeartbeats 4000000 in
theorem ref06_Rise (d : Int) (ep sq : UInt32) (r : Int) (W lv q n : Nat) (l ws : List UInt8) (wv : Value) (hr : rightB r W = true) (hW : W = 2 ^ lv) (hlv : lv ≤ 3) (hxl : levels W = lv) (hqW : q < W) (hll : l.length = 16) (hwl : ws.length = n * 16) (hn6 : n ≤ 1000000) (w : World) (hqw : Rd w wv n (ws.map B)) : Ctr Try.prog 110 [.agg #[I d, U ep, U sq], I r, I W, I q, .agg (l.map B).toArray, wv] w (fun _ => False) (outE (tup3E (.agg ((riseB d ep sq r q l ws lv n).map B).toArray) (I (riseE lv n)) (textsE 34 5 (riseX d ep sq r q l ws lv n))) w) := by
  have hW8 : W ≤ 8 := by rw [hW]; exact pow8 hlv
  have hnl := hqw.le
  obtain ⟨wad, wcap, rfl, hwc, hwm⟩ := Rd.sl hqw
  refine fn_start (N := 73) Try.func110 rfl rfl rfl fun ac hk => ?_
  have hs := St.start hk w
  refine wp_seq ?_
  refine wp_reg ?_
  refine s_box hs rfl rfl rfl fun ac ww g6 hs => ?_
  refine s_box hs rfl rfl rfl fun ac ww g10 hs => ?_
  refine s_alloc hs ty22 rfl fun ac ww g12 hs => ?_
  refine s_q hs (c_assign (hs.ev rfl)) rfl fun ac hs => ?_
  refine s_q hs (c_assign (hs.ev rfl)) rfl fun ac hs => ?_
  refine s_end ?_
  replace hs := hs.sub (F' := [(1, _), (2, _), (3, _), (5, _), (6, _), (10, _), (12, _), (13, _), (14, _)]) ⟨rfl, rfl, rfl, rfl, rfl, rfl, rfl, rfl, rfl, trivial⟩
  refine then_n ?_
  refine wp_seq ?_
  refine wp_seq ?_
  refine wp_reg ?_
  refine s_q hs (c_move (hs.ev rfl)) rfl fun ac hs => ?_
  refine s_q hs (c_move (hs.ev rfl)) rfl fun ac hs => ?_
  refine s_call hs fu107 (.cons (hs.ev rfl) (.cons (hs.ev rfl) .nil)) (ref06_Right r W _) rfl fun ac ww v20 hf hp hs => ?_
  obtain rfl := hp
  replace hs := hs [] (.nil _ _)
  refine s_q hs (c_ff (c_not (hs.ev rfl)) (by rw [hr]; rfl)) rfl fun ac hs => ?_
  refine s_q hs (c_move (hs.ev rfl)) rfl fun ac hs => ?_
  refine s_yes hs rfl rfl ?_
  refine s_q hs (c_move (hs.ev rfl)) rfl fun ac hs => ?_
  refine s_yes hs rfl rfl ?_
  refine s_q hs (c_ff (c_lssI (hs.ev rfl) (hs.ev rfl)) (by simp; try omega)) rfl fun ac hs => ?_
  refine s_q hs (c_pick (hs.ev rfl) (hs.ev rfl) (hs.ev rfl)) rfl fun ac hs => ?_
  refine s_q hs (c_move (hs.ev rfl)) rfl fun ac hs => ?_
  refine s_yes hs rfl rfl ?_
  refine s_q hs (c_move (hs.ev rfl)) rfl fun ac hs => ?_
  refine s_yes hs rfl rfl ?_
  refine s_q hs (c_move (hs.ev rfl)) rfl fun ac hs => ?_
  refine s_yes hs rfl rfl ?_
  refine s_q hs (c_ff (c_geqI (hs.ev rfl) (hs.ev rfl)) (by simp; try omega)) rfl fun ac hs => ?_
  refine s_q hs (c_pick (hs.ev rfl) (hs.ev rfl) (hs.ev rfl)) rfl fun ac hs => ?_
  refine s_end ?_
  replace hs := hs.sub (F' := [(1, _), (2, _), (3, _), (5, _), (6, _), (10, _), (12, _), (13, _), (14, _), (30, _)]) ⟨rfl, rfl, rfl, rfl, rfl, rfl, rfl, rfl, rfl, rfl, trivial⟩
  refine then_n ?_
  refine wp_cond_false (hs.ev rfl) ?_
  refine wp_skip ?_
  refine then_n ?_
  refine wp_seq ?_
  refine wp_seq ?_
  refine wp_reg ?_
  refine s_q hs (c_move (hs.ev rfl)) rfl fun ac hs => ?_
  refine s_q hs (c_lenS un109 (hs.ev rfl)) rfl fun ac hs => ?_
  refine s_q hs (c_move (hs.ev rfl)) rfl fun ac hs => ?_
  refine s_call hs fu76 (.cons (hs.ev rfl) .nil) ((by have h := ref06_Levels (W : Int) ww; rw [hxl] at h; exact h)) rfl fun ac ww v35 hf hp hs => ?_
  obtain rfl := hp
  replace hs := hs [] (.nil _ _)
  refine s_q hs (c_neqI (hs.ev rfl) (hs.ev rfl)) rfl fun ac hs => ?_
  refine s_end ?_
  replace hs := hs.sub (F' := [(1, _), (3, _), (5, _), (6, _), (10, _), (12, _), (13, _), (14, _), (36, _)]) ⟨rfl, rfl, rfl, rfl, rfl, rfl, rfl, rfl, rfl, trivial⟩
  refine then_n ?_
  refine s_cond hs rfl (fun hc => ?_) (fun hc => ?_)
  · try simp only [decide_eq_true_eq, decide_eq_false_iff_not, Bool.not_eq_true', Bool.not_eq_false', Bool.and_eq_true, Bool.or_eq_true, Bool.or_eq_false_iff] at hc
    have hno : ¬ n = lv := fun e => hc (by rw [e])
    replace hs := hs.texts0 34 (Ent.part 5)
    refine wp_seq ?_
    refine wp_reg ?_
    refine s_q hs (c_buildA ty22 un22 ty5 (zc := (List.replicate 16 (0 : UInt8)).map B) (vs := []) .nil (by simp) (by simp [flatCells]) rfl) rfl fun ac hs => ?_
    refine s_storeW (i := 1) hs ty22 rfl rfl rfl (by simp) (all_map_B _) rfl fun ww hs => ?_
    refine s_q hs (c_assign (hs.ev rfl)) rfl fun ac hs => ?_
    refine s_q hs (c_assign (hs.ev rfl)) rfl fun ac hs => ?_
    refine s_end ?_
    replace hs := hs.sub (F' := [(1, _), (3, _), (5, _), (6, _), (10, _), (12, _), (13, _), (14, _)]) ⟨rfl, rfl, rfl, rfl, rfl, rfl, rfl, rfl, trivial⟩
    refine then_n ?_
    refine wp_ret ?_
    refine then_r ?_
    refine s_ret hs rfl (.cell (hs.tmp rfl) (run_loadA ty22 rfl (hs.seg (i := 1) rfl) (List.take_of_length_le (by simp)) (by simp)) (.tmp (hs.tmp rfl) (.tmp (hs.tmp rfl) .nil))) rfl ⟨_, rfl, hs.fr, ?_⟩
    rw [riseB, riseE, riseX, if_neg hno, if_neg hno, if_neg hno]
    exact ⟨_, ⟨_, rfl, [], rfl, rfl⟩, (hs.pick (L' := [_]) (.cons_cons _ (List.nil_sublist _))).made⟩
  · try simp only [decide_eq_true_eq, decide_eq_false_iff_not, Bool.not_eq_true', Bool.not_eq_false', Bool.and_eq_true, Bool.or_eq_true, Bool.or_eq_false_iff] at hc
    obtain rfl : n = lv := by omega
    refine wp_skip ?_
    refine then_n ?_
    refine wp_seq ?_
    refine wp_reg ?_
    refine s_q hs (c_assign (hs.ev rfl)) rfl fun ac hs => ?_
    refine s_end ?_
    replace hs := hs.texts0 34 (Ent.part 5)
    replace hs := hs.sub (F' := [(1, _), (3, _), (5, _), (6, _), (10, _), (12, _), (13, _), (14, _), (15, _)]) ⟨rfl, rfl, rfl, rfl, rfl, rfl, rfl, rfl, rfl, trivial⟩
    refine then_n ?_
    refine wp_seq ?_
    refine wp_seq ?_
    refine wp_reg ?_
    refine s_q hs (c_assign (hs.ev rfl)) rfl fun ac hs => ?_
    refine s_end ?_
    refine then_n ?_
    refine wp_block ?_
    refine s_loop hs (X := Nat × Value × List (Value × List UInt8)) (fun x => [(3, I (q / 2 ^ x.1 : Nat)), (15, x.2.1), (16, I x.1)]) [(1, _), (5, _), (6, _), (10, _), (12, _), (13, _), (14, _)] (fun x => [.texts 34 (Ent.part 5) x.2.1 x.2.2, _, .seg g10 ((lRise d ep sq r q l ws x.1).map B) 22, _]) (fun j x => x.1 ≤ n ∧ j = n - x.1 ∧ x.2.2.map (·.2) = lRiseTs d ep sq r q l ws x.1) (_) ((0, _, [])) (⟨Nat.zero_le _, rfl, rfl⟩) ⟨(congrArg (fun z : Nat => some (I z)) (by simp)), rfl, rfl, rfl, rfl, rfl, rfl, rfl, rfl, rfl, trivial⟩ rfl ?_
    rintro n ⟨k, v, ps⟩ ac ww hok hs
    simp only [List.cons_append, List.nil_append] at hs
    obtain ⟨hk, rfl, hps⟩ := hok
    simp only at hk hps hs
    have hpl : ps.length = k := by have := congrArg List.length hps; rwa [List.length_map, lRiseTs_length] at this
    have hrl := lRise_length (d := d) (ep := ep) (sq := sq) (r := r) (q := q) (ws := ws) hll k
    obtain ⟨qk, hqk⟩ : ∃ qk : Nat, q / 2 ^ k = qk := ⟨_, rfl⟩
    have hqle : qk ≤ q := hqk ▸ Nat.div_le_self _ _
    rw [hqk] at hs
    refine wp_seq ?_
    refine wp_seq ?_
    refine wp_reg ?_
    refine s_q hs (c_move (hs.ev rfl)) rfl fun ac hs => ?_
    refine s_q hs (c_move (hs.ev rfl)) rfl fun ac hs => ?_
    refine s_q hs (c_lenS un109 (hs.ev rfl)) rfl fun ac hs => ?_
    refine s_q hs (c_lssI (hs.ev rfl) (hs.ev rfl)) rfl fun ac hs => ?_
    refine s_end ?_
    refine then_n ?_
    refine s_cond hs rfl (fun hc => ?_) (fun hc => ?_)
    · try simp only [decide_eq_true_eq, decide_eq_false_iff_not, Bool.not_eq_true', Bool.not_eq_false', Bool.and_eq_true, Bool.or_eq_true, Bool.or_eq_false_iff] at hc
      have hkn : k < n := by omega
      have hcl := chunk_l hwl hkn
      obtain ⟨pb, po, pT, pf, pall, rfl, hpb, hps2⟩ := Rd.bytes_at hqw hwl (by omega)
      refine wp_skip ?_
      refine then_n ?_
      refine wp_seq ?_
      refine wp_block ?_
      refine wp_seq ?_
      refine wp_region_rg pmix 7 (by kernel_rfl) rfl hs ?_
      simp only [List.take_succ_cons, List.take_zero]
      refine rg_q (fun ac ww h => c_loadW ty81 ag81 (h.ev rfl) (h.blk (hs.seg (i := 3) rfl)) (by rfl)) rfl ?_
      refine rg_q (fun ac ww h => c_move (h.ev rfl)) rfl ?_
      refine rg_q (fun ac ww h => c_loadW ty22 rfl (h.ev rfl) (h.blk (hs.seg (i := 2) rfl)) (by rw [List.length_map, hrl])) rfl ?_
      refine rg_q (fun ac ww h => c_move (h.ev rfl)) rfl ?_
      refine rg_q (fun ac ww h => c_move (h.ev rfl)) rfl ?_
      refine rg_q (fun ac ww h => c_idxS (j := k) un109 ty22 (h.ev rfl) (h.ev rfl) (by omega) (by omega)) rfl ?_
      refine rg_q (fun ac ww h => c_loadA ty22 rfl (h.ev rfl) (h.blk (hs.old hpb id)) (rdpiece hps2 hwl hkn) (by rw [List.length_map, hcl])) rfl ?_
      refine rg_nil fun ac ww L' hf hfe hs => ?_
      simp only [List.drop_succ_cons, List.drop_zero]
      obtain rfl : L' = [] := hfe
      replace hs := hs.toL (List.nil_append _)
      refine s_call hs fu74 (.cons (hs.ev rfl) (.cons (hs.ev rfl) (.cons (hs.ev rfl) (.cons (hs.ev rfl) .nil)))) (ref06_JoinText d ep sq r (lRise d ep sq r q l ws k) (chunk ws k) hrl hcl _) rfl fun ac ww v51 hf hp hs => ?_
      obtain ⟨L', hv, hh⟩ := hp
      subst hv
      replace hs := hs _ hh
      obtain ⟨qad, qcap, rfl, _, _⟩ := Rd.sl (RdB.row (hs.get (i := 0) rfl))
      refine s_q hs (c_assign (hs.ev rfl)) rfl fun ac hs => ?_
      refine s_end ?_
      refine then_n ?_
      refine wp_seq ?_
      refine wp_seq ?_
      refine wp_reg ?_
      refine s_q hs (c_move (hs.ev rfl)) rfl fun ac hs => ?_
      refine s_q hs (c_remI (hs.ev rfl) (hs.ev rfl) (by omega) (by omega)) rfl fun ac hs => ?_
      refine s_q hs (c_eqlI (hs.ev rfl) (hs.ev rfl)) rfl fun ac hs => ?_
      refine s_end ?_
      refine then_n ?_
      refine s_cond hs rfl (fun hc => ?_) (fun hc => ?_)
      · try simp only [decide_eq_true_eq, decide_eq_false_iff_not, Bool.not_eq_true', Bool.not_eq_false', Bool.and_eq_true, Bool.or_eq_true, Bool.or_eq_false_iff] at hc
        refine wp_region_rg pmix 7 (by kernel_rfl) rfl hs ?_
        simp only [List.take_succ_cons, List.take_zero]
        refine rg_q (fun ac ww h => c_loadW ty81 ag81 (h.ev rfl) (h.blk (hs.seg (i := 4) rfl)) (by rfl)) rfl ?_
        refine rg_q (fun ac ww h => c_move (h.ev rfl)) rfl ?_
        refine rg_q (fun ac ww h => c_move (h.ev rfl)) rfl ?_
        refine rg_q (fun ac ww h => c_move (h.ev rfl)) rfl ?_
        refine rg_q (fun ac ww h => c_idxS (j := k) un109 ty22 (h.ev rfl) (h.ev rfl) (by omega) (by omega)) rfl ?_
        refine rg_q (fun ac ww h => c_loadA ty22 rfl (h.ev rfl) (h.blk (hs.old hpb id)) (rdpiece hps2 hwl hkn) (by rw [List.length_map, hcl])) rfl ?_
        refine rg_q (fun ac ww h => c_loadW ty22 rfl (h.ev rfl) (h.blk (hs.seg (i := 3) rfl)) (by rw [List.length_map, hrl])) rfl ?_
        refine rg_nil fun ac ww L' hf hfe hs => ?_
        simp only [List.drop_succ_cons, List.drop_zero]
        obtain rfl : L' = [] := hfe
        replace hs := hs.toL (List.nil_append _)
        refine s_call hs fu74 (.cons (hs.ev rfl) (.cons (hs.ev rfl) (.cons (hs.ev rfl) (.cons (hs.ev rfl) .nil)))) (ref06_JoinText d ep sq r (chunk ws k) (lRise d ep sq r q l ws k) hcl hrl _) rfl fun ac ww v62 hf hp hs => ?_
        obtain ⟨L', hv, hh⟩ := hp
        subst hv
        replace hs := hs _ hh
        obtain ⟨qad, qcap, rfl, _, _⟩ := Rd.sl (RdB.row (hs.get (i := 0) rfl))
        refine s_q hs (c_assign (hs.ev rfl)) rfl fun ac hs => ?_
        refine s_end ?_
        obtain ⟨body, hbody, hbl⟩ : ∃ body, stepX (lJ d ep sq r) k qk (lRise d ep sq r q l ws k) (chunk ws k) = 74 :: body ∧ body.length ≤ 100 := ⟨_, by rw [stepX, if_pos (by omega)]; rfl, by simp [hrl, hcl]⟩
        have hst : stepX (lJ d ep sq r) k qk (lRise d ep sq r q l ws k) (chunk ws k) = joinX d ep sq r (chunk ws k) (lRise d ep sq r q l ws k) := by rw [stepX, if_pos (by omega)]; rfl
        rw [← hst] at hs
        replace hs := hs.pick (L' := [_, _, _, _, _]) (.cons_cons _ (.cons _ (.refl _)))
        refine then_n ?_
        refine wp_seq ?_
        refine wp_reg ?_
        refine s_q hs (c_move (hs.ev rfl)) rfl fun ac hs => ?_
        refine s_q hs (c_move (hs.ev rfl)) rfl fun ac hs => ?_
        refine s_bslice hs un30 ty34 (.cons (hs.ev rfl) .nil) rfl (by simp [Value.cells]) (by decide) rfl rfl fun ac ww g65 hs => ?_
        refine s_appT (i := 2) (j := 1) hs un30 ty34 rfl rfl rfl rfl rfl (hs.seg (i := 0) rfl) rfl (by omega) rfl fun ac ww v66 hs => ?_
        refine s_q hs (c_assign (hs.ev rfl)) rfl fun ac hs => ?_
        refine s_end ?_
        refine then_n ?_
        refine wp_seq ?_
        refine wp_reg ?_
        refine s_q hs (c_move (hs.ev rfl)) rfl fun ac hs => ?_
        refine s_call hs fu54 (.cons (hs.ev rfl) .nil) (ref06_Of 74 body _ (by omega) _ (hbody ▸ ((RdP.texts (hs.get (i := 2) rfl)).2 (_, stepX (lJ d ep sq r) k qk (lRise d ep sq r q l ws k) (chunk ws k)) (by simp)))) rfl fun ac ww v68 hf hp hs => ?_
        obtain rfl := hp
        replace hs := hs [] (.nil _ _)
        have hof : short 74 body = ofT (stepX (lJ d ep sq r) k qk (lRise d ep sq r q l ws k) (chunk ws k)) := by rw [hbody]; rfl
        rw [hof] at hs
        have hfin : lRise d ep sq r q l ws (k + 1) = ofT (stepX (lJ d ep sq r) k qk (lRise d ep sq r q l ws k) (chunk ws k)) := by rw [lRise, riseN, hqk]
        refine s_storeW (i := 4) hs ty22 rfl rfl rfl (by simp) (all_map_B _) (by rw [List.length_map, hrl]) fun ww hs => ?_
        refine s_end ?_
        refine then_n ?_
        refine wp_reg ?_
        refine s_q hs (c_move (hs.ev rfl)) rfl fun ac hs => ?_
        refine s_q hs (c_quoI (hs.ev rfl) (hs.ev rfl) (by omega) (by omega) (by omega)) rfl fun ac hs => ?_
        refine s_q hs (c_assign (hs.ev rfl)) rfl fun ac hs => ?_
        refine s_end ?_
        refine blk_n ?_
        refine then_n ?_
        refine wp_reg ?_
        refine s_q hs (c_move (hs.ev rfl)) rfl fun ac hs => ?_
        refine s_q hs (c_addI (hs.ev rfl) (hs.ev rfl) (by omega) (by omega)) rfl fun ac hs => ?_
        refine s_q hs (c_assign (hs.ev rfl)) rfl fun ac hs => ?_
        refine s_end ?_
        refine then_n ?_
        replace hs := hs.pick (L' := [_, _, _, _]) (.cons _ (.cons _ (.refl _)))
        exact ⟨n - (k + 1), by (try simp only); omega, (k + 1, _, ps ++ [(.slice qad (stepX (lJ d ep sq r) k qk (lRise d ep sq r q l ws k) (chunk ws k)).length qcap, stepX (lJ d ep sq r) k qk (lRise d ep sq r q l ws k) (chunk ws k))]), ⟨by (try simp only); omega, rfl, by simp only [List.map_append]; rw [hps]; simp only [lRiseTs, riseTs, hqk]; rfl⟩, St.next hs ⟨(congrArg (fun z => some (I z)) (by rw [half_pow, hqk]; omega)), rfl, rfl, rfl, rfl, rfl, rfl, rfl, rfl, rfl, trivial⟩ (by rw [hfin]; try rfl)⟩
      · try simp only [decide_eq_true_eq, decide_eq_false_iff_not, Bool.not_eq_true', Bool.not_eq_false', Bool.and_eq_true, Bool.or_eq_true, Bool.or_eq_false_iff] at hc
        obtain ⟨body, hbody, hbl⟩ : ∃ body, stepX (lJ d ep sq r) k qk (lRise d ep sq r q l ws k) (chunk ws k) = 74 :: body ∧ body.length ≤ 100 := ⟨_, by rw [stepX, if_neg (by omega)]; rfl, by simp [hrl, hcl]⟩
        have hst : stepX (lJ d ep sq r) k qk (lRise d ep sq r q l ws k) (chunk ws k) = joinX d ep sq r (lRise d ep sq r q l ws k) (chunk ws k) := by rw [stepX, if_neg (by omega)]; rfl
        rw [← hst] at hs
        refine wp_skip ?_
        refine then_n ?_
        refine wp_seq ?_
        refine wp_reg ?_
        refine s_q hs (c_move (hs.ev rfl)) rfl fun ac hs => ?_
        refine s_q hs (c_move (hs.ev rfl)) rfl fun ac hs => ?_
        refine s_bslice hs un30 ty34 (.cons (hs.ev rfl) .nil) rfl (by simp [Value.cells]) (by decide) rfl rfl fun ac ww g65 hs => ?_
        refine s_appT (i := 2) (j := 1) hs un30 ty34 rfl rfl rfl rfl rfl (hs.seg (i := 0) rfl) rfl (by omega) rfl fun ac ww v66 hs => ?_
        refine s_q hs (c_assign (hs.ev rfl)) rfl fun ac hs => ?_
        refine s_end ?_
        refine then_n ?_
        refine wp_seq ?_
        refine wp_reg ?_
        refine s_q hs (c_move (hs.ev rfl)) rfl fun ac hs => ?_
        refine s_call hs fu54 (.cons (hs.ev rfl) .nil) (ref06_Of 74 body _ (by omega) _ (hbody ▸ ((RdP.texts (hs.get (i := 2) rfl)).2 (_, stepX (lJ d ep sq r) k qk (lRise d ep sq r q l ws k) (chunk ws k)) (by simp)))) rfl fun ac ww v68 hf hp hs => ?_
        obtain rfl := hp
        replace hs := hs [] (.nil _ _)
        have hof : short 74 body = ofT (stepX (lJ d ep sq r) k qk (lRise d ep sq r q l ws k) (chunk ws k)) := by rw [hbody]; rfl
        rw [hof] at hs
        have hfin : lRise d ep sq r q l ws (k + 1) = ofT (stepX (lJ d ep sq r) k qk (lRise d ep sq r q l ws k) (chunk ws k)) := by rw [lRise, riseN, hqk]
        refine s_storeW (i := 4) hs ty22 rfl rfl rfl (by simp) (all_map_B _) (by rw [List.length_map, hrl]) fun ww hs => ?_
        refine s_end ?_
        refine then_n ?_
        refine wp_reg ?_
        refine s_q hs (c_move (hs.ev rfl)) rfl fun ac hs => ?_
        refine s_q hs (c_quoI (hs.ev rfl) (hs.ev rfl) (by omega) (by omega) (by omega)) rfl fun ac hs => ?_
        refine s_q hs (c_assign (hs.ev rfl)) rfl fun ac hs => ?_
        refine s_end ?_
        refine blk_n ?_
        refine then_n ?_
        refine wp_reg ?_
        refine s_q hs (c_move (hs.ev rfl)) rfl fun ac hs => ?_
        refine s_q hs (c_addI (hs.ev rfl) (hs.ev rfl) (by omega) (by omega)) rfl fun ac hs => ?_
        refine s_q hs (c_assign (hs.ev rfl)) rfl fun ac hs => ?_
        refine s_end ?_
        refine then_n ?_
        replace hs := hs.pick (L' := [_, _, _, _]) (.cons _ (.cons _ (.refl _)))
        exact ⟨n - (k + 1), by (try simp only); omega, (k + 1, _, ps ++ [(.slice qad (stepX (lJ d ep sq r) k qk (lRise d ep sq r q l ws k) (chunk ws k)).length qcap, stepX (lJ d ep sq r) k qk (lRise d ep sq r q l ws k) (chunk ws k))]), ⟨by (try simp only); omega, rfl, by simp only [List.map_append]; rw [hps]; simp only [lRiseTs, riseTs, hqk]; rfl⟩, St.next hs ⟨(congrArg (fun z => some (I z)) (by rw [half_pow, hqk]; omega)), rfl, rfl, rfl, rfl, rfl, rfl, rfl, rfl, rfl, trivial⟩ (by rw [hfin]; try rfl)⟩
    · try simp only [decide_eq_true_eq, decide_eq_false_iff_not, Bool.not_eq_true', Bool.not_eq_false', Bool.and_eq_true, Bool.or_eq_true, Bool.or_eq_false_iff] at hc
      obtain rfl : n = k := by omega
      refine wp_exit ?_
      refine then_e ?_
      refine then_e ?_
      refine blk_hit ?_
      refine then_n ?_
      refine wp_seq ?_
      refine wp_reg ?_
      refine s_q hs (c_loadW ty22 rfl (hs.ev rfl) (hs.seg (i := 2) rfl) (by rw [List.length_map, hrl])) rfl fun ac hs => ?_
      refine s_q hs (c_move (hs.ev rfl)) rfl fun ac hs => ?_
      refine s_storeW (i := 1) hs ty22 rfl rfl rfl (by rw [List.length_map, hrl]) (all_map_B _) rfl fun ww hs => ?_
      refine s_q hs (c_assign (hs.ev rfl)) rfl fun ac hs => ?_
      refine s_q hs (c_assign (hs.ev rfl)) rfl fun ac hs => ?_
      refine s_end ?_
      replace hs := hs.sub (F' := [(12, _), (13, _), (14, _)]) ⟨rfl, rfl, rfl, trivial⟩
      refine then_n ?_
      refine wp_ret ?_
      refine s_ret hs rfl (.cell (hs.tmp rfl) (run_loadA ty22 rfl (hs.seg (i := 1) rfl) (List.take_of_length_le (show (List.map B (lRise d ep sq r q l ws n)).length ≤ 16 by rw [List.length_map, hrl]; exact Nat.le_refl _)) (show (List.map B (lRise d ep sq r q l ws n)).length = 16 by rw [List.length_map, hrl])) (.tmp (hs.tmp rfl) (.tmp (hs.tmp rfl) .nil))) rfl ⟨_, rfl, hs.fr, ?_⟩
      rw [riseB, riseE, riseX, if_pos rfl, if_pos rfl, if_pos rfl]
      exact ⟨_, ⟨_, rfl, ps, hps, rfl⟩, (hs.pick (L' := [_]) (.cons_cons _ (List.nil_sublist _))).made⟩

end Go.Proofs.Ytmgnnclkjkbmdaa
end

/- What a node shows, as the document has it. -/
section
set_option linter.unusedSimpArgs false
set_option linter.unusedVariables false
set_option maxRecDepth 100000
namespace Go.Proofs.Ytmgnnclkjkbmdaa
open Go Go.Fw

open Sha
-- fingerpostref06.Show
set_option maxHeartbeats 4000000 in
theorem ref06_Show (d : Int) (ep sq : UInt32) (r : Int) (e : List UInt8) (W lv q : Nat) (hel : e.length = 16) (hr : rightB r W = true) (hW : W = 2 ^ lv) (hlv : lv ≤ 3) (hxl : levels W = lv) (hqW : q < W) (w : World)  : Ctr Try.prog 108 [.agg #[I d, U ep, U sq], I r, .agg (e.map B).toArray, I W, I q] w (fun _ => False) (outE (tup3E (.agg ((lNode d ep sq r e 0 q).map B).toArray) (I 0) (rowS' lv (showW d ep sq r e q lv))) w) := by
  have hW8 : W ≤ 8 := by rw [hW]; exact pow8 hlv
  refine fn_start (N := 72) Try.func108 rfl rfl rfl fun ac hk => ?_
  have hs := St.start hk w
  refine wp_seq ?_
  refine wp_reg ?_
  refine s_box hs rfl rfl rfl fun ac ww g5 hs => ?_
  refine s_box hs rfl rfl rfl fun ac ww g7 hs => ?_
  refine s_alloc hs ty22 rfl fun ac ww g10 hs => ?_
  refine s_q hs (c_assign (hs.ev rfl)) rfl fun ac hs => ?_
  refine s_q hs (c_assign (hs.ev rfl)) rfl fun ac hs => ?_
  refine s_end ?_
  replace hs := hs.sub (F' := [(1, _), (3, _), (4, _), (5, _), (7, _), (10, _), (11, _), (12, _)]) ⟨rfl, rfl, rfl, rfl, rfl, rfl, rfl, rfl, trivial⟩
  refine then_n ?_
  refine wp_seq ?_
  refine wp_seq ?_
  refine wp_reg ?_
  refine s_q hs (c_move (hs.ev rfl)) rfl fun ac hs => ?_
  refine s_q hs (c_move (hs.ev rfl)) rfl fun ac hs => ?_
  refine s_call hs fu107 (.cons (hs.ev rfl) (.cons (hs.ev rfl) .nil)) (ref06_Right r W _) rfl fun ac ww v22 hf hp hs => ?_
  obtain rfl := hp
  replace hs := hs [] (.nil _ _)
  refine s_q hs (c_ff (c_not (hs.ev rfl)) (by rw [hr]; rfl)) rfl fun ac hs => ?_
  refine s_q hs (c_move (hs.ev rfl)) rfl fun ac hs => ?_
  refine s_yes hs rfl rfl ?_
  refine s_q hs (c_move (hs.ev rfl)) rfl fun ac hs => ?_
  refine s_yes hs rfl rfl ?_
  refine s_q hs (c_ff (c_lssI (hs.ev rfl) (hs.ev rfl)) (by simp; try omega)) rfl fun ac hs => ?_
  refine s_q hs (c_pick (hs.ev rfl) (hs.ev rfl) (hs.ev rfl)) rfl fun ac hs => ?_
  refine s_q hs (c_move (hs.ev rfl)) rfl fun ac hs => ?_
  refine s_yes hs rfl rfl ?_
  refine s_q hs (c_move (hs.ev rfl)) rfl fun ac hs => ?_
  refine s_yes hs rfl rfl ?_
  refine s_q hs (c_move (hs.ev rfl)) rfl fun ac hs => ?_
  refine s_yes hs rfl rfl ?_
  refine s_q hs (c_ff (c_geqI (hs.ev rfl) (hs.ev rfl)) (by simp; try omega)) rfl fun ac hs => ?_
  refine s_q hs (c_pick (hs.ev rfl) (hs.ev rfl) (hs.ev rfl)) rfl fun ac hs => ?_
  refine s_end ?_
  replace hs := hs.sub (F' := [(1, _), (3, _), (4, _), (5, _), (7, _), (10, _), (11, _), (12, _), (32, _)]) ⟨rfl, rfl, rfl, rfl, rfl, rfl, rfl, rfl, rfl, trivial⟩
  refine then_n ?_
  refine wp_cond_false (hs.ev rfl) ?_
  refine wp_skip ?_
  refine then_n ?_
  refine wp_seq ?_
  refine wp_reg ?_
  refine s_q hs (c_loadW ty81 ag81 (hs.ev rfl) (hs.seg (i := 2) rfl) (by rfl)) rfl fun ac hs => ?_
  refine s_q hs (c_move (hs.ev rfl)) rfl fun ac hs => ?_
  refine s_q hs (c_loadW ty22 rfl (hs.ev rfl) (hs.seg (i := 1) rfl) (by rw [List.length_map, hel])) rfl fun ac hs => ?_
  refine s_q hs (c_move (hs.ev rfl)) rfl fun ac hs => ?_
  refine s_call hs fu90 (.cons (hs.ev rfl) (.cons (hs.ev rfl) (.cons (hs.ev rfl) (.cons (hs.ev rfl) (.cons (hs.ev rfl) .nil))))) (ref06_Node d ep sq r e hel 0 (by decide) q (by omega) _) rfl fun ac ww v39 hf hp hs => ?_
  obtain ⟨L', ⟨tv1, rfl, ps1, hps1, rfl⟩, hh⟩ := hp
  replace hs := hs _ hh
  refine s_q hs (c_move (hs.ev rfl)) rfl fun ac hs => ?_
  refine s_q hs (c_extract (hs.ev rfl) rfl) rfl fun ac hs => ?_
  refine s_q hs (c_extract (hs.ev rfl) rfl) rfl fun ac hs => ?_
  refine s_alloc hs ty22 rfl fun ac ww g13 hs => ?_
  refine s_storeW (i := 0) hs ty22 rfl rfl rfl (by rw [List.length_map]; exact lNode_length _ _ _ _ _ _ _) (all_map_B _) rfl fun ww hs => ?_
  refine s_q hs (c_assign (hs.ev rfl)) rfl fun ac hs => ?_
  refine s_end ?_
  replace hs := hs.sub (F' := [(1, _), (3, _), (4, _), (5, _), (7, _), (10, _), (11, _), (12, _), (13, _)]) ⟨rfl, rfl, rfl, rfl, rfl, rfl, rfl, rfl, rfl, trivial⟩
  refine then_n ?_
  refine wp_seq ?_
  refine wp_reg ?_
  refine s_q hs (c_assign (hs.ev rfl)) rfl fun ac hs => ?_
  refine s_end ?_
  replace hs := hs.nilrow 22 16
  refine then_n ?_
  refine wp_seq ?_
  refine wp_seq ?_
  refine wp_reg ?_
  refine s_q hs (c_assign (hs.ev rfl)) rfl fun ac hs => ?_
  refine s_end ?_
  refine then_n ?_
  refine wp_block ?_
  refine s_loop hs (X := Nat × Value) (fun x => [(4, I (q / 2 ^ x.1 : Nat)), (15, x.2), (16, I x.1)]) [(1, _), (3, _), (5, _), (7, _), (10, _), (11, _), (12, _), (13, _)] (fun x => [.row x.2 x.1 ((showW d ep sq r e q x.1).map B) 22 16, _, _, _, _, _]) (fun j x => x.1 ≤ lv ∧ j = lv - x.1) (_) ((0, _)) (⟨Nat.zero_le _, rfl⟩) ⟨(congrArg (fun z : Nat => some (I z)) (by simp)), rfl, rfl, rfl, rfl, rfl, rfl, rfl, rfl, rfl, rfl, trivial⟩ rfl ?_
  rintro n ⟨k, v⟩ ac ww hok hs
  simp only [List.cons_append, List.nil_append] at hs
  obtain ⟨hk, rfl⟩ := hok
  simp only at hk hs
  obtain ⟨qk, hqk⟩ : ∃ qk : Nat, q / 2 ^ k = qk := ⟨_, rfl⟩
  have hqle : qk ≤ q := hqk ▸ Nat.div_le_self _ _
  rw [hqk] at hs
  have hsl := showW_length d ep sq r e q k
  refine wp_seq ?_
  refine wp_seq ?_
  refine wp_reg ?_
  refine s_q hs (c_move (hs.ev rfl)) rfl fun ac hs => ?_
  refine s_q hs (c_move (hs.ev rfl)) rfl fun ac hs => ?_
  refine s_call hs fu76 (.cons (hs.ev rfl) .nil) ((by have h := ref06_Levels (W : Int) ww; rw [hxl] at h; exact h)) rfl fun ac ww v44 hf hp hs => ?_
  obtain rfl := hp
  replace hs := hs [] (.nil _ _)
  refine s_q hs (c_lssI (hs.ev rfl) (hs.ev rfl)) rfl fun ac hs => ?_
  refine s_end ?_
  refine then_n ?_
  refine s_cond hs rfl (fun hc => ?_) (fun hc => ?_)
  · try simp only [decide_eq_true_eq, decide_eq_false_iff_not, Bool.not_eq_true', Bool.not_eq_false', Bool.and_eq_true, Bool.or_eq_true, Bool.or_eq_false_iff] at hc
    have hkl : k < lv := by omega
    have hbl := beside_lt (k := k) (by rw [← hW]; exact hqW) hkl hlv
    rw [hqk] at hbl
    refine wp_skip ?_
    refine then_n ?_
    refine wp_seq ?_
    refine wp_block ?_
    refine wp_seq ?_
    refine wp_reg ?_
    refine s_q hs (c_move (hs.ev rfl)) rfl fun ac hs => ?_
    refine s_q hs (c_addI (hs.ev rfl) (hs.ev rfl) (by omega) (by omega)) rfl fun ac hs => ?_
    refine s_q hs (c_assign (hs.ev rfl)) rfl fun ac hs => ?_
    refine s_end ?_
    refine then_n ?_
    refine wp_seq ?_
    refine wp_seq ?_
    refine wp_reg ?_
    refine s_q hs (c_move (hs.ev rfl)) rfl fun ac hs => ?_
    refine s_q hs (c_remI (hs.ev rfl) (hs.ev rfl) (by omega) (by omega)) rfl fun ac hs => ?_
    refine s_q hs (c_eqlI (hs.ev rfl) (hs.ev rfl)) rfl fun ac hs => ?_
    refine s_end ?_
    refine then_n ?_
    refine s_cond hs rfl (fun hc => ?_) (fun hc => ?_)
    · try simp only [decide_eq_true_eq, decide_eq_false_iff_not, Bool.not_eq_true', Bool.not_eq_false', Bool.and_eq_true, Bool.or_eq_true, Bool.or_eq_false_iff] at hc
      refine wp_reg ?_
      refine s_q hs (c_move (hs.ev rfl)) rfl fun ac hs => ?_
      refine s_q hs (c_subI (hs.ev rfl) (hs.ev rfl) (by omega) (by omega)) rfl fun ac hs => ?_
      refine s_q hs (c_assign (hs.ev rfl)) rfl fun ac hs => ?_
      refine s_end ?_
      have hbe : ((qk : Int) - 1) = ((besideI qk : Nat) : Int) := by unfold besideI; rw [if_pos (by omega)]; omega
      rw [hbe] at hs
      refine then_n ?_
      refine wp_seq ?_
      refine wp_reg ?_
      refine s_q hs (c_loadW ty81 ag81 (hs.ev rfl) (hs.seg (i := 5) rfl) (by rfl)) rfl fun ac hs => ?_
      refine s_q hs (c_move (hs.ev rfl)) rfl fun ac hs => ?_
      refine s_q hs (c_loadW ty22 rfl (hs.ev rfl) (hs.seg (i := 4) rfl) (by rw [List.length_map, hel])) rfl fun ac hs => ?_
      refine s_q hs (c_move (hs.ev rfl)) rfl fun ac hs => ?_
      refine s_q hs (c_move (hs.ev rfl)) rfl fun ac hs => ?_
      refine s_call hs fu90 (.cons (hs.ev rfl) (.cons (hs.ev rfl) (.cons (hs.ev rfl) (.cons (hs.ev rfl) (.cons (hs.ev rfl) .nil))))) (ref06_Node d ep sq r e hel k (by omega) (besideI qk) hbl _) rfl fun ac ww v61 hf hp hs => ?_
      obtain ⟨L', ⟨tv2, rfl, ps2, hps2, rfl⟩, hh⟩ := hp
      replace hs := hs _ hh
      refine s_q hs (c_move (hs.ev rfl)) rfl fun ac hs => ?_
      refine s_q hs (c_extract (hs.ev rfl) rfl) rfl fun ac hs => ?_
      refine s_q hs (c_extract (hs.ev rfl) rfl) rfl fun ac hs => ?_
      refine s_alloc hs ty22 rfl fun ac ww g18 hs => ?_
      refine s_storeW (i := 0) hs ty22 rfl rfl rfl (by rw [List.length_map]; exact lNode_length _ _ _ _ _ _ _) (all_map_B _) rfl fun ww hs => ?_
      refine s_q hs (c_assign (hs.ev rfl)) rfl fun ac hs => ?_
      refine s_end ?_
      replace hs := hs.sub (F' := [(1, _), (3, _), (4, _), (5, _), (7, _), (10, _), (11, _), (12, _), (13, _), (15, _), (16, _), (17, _), (18, _), (42, _), (43, _), (44, _), (45, _), (48, _), (49, _), (50, _), (51, _), (52, _), (53, _), (54, _), (55, _), (56, _), (57, _), (58, _), (59, _), (60, _), (61, _), (62, _), (63, _)]) ⟨rfl, rfl, rfl, rfl, rfl, rfl, rfl, rfl, rfl, rfl, rfl, rfl, rfl, rfl, rfl, rfl, rfl, rfl, rfl, rfl, rfl, rfl, rfl, rfl, rfl, rfl, rfl, rfl, rfl, rfl, rfl, rfl, rfl, trivial⟩
      refine then_n ?_
      refine wp_seq ?_
      refine wp_reg ?_
      refine s_q hs (c_move (hs.ev rfl)) rfl fun ac hs => ?_
      refine s_q hs (c_loadW ty22 rfl (hs.ev rfl) (hs.seg (i := 0) rfl) (by rw [List.length_map]; exact lNode_length _ _ _ _ _ _ _)) rfl fun ac hs => ?_
      refine s_bslice hs un109 ty22 (.cons (hs.ev rfl) .nil) rfl (by intro v hv; simp only [List.mem_singleton] at hv; subst hv; simp [Value.cells, lNode_length]) (by decide) (show _ = (lNode d ep sq r e k (besideI qk)).map B by simp [flatCells, Value.cells]) rfl fun ac ww g66 hs => ?_
      refine s_append (i := 3) hs un109 ty22 (by decide) rfl rfl rfl (Rd.of_seg (n := 1) (hs.seg (i := 0) rfl) (Nat.le_refl _) (by decide) (List.take_of_length_le (by simp))) (by rw [List.length_map, lNode_length]) (all_map_B _) (by unfold maxLen; omega) (by omega) rfl fun ac ww v67 hf hnil hs => ?_
      refine s_q hs (c_assign (hs.ev rfl)) rfl fun ac hs => ?_
      refine s_end ?_
      refine then_n ?_
      refine wp_reg ?_
      refine s_q hs (c_move (hs.ev rfl)) rfl fun ac hs => ?_
      refine s_q hs (c_quoI (hs.ev rfl) (hs.ev rfl) (by omega) (by omega) (by omega)) rfl fun ac hs => ?_
      refine s_q hs (c_assign (hs.ev rfl)) rfl fun ac hs => ?_
      refine s_end ?_
      refine blk_n ?_
      refine then_n ?_
      refine wp_reg ?_
      refine s_q hs (c_move (hs.ev rfl)) rfl fun ac hs => ?_
      refine s_q hs (c_addI (hs.ev rfl) (hs.ev rfl) (by omega) (by omega)) rfl fun ac hs => ?_
      refine s_q hs (c_assign (hs.ev rfl)) rfl fun ac hs => ?_
      refine s_end ?_
      refine then_n ?_
      replace hs := hs.pick (L' := [_, _, _, _, _, _]) (.cons _ (.cons _ (.cons _ (.refl _))))
      exact ⟨lv - (k + 1), by (try simp only); omega, (k + 1, _), ⟨by (try simp only); omega, rfl⟩, St.next hs ⟨(congrArg (fun z => some (I z)) (by rw [half_pow, hqk]; omega)), rfl, rfl, rfl, rfl, rfl, rfl, rfl, rfl, rfl, rfl, trivial⟩ (by simp only [showW_succ, List.map_append, wayN, hqk])⟩
    · try simp only [decide_eq_true_eq, decide_eq_false_iff_not, Bool.not_eq_true', Bool.not_eq_false', Bool.and_eq_true, Bool.or_eq_true, Bool.or_eq_false_iff] at hc
      have hbe : ((qk : Int) + 1) = ((besideI qk : Nat) : Int) := by unfold besideI; rw [if_neg (by omega)]; rfl
      rw [hbe] at hs
      refine wp_skip ?_
      refine then_n ?_
      refine wp_seq ?_
      refine wp_reg ?_
      refine s_q hs (c_loadW ty81 ag81 (hs.ev rfl) (hs.seg (i := 5) rfl) (by rfl)) rfl fun ac hs => ?_
      refine s_q hs (c_move (hs.ev rfl)) rfl fun ac hs => ?_
      refine s_q hs (c_loadW ty22 rfl (hs.ev rfl) (hs.seg (i := 4) rfl) (by rw [List.length_map, hel])) rfl fun ac hs => ?_
      refine s_q hs (c_move (hs.ev rfl)) rfl fun ac hs => ?_
      refine s_q hs (c_move (hs.ev rfl)) rfl fun ac hs => ?_
      refine s_call hs fu90 (.cons (hs.ev rfl) (.cons (hs.ev rfl) (.cons (hs.ev rfl) (.cons (hs.ev rfl) (.cons (hs.ev rfl) .nil))))) (ref06_Node d ep sq r e hel k (by omega) (besideI qk) hbl _) rfl fun ac ww v61 hf hp hs => ?_
      obtain ⟨L', ⟨tv2, rfl, ps2, hps2, rfl⟩, hh⟩ := hp
      replace hs := hs _ hh
      refine s_q hs (c_move (hs.ev rfl)) rfl fun ac hs => ?_
      refine s_q hs (c_extract (hs.ev rfl) rfl) rfl fun ac hs => ?_
      refine s_q hs (c_extract (hs.ev rfl) rfl) rfl fun ac hs => ?_
      refine s_alloc hs ty22 rfl fun ac ww g18 hs => ?_
      refine s_storeW (i := 0) hs ty22 rfl rfl rfl (by rw [List.length_map]; exact lNode_length _ _ _ _ _ _ _) (all_map_B _) rfl fun ww hs => ?_
      refine s_q hs (c_assign (hs.ev rfl)) rfl fun ac hs => ?_
      refine s_end ?_
      replace hs := hs.sub (F' := [(1, _), (3, _), (4, _), (5, _), (7, _), (10, _), (11, _), (12, _), (13, _), (15, _), (16, _), (17, _), (18, _), (42, _), (43, _), (44, _), (45, _), (48, _), (49, _), (50, _), (51, _), (52, _), (55, _), (56, _), (57, _), (58, _), (59, _), (60, _), (61, _), (62, _), (63, _)]) ⟨rfl, rfl, rfl, rfl, rfl, rfl, rfl, rfl, rfl, rfl, rfl, rfl, rfl, rfl, rfl, rfl, rfl, rfl, rfl, rfl, rfl, rfl, rfl, rfl, rfl, rfl, rfl, rfl, rfl, rfl, rfl, trivial⟩
      refine then_n ?_
      refine wp_seq ?_
      refine wp_reg ?_
      refine s_q hs (c_move (hs.ev rfl)) rfl fun ac hs => ?_
      refine s_q hs (c_loadW ty22 rfl (hs.ev rfl) (hs.seg (i := 0) rfl) (by rw [List.length_map]; exact lNode_length _ _ _ _ _ _ _)) rfl fun ac hs => ?_
      refine s_bslice hs un109 ty22 (.cons (hs.ev rfl) .nil) rfl (by intro v hv; simp only [List.mem_singleton] at hv; subst hv; simp [Value.cells, lNode_length]) (by decide) (show _ = (lNode d ep sq r e k (besideI qk)).map B by simp [flatCells, Value.cells]) rfl fun ac ww g66 hs => ?_
      refine s_append (i := 3) hs un109 ty22 (by decide) rfl rfl rfl (Rd.of_seg (n := 1) (hs.seg (i := 0) rfl) (Nat.le_refl _) (by decide) (List.take_of_length_le (by simp))) (by rw [List.length_map, lNode_length]) (all_map_B _) (by unfold maxLen; omega) (by omega) rfl fun ac ww v67 hf hnil hs => ?_
      refine s_q hs (c_assign (hs.ev rfl)) rfl fun ac hs => ?_
      refine s_end ?_
      refine then_n ?_
      refine wp_reg ?_
      refine s_q hs (c_move (hs.ev rfl)) rfl fun ac hs => ?_
      refine s_q hs (c_quoI (hs.ev rfl) (hs.ev rfl) (by omega) (by omega) (by omega)) rfl fun ac hs => ?_
      refine s_q hs (c_assign (hs.ev rfl)) rfl fun ac hs => ?_
      refine s_end ?_
      refine blk_n ?_
      refine then_n ?_
      refine wp_reg ?_
      refine s_q hs (c_move (hs.ev rfl)) rfl fun ac hs => ?_
      refine s_q hs (c_addI (hs.ev rfl) (hs.ev rfl) (by omega) (by omega)) rfl fun ac hs => ?_
      refine s_q hs (c_assign (hs.ev rfl)) rfl fun ac hs => ?_
      refine s_end ?_
      refine then_n ?_
      replace hs := hs.pick (L' := [_, _, _, _, _, _]) (.cons _ (.cons _ (.cons _ (.refl _))))
      exact ⟨lv - (k + 1), by (try simp only); omega, (k + 1, _), ⟨by (try simp only); omega, rfl⟩, St.next hs ⟨(congrArg (fun z => some (I z)) (by rw [half_pow, hqk]; omega)), rfl, rfl, rfl, rfl, rfl, rfl, rfl, rfl, rfl, rfl, trivial⟩ (by simp only [showW_succ, List.map_append, wayN, hqk])⟩
  · try simp only [decide_eq_true_eq, decide_eq_false_iff_not, Bool.not_eq_true', Bool.not_eq_false', Bool.and_eq_true, Bool.or_eq_true, Bool.or_eq_false_iff] at hc
    obtain rfl : lv = k := by omega
    refine wp_exit ?_
    refine then_e ?_
    refine then_e ?_
    refine blk_hit ?_
    refine then_n ?_
    refine wp_seq ?_
    refine wp_reg ?_
    refine s_q hs (c_loadW ty22 rfl (hs.ev rfl) (hs.seg (i := 1) rfl) (by rw [List.length_map]; exact lNode_length _ _ _ _ _ _ _)) rfl fun ac hs => ?_
    refine s_q hs (c_move (hs.ev rfl)) rfl fun ac hs => ?_
    refine s_storeW (i := 3) hs ty22 rfl rfl rfl (by rw [List.length_map]; exact lNode_length _ _ _ _ _ _ _) (all_map_B _) rfl fun ww hs => ?_
    refine s_q hs (c_assign (hs.ev rfl)) rfl fun ac hs => ?_
    refine s_q hs (c_assign (hs.ev rfl)) rfl fun ac hs => ?_
    refine s_end ?_
    replace hs := hs.sub (F' := [(10, _), (11, _), (12, _)]) ⟨rfl, rfl, rfl, trivial⟩
    refine then_n ?_
    refine wp_ret ?_
    refine s_ret hs rfl (.cell (hs.tmp rfl) (run_loadA ty22 rfl (hs.seg (i := 3) rfl) (List.take_of_length_le (show (List.map B (lNode d ep sq r e 0 q)).length ≤ 16 by rw [List.length_map, lNode_length]; exact Nat.le_refl _)) (show (List.map B (lNode d ep sq r e 0 q)).length = 16 by rw [List.length_map, lNode_length])) (.tmp (hs.tmp rfl) (.tmp (hs.tmp rfl) .nil))) rfl ⟨_, rfl, hs.fr, ?_⟩
    exact ⟨_, ⟨_, rfl, rfl⟩, (hs.pick (L' := [_]) (.cons_cons _ (List.nil_sublist _))).made⟩

end Go.Proofs.Ytmgnnclkjkbmdaa
end

/- Why whatever rises is what a node shows, or two unlike texts have one short sum. -/
section
set_option linter.unusedSimpArgs false
set_option linter.unusedVariables false
set_option maxRecDepth 100000
namespace Go.Proofs.Ytmgnnclkjkbmdaa
open Go Go.Fw

open Sha
theorem way_chunk (d : Int) (ep sq : UInt32) (r : Int) (e : List UInt8) (q n k : Nat) (h : k < n) : chunk (showW d ep sq r e q n) k = wayN (lJ d ep sq r) (lLf d ep sq r e) q k := by
  have := rows_chunk (f := wayN (lJ d ep sq r) (lLf d ep sq r e) q) (N := n) (fun c _ => node_length (fun _ => rfl) _ _) n (Nat.le_refl _) k h
  exact this
theorem rise_congr {J : Nat → List UInt8 → List UInt8 → List UInt8} {id : Nat} {l : List UInt8} {w1 w2 : Nat → List UInt8} : ∀ n, (∀ k, k < n → w1 k = w2 k) → riseN J id l w1 n = riseN J id l w2 n
  | 0, _ => rfl
  | n + 1, h => by rw [riseN, riseN, rise_congr n (fun k hk => h k (by omega)), h n (by omega)]
theorem rise_honest (d : Int) (ep sq : UInt32) (r : Int) (e : List UInt8) (q n : Nat) : lRise d ep sq r q (lNode d ep sq r e 0 q) (showW d ep sq r e q n) n = lNode d ep sq r e n (q / 2 ^ n) := by
  have h1 := rise_node (J := lJ d ep sq r) (lf := lLf d ep sq r e) q n
  have h2 : lRise d ep sq r q (lNode d ep sq r e 0 q) (showW d ep sq r e q n) n = riseN (lJ d ep sq r) q (lLf d ep sq r e q) (wayN (lJ d ep sq r) (lLf d ep sq r e) q) n := rise_congr n fun k hk => way_chunk d ep sq r e q n k hk
  rw [h2, h1]
theorem ladder_sound {d : Int} {ep sq : UInt32} {r : Int} {e : List UInt8} {q lv : Nat} {l ws : List UInt8} (hl : l.length = 16) (hw : ws.length = lv * 16) (hq : q < 2 ^ lv) (h : lRise d ep sq r q l ws lv = lNode d ep sq r e lv 0) (hne : ¬ (l = lNode d ep sq r e 0 q ∧ ws = showW d ep sq r e q lv)) :
    clash (lNodeTs d ep sq r e lv 0) (lRiseTs d ep sq r q l ws lv) = true := by
  cases hc : clash (lNodeTs d ep sq r e lv 0) (lRiseTs d ep sq r q l ws lv) with
  | true => rfl
  | false =>
    exfalso
    have hq0 : q / 2 ^ lv = 0 := Nat.div_eq_of_lt hq
    have hs := rise_sound (J := lJ d ep sq r) (lf := lLf d ep sq r e) (lt := lLt d ep sq r e) (id := q) (l := l) (way := chunk ws) (fun _ _ _ _ _ ha hc h => joinX_inj ha hc h) (fun _ => rfl) hl lv (fun k hk => chunk_l hw hk) (by rw [hq0]; exact h) (by rw [hq0]; exact fun x hx y hy e => clash_not hc hx hy e)
    refine hne ⟨hs.1, sums_same hw (showW_length d ep sq r e q lv) fun i hi => ?_⟩
    rw [hs.2 i hi, way_chunk d ep sq r e q lv i hi]
theorem lnode_good (d : Int) (ep sq : UInt32) (r : Int) (e : List UInt8) (he : e.length = 16) : ∀ n q, ∀ t ∈ lNodeTs d ep sq r e n q, ∃ kd tx, t = kd :: tx ∧ tx.length ≤ 140737488355199
  | 0, q, t, ht => by
    simp only [lNodeTs, nodeTs, lLt, List.mem_singleton] at ht
    subst ht
    exact ⟨_, _, rfl, by simp [he]⟩
  | n + 1, q, t, ht => by
    simp only [lNodeTs, nodeTs, List.mem_append, List.mem_singleton] at ht
    rcases ht with (ht | ht) | rfl
    · exact lnode_good d ep sq r e he n _ t ht
    · exact lnode_good d ep sq r e he n _ t ht
    · exact ⟨_, _, rfl, by have h1 : (node (lJ d ep sq r) (lLf d ep sq r e) n (2 * q)).length = 16 := lNode_length d ep sq r e n (2 * q); have h2 : (node (lJ d ep sq r) (lLf d ep sq r e) n (2 * q + 1)).length = 16 := lNode_length d ep sq r e n (2 * q + 1); rw [List.length_append, List.length_append, placeB_length]; omega⟩
theorem lrise_good (d : Int) (ep sq : UInt32) (r : Int) (q : Nat) (l ws : List UInt8) (n : Nat) (hl : l.length = 16) (hw : ws.length = n * 16) : ∀ k, k ≤ n → ∀ t ∈ lRiseTs d ep sq r q l ws k, ∃ kd tx, t = kd :: tx ∧ tx.length ≤ 140737488355199
  | 0, _, t, ht => by simp [lRiseTs, riseTs] at ht
  | k + 1, hk, t, ht => by
    simp only [lRiseTs, riseTs, List.mem_append, List.mem_singleton] at ht
    rcases ht with ht | rfl
    · exact lrise_good d ep sq r q l ws n hl hw k (by omega) t ht
    · have h1 : (riseN (lJ d ep sq r) q l (chunk ws) k).length = 16 := riseN_length hl k
      have h2 := chunk_l hw (show k < n by omega)
      unfold stepX
      split
      · exact ⟨_, _, rfl, by rw [List.length_append, List.length_append, placeB_length]; omega⟩
      · exact ⟨_, _, rfl, by rw [List.length_append, List.length_append, placeB_length]; omega⟩
theorem Rd.head {w : World} {ad : Option Addr} {cap n m : Nat} {ws : List UInt8} (h : Rd w (.slice ad n cap) n (ws.map B)) (hw : ws.length = n * 16) (hm : m ≤ n) (hp : 0 < m) : Rd w (.slice ad m cap) m ((ws.take (16 * m)).map B) := by
  obtain ⟨b, o, T, fr, all, rfl, hb, hc⟩ := Rd.bytes_at h hw (by omega)
  obtain ⟨_, cap', e, h1, h2, _, _⟩ := h
  cases e
  refine ⟨_, _, rfl, by omega, h2, (fun e => by cases e), .inr ⟨b, o, T, fr, all, rfl, hb, ?_⟩⟩
  have hle : (ws.take (16 * m)).length ≤ ws.length := by rw [List.length_take]; omega
  rw [List.length_map, List.map_take]
  have h3 := congrArg (List.take (ws.take (16 * m)).length) hc
  rw [List.take_take, List.length_map, Nat.min_eq_left hle] at h3
  rw [h3, List.length_take, ← List.map_take, ← List.map_take]
  congr 1
  rw [List.take_eq_take_iff]
  omega

end Go.Proofs.Ytmgnnclkjkbmdaa
end

/- The law of what rises. -/
section
set_option linter.unusedSimpArgs false
set_option linter.unusedVariables false
set_option maxRecDepth 100000
namespace Go.Proofs.Ytmgnnclkjkbmdaa
open Go Go.Fw

open Sha
theorem orNo {a b : Bool} (h : (!a || b) = false) : a = true ∧ b = false := by cases a <;> cases b <;> simp_all

-- fingerpostlaw06.LadderSound
set_option maxHeartbeats 4000000 in
theorem law_LadderSound (d : Int) (ep sq : UInt32) (r x id : Int) (e l : List UInt8) (n : Nat) (ws : List UInt8) (wv : Value) (hon : Bool) (hel : e.length = 16) (hll : l.length = 16) (hwl : ws.length = n * 16) (w : World) (hqw : Rd w wv n (ws.map B)) : Ctr Try.prog 22 [.agg #[I d, U ep, U sq], I r, I x, I id, .agg (e.map B).toArray, .agg (l.map B).toArray, wv, .bool hon] w (fun _ => False) (fun v _ => v = .bool true) := by
  have hnl := hqw.le
  obtain ⟨wad, wcap, rfl, hwc, hwm⟩ := Rd.sl hqw
  refine fn_start (N := 126) Try.func22 rfl rfl rfl fun ac hk => ?_
  have hs := St.start hk w
  refine wp_seq ?_
  refine wp_reg ?_
  refine s_box hs rfl rfl rfl fun ac ww g8 hs => ?_
  refine s_box hs rfl rfl rfl fun ac ww g12 hs => ?_
  refine s_box hs rfl rfl rfl fun ac ww g13 hs => ?_
  refine s_q hs (c_assign (hs.ev rfl)) rfl fun ac hs => ?_
  refine s_end ?_
  replace hs := hs.sub (F' := [(1, _), (2, _), (3, _), (6, _), (7, _), (8, _), (12, _), (13, _), (16, _)]) ⟨rfl, rfl, rfl, rfl, rfl, rfl, rfl, rfl, rfl, trivial⟩
  refine then_n ?_
  refine wp_seq ?_
  refine wp_seq ?_
  refine wp_reg ?_
  refine s_call hs fu70 .nil (law06_awake _) rfl fun ac ww v29 hf hp hs => ?_
  obtain rfl := hp
  replace hs := hs [] (.nil _ _)
  refine s_q hs (c_ff (c_not (hs.ev rfl)) (rfl)) rfl fun ac hs => ?_
  refine s_q hs (c_move (hs.ev rfl)) rfl fun ac hs => ?_
  refine s_yes hs rfl rfl ?_
  refine s_q hs (c_move (hs.ev rfl)) rfl fun ac hs => ?_
  refine s_yes hs rfl rfl ?_
  refine s_q hs (c_move (hs.ev rfl)) rfl fun ac hs => ?_
  refine s_yes hs rfl rfl ?_
  refine s_call hs fu107 (.cons (hs.ev rfl) (.cons (hs.ev rfl) .nil)) (ref06_Right r x _) rfl fun ac ww v34 hf hp hs => ?_
  obtain rfl := hp
  replace hs := hs [] (.nil _ _)
  refine s_yes hs rfl rfl ?_
  refine s_q hs (c_not (hs.ev rfl)) rfl fun ac hs => ?_
  refine s_q hs (c_pick (hs.ev rfl) (hs.ev rfl) (hs.ev rfl)) rfl fun ac hs => ?_
  refine s_q hs (c_move (hs.ev rfl)) rfl fun ac hs => ?_
  refine s_g hs rfl rfl (fun hg => c_move (hs.ev rfl)) rfl fun ac hs => ?_
  refine s_g hs rfl rfl (fun hg => c_lssI (gev (hs.ev rfl) hg) (hs.ev rfl)) rfl fun ac hs => ?_
  refine s_q hs (c_or (hs.ev rfl) (hs.ev rfl)) rfl fun ac hs => ?_
  refine s_q hs (c_move (hs.ev rfl)) rfl fun ac hs => ?_
  refine s_g hs rfl rfl (fun hg => c_move (hs.ev rfl)) rfl fun ac hs => ?_
  refine s_g hs rfl rfl (fun hg => c_move (hs.ev rfl)) rfl fun ac hs => ?_
  refine s_g hs rfl rfl (fun hg => c_geqI (gev (hs.ev rfl) hg) (gev (hs.ev rfl) hg)) rfl fun ac hs => ?_
  refine s_q hs (c_or (hs.ev rfl) (hs.ev rfl)) rfl fun ac hs => ?_
  refine s_end ?_
  replace hs := hs.sub (F' := [(1, _), (2, _), (3, _), (6, _), (7, _), (8, _), (12, _), (13, _), (16, _), (45, _)]) ⟨rfl, rfl, rfl, rfl, rfl, rfl, rfl, rfl, rfl, rfl, trivial⟩
  refine then_n ?_
  refine s_cond hs rfl (fun hc => ?_) (fun hc => ?_)
  · skip
    refine wp_seq ?_
    refine wp_reg ?_
    refine s_call hs fu70 .nil (law06_awake _) rfl fun ac ww v46 hf hp hs => ?_
    obtain rfl := hp
    replace hs := hs [] (.nil _ _)
    refine s_q hs (c_assign (hs.ev rfl)) rfl fun ac hs => ?_
    refine s_end ?_
    replace hs := hs.sub (F' := [(1, _), (2, _), (3, _), (6, _), (7, _), (8, _), (12, _), (13, _), (16, _)]) ⟨rfl, rfl, rfl, rfl, rfl, rfl, rfl, rfl, rfl, trivial⟩
    refine then_n ?_
    refine wp_ret ?_
    refine then_r ?_
    refine s_ret hs rfl (.tmp (hs.tmp rfl) .nil) rfl ⟨_, rfl, hs.fr, ?_⟩
    rfl
  · skip
    simp only [Bool.or_eq_false_iff, Bool.not_eq_false', decide_eq_false_iff_not] at hc
    obtain ⟨⟨hr, hid0⟩, hidx⟩ := hc
    obtain ⟨lv, W, hlv, hW, rfl, hxl⟩ := right_lv hr
    obtain ⟨q, rfl⟩ : ∃ q : Nat, id = q := ⟨id.toNat, by omega⟩
    have hqW : q < W := by omega
    have hq0 : q / 2 ^ lv = 0 := Nat.div_eq_of_lt (hW ▸ hqW)
    have hW8 : W ≤ 8 := by rw [hW]; exact pow8 hlv
    have hup : upB d ep sq r e W = lNode d ep sq r e lv 0 := by rw [upB, if_pos hr, hxl]; rfl
    refine wp_skip ?_
    refine then_n ?_
    refine wp_seq ?_
    refine wp_reg ?_
    refine s_q hs (c_loadW ty81 ag81 (hs.ev rfl) (hs.seg (i := 2) rfl) (by rfl)) rfl fun ac hs => ?_
    refine s_q hs (c_move (hs.ev rfl)) rfl fun ac hs => ?_
    refine s_q hs (c_loadW ty22 rfl (hs.ev rfl) (hs.seg (i := 1) rfl) (by rw [List.length_map, hel])) rfl fun ac hs => ?_
    refine s_q hs (c_move (hs.ev rfl)) rfl fun ac hs => ?_
    refine s_q hs (c_move (hs.ev rfl)) rfl fun ac hs => ?_
    refine s_call hs fu108 (.cons (hs.ev rfl) (.cons (hs.ev rfl) (.cons (hs.ev rfl) (.cons (hs.ev rfl) (.cons (hs.ev rfl) .nil))))) (ref06_Show d ep sq r e W lv q hel hr hW hlv hxl hqW _) rfl fun ac ww v53 hf hp hs => ?_
    obtain ⟨L', ⟨tv1, rfl, rfl⟩, hh⟩ := hp
    replace hs := hs _ hh
    obtain ⟨sad, scap, rfl, hsc, hsm⟩ := Rd.sl (Rd.of_row (hs.get (i := 0) rfl))
    refine s_q hs (c_move (hs.ev rfl)) rfl fun ac hs => ?_
    refine s_q hs (c_extract (hs.ev rfl) rfl) rfl fun ac hs => ?_
    refine s_q hs (c_extract (hs.ev rfl) rfl) rfl fun ac hs => ?_
    refine s_q hs (c_extract (hs.ev rfl) rfl) rfl fun ac hs => ?_
    refine s_alloc hs ty22 rfl fun ac ww g17 hs => ?_
    refine s_storeW (i := 0) hs ty22 rfl rfl rfl (by rw [List.length_map]; exact lNode_length _ _ _ _ _ _ _) (all_map_B _) rfl fun ww hs => ?_
    refine s_q hs (c_assign (hs.ev rfl)) rfl fun ac hs => ?_
    refine s_q hs (c_assign (hs.ev rfl)) rfl fun ac hs => ?_
    refine s_end ?_
    replace hs := hs.sub (F' := [(1, _), (2, _), (3, _), (6, _), (7, _), (8, _), (12, _), (13, _), (16, _), (17, _), (18, _)]) ⟨rfl, rfl, rfl, rfl, rfl, rfl, rfl, rfl, rfl, rfl, rfl, trivial⟩
    refine then_n ?_
    refine wp_seq ?_
    refine wp_seq ?_
    refine wp_reg ?_
    refine s_q hs (c_move (hs.ev rfl)) rfl fun ac hs => ?_
    refine s_end ?_
    refine then_n ?_
    refine s_cond hs rfl (fun hc => ?_) (fun hc => ?_)
    · skip
      have hb : hon = true := hc
      refine wp_reg ?_
      refine s_q hs (c_loadW ty22 rfl (hs.ev rfl) (hs.seg (i := 0) rfl) (by rw [List.length_map]; exact lNode_length _ _ _ _ _ _ _)) rfl fun ac hs => ?_
      refine s_q hs (c_move (hs.ev rfl)) rfl fun ac hs => ?_
      refine s_storeW (i := 2) hs ty22 rfl rfl rfl (by rw [List.length_map]; exact lNode_length _ _ _ _ _ _ _) (all_map_B _) (by rw [List.length_map, hll]) fun ww hs => ?_
      have hl1l : (lNode d ep sq r e 0 q).length = 16 := lNode_length _ _ _ _ _ _ _
      have hwl1 : (showW d ep sq r e q lv).length = lv * 16 := showW_length d ep sq r e q lv
      have hn1l : lv ≤ 1000000 := by omega
      have hbad : ¬ (riseE lv lv = 0 ∧ riseB d ep sq r q (lNode d ep sq r e 0 q) (showW d ep sq r e q lv) lv lv = upB d ep sq r e W) → False := fun h => h ⟨by rw [riseE, if_pos rfl], by rw [riseB, if_pos rfl, rise_honest, hq0, hup]⟩
      refine s_q hs (c_assign (hs.ev rfl)) rfl fun ac hs => ?_
      refine s_end ?_
      replace hs := hs.sub (F' := [(1, _), (2, _), (3, _), (6, _), (7, _), (8, _), (12, _), (13, _), (16, _), (17, _), (18, _)]) ⟨rfl, rfl, rfl, rfl, rfl, rfl, rfl, rfl, rfl, rfl, rfl, trivial⟩
      refine then_n ?_
      refine wp_seq ?_
      refine wp_seq ?_
      refine wp_reg ?_
      refine s_q hs (c_move (hs.ev rfl)) rfl fun ac hs => ?_
      refine s_q hs (c_lenS un109 (hs.ev rfl)) rfl fun ac hs => ?_
      refine s_q hs (c_ff (c_gtrI (hs.ev rfl) (hs.ev rfl)) (by simp; omega)) rfl fun ac hs => ?_
      refine s_end ?_
      replace hs := hs.sub (F' := [(1, _), (2, _), (3, _), (6, _), (7, _), (8, _), (12, _), (13, _), (16, _), (17, _), (18, _), (62, _)]) ⟨rfl, rfl, rfl, rfl, rfl, rfl, rfl, rfl, rfl, rfl, rfl, rfl, trivial⟩
      refine then_n ?_
      refine wp_cond_false (hs.ev rfl) ?_
      refine wp_skip ?_
      refine then_n ?_
      refine wp_seq ?_
      refine wp_region_rgX (J := [8]) pmix 10 (by kernel_rfl) (by kernel_rfl) rfl rfl hs ?_
      simp only [List.take_succ_cons, List.take_zero]
      refine rg_q (fun ac ww h => c_loadW ty81 ag81 (h.ev rfl) (h.blk (hs.seg (i := 4) rfl)) (by rfl)) rfl ?_
      refine rg_call fu68 (fun ac ww h => (.cons (h.ev rfl) .nil)) (fun ww hf => law06_To d ep sq ww) rfl ?_
      refine rg_q (fun ac ww h => c_move (h.ev rfl)) rfl ?_
      refine rg_q (fun ac ww h => c_loadW ty22 rfl (h.ev rfl) (h.blk (hs.seg (i := 3) rfl)) (by rw [List.length_map, hel])) rfl ?_
      refine rg_q (fun ac ww h => c_move (h.ev rfl)) rfl ?_
      refine rg_call fu67 (fun ac ww h => (.cons (h.ev rfl) (.cons (h.ev rfl) (.cons (h.ev rfl) (.cons (h.ev rfl) .nil))))) (fun ww hf => ladder_Up d ep sq r e W hel ww) rfl ?_
      refine rg_q (fun ac ww h => c_move (h.ev rfl)) rfl ?_
      refine rg_q (fun ac ww h => c_extract (h.ev rfl) rfl) rfl ?_
      refine rg_q (fun ac ww h => c_extract (h.ev rfl) rfl) rfl ?_
      refine rg_alloc ty54 rfl ?_
      refine rg_nil fun ac ww L' hf hfe hs hlk => ?_
      simp only [List.drop_succ_cons, List.drop_zero]
      obtain ⟨v20, L20, M20, h20, e20, rfl, rfl⟩ := hfe
      replace hs := hs.add h20
      obtain ⟨g20, rfl, rfl⟩ := e20
      refine sk_storeW (i := 0) hs ty54 rfl rfl rfl (by rw [List.length_map, upB_length]) (all_map_B _) rfl fun ww hs => ?_
      refine s_q hs (c_assign (hs.ev rfl)) rfl fun ac hs => ?_
      refine s_end ?_
      replace hs := hs.sub (F' := [(1, _), (2, _), (3, _), (6, _), (7, _), (8, _), (12, _), (13, _), (16, _), (17, _), (18, _), (20, _)]) ⟨rfl, rfl, rfl, rfl, rfl, rfl, rfl, rfl, rfl, rfl, rfl, rfl, trivial⟩
      refine then_n ?_
      refine wp_seq ?_
      refine wp_region_rgX (J := [11]) pmix 13 (by kernel_rfl) (by kernel_rfl) rfl rfl hs ?_
      simp only [List.take_succ_cons, List.take_zero]
      refine rg_q (fun ac ww h => c_loadW ty81 ag81 (h.ev rfl) (h.blk (hs.seg (i := 5) rfl)) (by rfl)) rfl ?_
      refine rg_call fu68 (fun ac ww h => (.cons (h.ev rfl) .nil)) (fun ww hf => law06_To d ep sq ww) rfl ?_
      refine rg_q (fun ac ww h => c_move (h.ev rfl)) rfl ?_
      refine rg_q (fun ac ww h => c_move (h.ev rfl)) rfl ?_
      refine rg_q (fun ac ww h => c_move (h.ev rfl)) rfl ?_
      refine rg_q (fun ac ww h => c_loadW ty22 rfl (h.ev rfl) (h.blk (hs.seg (i := 3) rfl)) (by rw [List.length_map, hl1l])) rfl ?_
      refine rg_q (fun ac ww h => c_move (h.ev rfl)) rfl ?_
      refine rg_callE (rowS lv (showW d ep sq r e q lv)) (fun _ _ _ _ _ h => h) fu93 (fun ac ww h => ?_) rfl ?_
      · exact ⟨_, .cons (h.ev rfl) .nil, law03_To lv (showW d ep sq r e q lv) _ hwl1 hn1l _ ((Rd.of_row (hs.get (i := 2) rfl)).fr0 h.fr)⟩
      refine rg_callV (c := .tuple #[.agg ((riseB d ep sq r q (lNode d ep sq r e 0 q) (showW d ep sq r e q lv) lv lv).map B).toArray, I (riseE lv lv)]) fu109 (fun ac ww h => ?_) rfl ?_
      · obtain ⟨u82, L82, he82, hee, hh82⟩ := h.ent (n := 82) rfl rfl
        obtain rfl := hee
        exact ⟨_, .cons (h.ev rfl) (.cons (h.ev rfl) (.cons (h.ev rfl) (.cons (h.ev rfl) (.cons (h.ev rfl) (.cons he82 .nil))))), ladder_Rise d ep sq r W lv q lv (lNode d ep sq r e 0 q) (showW d ep sq r e q lv) _ hr hW hlv hxl hqW hl1l hwl1 ww (Rd.of_row (hh82.holds _ (List.mem_singleton.2 rfl)))⟩
      refine rg_q (fun ac ww h => c_move (h.ev rfl)) rfl ?_
      refine rg_q (fun ac ww h => c_extract (h.ev rfl) rfl) rfl ?_
      refine rg_q (fun ac ww h => c_extract (h.ev rfl) rfl) rfl ?_
      refine rg_alloc ty54 rfl ?_
      refine rg_nil fun ac ww L' hf hfe hs hlk => ?_
      simp only [List.drop_succ_cons, List.drop_zero]
      obtain ⟨v22, L22, M22, h22, e22, ⟨v82, L82, M82, h82, e82, rfl, rfl⟩, rfl⟩ := hfe
      replace hs := hs.add h22
      replace hs := hs.add h82
      obtain ⟨g22, rfl, rfl⟩ := e22
      obtain rfl := e82
      refine sk_storeW (i := 0) hs ty54 rfl rfl rfl (by rw [List.length_map, riseB_length hl1l]) (all_map_B _) rfl fun ww hs => ?_
      refine s_q hs (c_assign (hs.ev rfl)) rfl fun ac hs => ?_
      refine s_end ?_
      replace hs := hs.sub (F' := [(1, _), (2, _), (3, _), (6, _), (7, _), (8, _), (12, _), (13, _), (16, _), (17, _), (18, _), (20, _), (22, _), (23, _)]) ⟨rfl, rfl, rfl, rfl, rfl, rfl, rfl, rfl, rfl, rfl, rfl, rfl, rfl, rfl, trivial⟩
      refine then_n ?_
      refine wp_seq ?_
      refine wp_seq ?_
      refine wp_reg ?_
      refine s_q hs (c_move (hs.ev rfl)) rfl fun ac hs => ?_
      refine s_q hs (c_neqI (hs.ev rfl) (hs.ev rfl)) rfl fun ac hs => ?_
      refine s_q hs (c_move (hs.ev rfl)) rfl fun ac hs => ?_
      refine s_g hs rfl rfl (fun hg => c_loadW ty54 rfl (hs.ev rfl) (hs.seg (i := 0) rfl) (by rw [List.length_map, riseB_length hl1l])) rfl fun ac hs => ?_
      refine s_g hs rfl rfl (fun hg => c_loadW ty54 rfl (hs.ev rfl) (hs.seg (i := 2) rfl) (by rw [List.length_map, upB_length])) rfl fun ac hs => ?_
      refine s_g hs rfl rfl (fun hg => c_neqAB un54 ty5 eg54 (gev (hs.ev rfl) hg) (gev (hs.ev rfl) hg) (riseB_length hl1l _ _) (upB_length _ _ _ _ _ _)) rfl fun ac hs => ?_
      refine s_q hs (c_or (hs.ev rfl) (hs.ev rfl)) rfl fun ac hs => ?_
      refine s_end ?_
      replace hs := hs.sub (F' := [(1, _), (2, _), (3, _), (6, _), (7, _), (8, _), (12, _), (13, _), (16, _), (17, _), (18, _), (92, _)]) ⟨rfl, rfl, rfl, rfl, rfl, rfl, rfl, rfl, rfl, rfl, rfl, rfl, trivial⟩
      refine then_n ?_
      refine s_cond hs rfl (fun hc => ?_) (fun hc => ?_)
      · skip
        refine wp_seq ?_
        refine wp_reg ?_
        refine s_q hs (c_move (hs.ev rfl)) rfl fun ac hs => ?_
        refine s_q hs (c_tt (c_not (hs.ev rfl)) ((hbad (fun h => by simp [h.1, h.2] at hc)).elim)) rfl fun ac hs => ?_
        refine s_q hs (c_assign (hs.ev rfl)) rfl fun ac hs => ?_
        refine s_end ?_
        replace hs := hs.sub (F' := [(1, _), (2, _), (3, _), (6, _), (8, _), (12, _), (13, _), (16, _), (17, _), (18, _)]) ⟨rfl, rfl, rfl, rfl, rfl, rfl, rfl, rfl, rfl, rfl, trivial⟩
        refine then_n ?_
        refine wp_ret ?_
        refine then_r ?_
        refine s_ret hs rfl (.tmp (hs.tmp rfl) .nil) rfl ⟨_, rfl, hs.fr, ?_⟩
        rfl
      · skip
        have hgood : riseE lv lv = 0 ∧ riseB d ep sq r q (lNode d ep sq r e 0 q) (showW d ep sq r e q lv) lv lv = upB d ep sq r e W := by simpa using hc
        have hrise : lRise d ep sq r q (lNode d ep sq r e 0 q) (showW d ep sq r e q lv) lv = lNode d ep sq r e lv 0 := by have h := hgood.2; rw [riseB, if_pos rfl, hup] at h; exact h
        refine wp_skip ?_
        refine then_n ?_
        refine wp_seq ?_
        refine wp_seq ?_
        refine wp_reg ?_
        refine s_q hs (c_loadW ty22 rfl (hs.ev rfl) (hs.seg (i := 5) rfl) (by rw [List.length_map, hl1l])) rfl fun ac hs => ?_
        refine s_q hs (c_loadW ty22 rfl (hs.ev rfl) (hs.seg (i := 3) rfl) (by rw [List.length_map]; exact lNode_length _ _ _ _ _ _ _)) rfl fun ac hs => ?_
        refine s_q hs (c_eqlAB un22 ty5 eg22 (hs.ev rfl) (hs.ev rfl) hl1l (lNode_length _ _ _ _ _ _ _)) rfl fun ac hs => ?_
        refine s_q hs (c_move (hs.ev rfl)) rfl fun ac hs => ?_
        refine s_g hs rfl rfl (fun hg => c_move (hs.ev rfl)) rfl fun ac hs => ?_
        refine s_g hs rfl rfl (fun hg => c_move (hs.ev rfl)) rfl fun ac hs => ?_
        refine s_gcall hs rfl rfl fu102 (fun hg => (.cons (gev (hs.ev rfl) hg) (.cons (gev (hs.ev rfl) hg) .nil))) (fun hg => ref03_SameSums lv lv (showW d ep sq r e q lv) (showW d ep sq r e q lv) _ _ hwl1 (showW_length d ep sq r e q lv) _ (Rd.of_row (hs.get (i := 4) rfl)) (Rd.of_row (hs.get (i := 4) rfl))) rfl fun ac ww hf hs => ?_
        refine s_q hs (c_and (hs.ev rfl) (hs.ev rfl)) rfl fun ac hs => ?_
        refine s_end ?_
        replace hs := hs.sub (F' := [(1, _), (2, _), (3, _), (6, _), (8, _), (12, _), (13, _), (16, _), (102, _)]) ⟨rfl, rfl, rfl, rfl, rfl, rfl, rfl, rfl, rfl, trivial⟩
        refine then_n ?_
        refine s_cond hs rfl (fun hc => ?_) (fun hc => ?_)
        · skip
          refine wp_seq ?_
          refine wp_reg ?_
          refine s_q hs (c_assign (hs.ev rfl)) rfl fun ac hs => ?_
          refine s_end ?_
          replace hs := hs.sub (F' := [(1, _), (2, _), (3, _), (6, _), (8, _), (12, _), (13, _), (16, _)]) ⟨rfl, rfl, rfl, rfl, rfl, rfl, rfl, rfl, trivial⟩
          refine then_n ?_
          refine wp_ret ?_
          refine then_r ?_
          refine s_ret hs rfl (.tmp (hs.tmp rfl) .nil) rfl ⟨_, rfl, hs.fr, ?_⟩
          rfl
        · skip
          have hne : ¬ ((lNode d ep sq r e 0 q) = lNode d ep sq r e 0 q ∧ (showW d ep sq r e q lv) = showW d ep sq r e q lv) := by revert hc; simp
          have hcl := ladder_sound hl1l hwl1 (hW ▸ hqW) hrise hne
          refine wp_skip ?_
          refine then_n ?_
          refine wp_seq ?_
          refine wp_region_rgX (J := [8]) pmix 10 (by kernel_rfl) (by kernel_rfl) rfl rfl hs ?_
          simp only [List.take_succ_cons, List.take_zero]
          refine rg_q (fun ac ww h => c_loadW ty81 ag81 (h.ev rfl) (h.blk (hs.seg (i := 7) rfl)) (by rfl)) rfl ?_
          refine rg_q (fun ac ww h => c_move (h.ev rfl)) rfl ?_
          refine rg_q (fun ac ww h => c_loadW ty22 rfl (h.ev rfl) (h.blk (hs.seg (i := 6) rfl)) (by rw [List.length_map, hel])) rfl ?_
          refine rg_q (fun ac ww h => c_move (h.ev rfl)) rfl ?_
          refine rg_call fu76 (fun ac ww h => (.cons (h.ev rfl) .nil)) (fun ww hf => (by have h := ref06_Levels (W : Int) ww; rw [hxl] at h; exact h)) rfl ?_
          refine rg_callE (tupE (.agg ((lNode d ep sq r e lv 0).map B).toArray) (textsE 34 5 (lNodeTs d ep sq r e lv 0))) (fun _ _ _ _ _ h => h) fu90 (fun ac ww h => ?_) rfl ?_
          · exact ⟨_, .cons (h.ev rfl) (.cons (h.ev rfl) (.cons (h.ev rfl) (.cons (h.ev rfl) (.cons (h.ev rfl) .nil)))), ref06_Node d ep sq r e hel lv hlv 0 (Nat.two_pow_pos _) _⟩
          refine rg_moveT rfl rfl rfl ?_
          refine rg_ext0 rfl rfl rfl ?_
          refine rg_ext1 rfl rfl rfl ?_
          refine rg_alloc ty22 rfl ?_
          refine rg_nil fun ac ww L' hf hfe hs hlk => ?_
          simp only [List.drop_succ_cons, List.drop_zero]
          obtain ⟨v24, L24, M24, h24, e24, ⟨v111, L111, M111, h111, e111, ⟨v103, L103, M103, h103, e103, ⟨v109, L109, M109, h109, e109, rfl, rfl⟩, rfl⟩, rfl⟩, rfl⟩ := hfe
          replace hs := hs.add h24
          replace hs := hs.add h111
          replace hs := hs.add h103
          replace hs := hs.add h109
          obtain ⟨g24, rfl, rfl⟩ := e24
          obtain ⟨tv109, rfl, e109⟩ := e109
          obtain ⟨-, rfl⟩ := e103
          obtain rfl := lk_move (j := 6) hlk (by decide) rfl (by kernel_rfl) h103 h109
          obtain ⟨-, rfl⟩ := e111
          obtain rfl := lk_ext (j := 8) hlk (by decide) rfl (by kernel_rfl) h111 h103 rfl
          obtain ⟨ps109, hps109, rfl⟩ := e109
          refine sk_storeW (i := 0) hs ty22 rfl rfl rfl (by rw [List.length_map]; exact lNode_length _ _ _ _ _ _ _) (all_map_B _) rfl fun ww hs => ?_
          refine s_q hs (c_assign (hs.ev rfl)) rfl fun ac hs => ?_
          refine s_end ?_
          replace hs := hs.sub (F' := [(1, _), (2, _), (3, _), (6, _), (8, _), (13, _), (16, _), (25, _)]) ⟨rfl, rfl, rfl, rfl, rfl, rfl, rfl, rfl, trivial⟩
          refine then_n ?_
          refine wp_seq ?_
          refine wp_reg ?_
          refine s_q hs (c_loadW ty81 ag81 (hs.ev rfl) (hs.seg (i := 9) rfl) (by rfl)) rfl fun ac hs => ?_
          refine s_q hs (c_move (hs.ev rfl)) rfl fun ac hs => ?_
          refine s_q hs (c_move (hs.ev rfl)) rfl fun ac hs => ?_
          refine s_q hs (c_move (hs.ev rfl)) rfl fun ac hs => ?_
          refine s_q hs (c_loadW ty22 rfl (hs.ev rfl) (hs.seg (i := 7) rfl) (by rw [List.length_map, hl1l])) rfl fun ac hs => ?_
          refine s_q hs (c_move (hs.ev rfl)) rfl fun ac hs => ?_
          refine s_call hs fu110 (.cons (hs.ev rfl) (.cons (hs.ev rfl) (.cons (hs.ev rfl) (.cons (hs.ev rfl) (.cons (hs.ev rfl) (.cons (hs.ev rfl) .nil)))))) (ref06_Rise d ep sq r W lv q lv (lNode d ep sq r e 0 q) (showW d ep sq r e q lv) _ hr hW hlv hxl hqW hl1l hwl1 hn1l _ (Rd.of_row (hs.get (i := 6) rfl))) rfl fun ac ww v119 hf hp hs => ?_
          obtain ⟨L', ⟨tv2, rfl, ps119, hps119, rfl⟩, hh⟩ := hp
          replace hs := hs _ hh
          refine s_q hs (c_move (hs.ev rfl)) rfl fun ac hs => ?_
          refine s_q hs (c_extract (hs.ev rfl) rfl) rfl fun ac hs => ?_
          refine s_q hs (c_extract (hs.ev rfl) rfl) rfl fun ac hs => ?_
          refine s_q hs (c_extract (hs.ev rfl) rfl) rfl fun ac hs => ?_
          refine s_alloc hs ty22 rfl fun ac ww g26 hs => ?_
          refine s_storeW (i := 0) hs ty22 rfl rfl rfl (by rw [List.length_map, riseB_length hl1l]) (all_map_B _) rfl fun ww hs => ?_
          refine s_q hs (c_assign (hs.ev rfl)) rfl fun ac hs => ?_
          refine s_q hs (c_assign (hs.ev rfl)) rfl fun ac hs => ?_
          refine s_end ?_
          replace hs := hs.sub (F' := [(16, _), (25, _), (27, _)]) ⟨rfl, rfl, rfl, trivial⟩
          refine then_n ?_
          refine wp_seq ?_
          refine wp_reg ?_
          refine s_q hs (c_move (hs.ev rfl)) rfl fun ac hs => ?_
          refine s_q hs (c_move (hs.ev rfl)) rfl fun ac hs => ?_
          have hx2 : riseX d ep sq r q (lNode d ep sq r e 0 q) (showW d ep sq r e q lv) lv lv = lRiseTs d ep sq r q (lNode d ep sq r e 0 q) (showW d ep sq r e q lv) lv := if_pos rfl
          rw [hx2] at hps119
          have hg1 : Good ps109 := good_of hps109 (by have := nodeTs_le d ep sq r e lv 0 (by omega); omega) (lnode_good d ep sq r e hel lv 0)
          have hg2 : Good ps119 := good_of hps119 (by rw [lRiseTs_length]; omega) (lrise_good d ep sq r q (lNode d ep sq r e 0 q) (showW d ep sq r e q lv) lv hl1l hwl1 lv (Nat.le_refl _))
          refine s_call hs fu66 (.cons (hs.ev rfl) (.cons (hs.ev rfl) .nil)) (ref06_Clash ps109 ps119 _ _ hg1 hg2 _ (RdP.texts (hs.get (i := 3) rfl)) (RdP.texts (hs.get (i := 1) rfl))) rfl fun ac ww v125 hf hp hs => ?_
          rw [hps109, hps119, hcl] at hp
          obtain rfl := hp
          replace hs := hs [] (.nil _ _)
          refine s_q hs (c_assign (hs.ev rfl)) rfl fun ac hs => ?_
          refine s_end ?_
          replace hs := hs.sub (F' := [(16, _)]) ⟨rfl, trivial⟩
          refine then_n ?_
          refine wp_ret ?_
          refine s_ret hs rfl (.tmp (hs.tmp rfl) .nil) rfl ⟨_, rfl, hs.fr, ?_⟩
          rfl
    · skip
      have hb : hon = false := hc
      obtain ⟨l1, hl1⟩ : ∃ l1, l1 = l := ⟨_, rfl⟩
      rw [← hl1] at hs
      have hl1l : l1.length = 16 := by rw [hl1]; exact hll
      refine wp_skip ?_
      refine then_n ?_
      refine wp_seq ?_
      refine wp_seq ?_
      refine wp_reg ?_
      refine s_q hs (c_move (hs.ev rfl)) rfl fun ac hs => ?_
      refine s_q hs (c_lenS un109 (hs.ev rfl)) rfl fun ac hs => ?_
      refine s_q hs (c_gtrI (hs.ev rfl) (hs.ev rfl)) rfl fun ac hs => ?_
      refine s_end ?_
      replace hs := hs.sub (F' := [(1, _), (2, _), (3, _), (6, _), (7, _), (8, _), (12, _), (13, _), (16, _), (17, _), (18, _), (62, _)]) ⟨rfl, rfl, rfl, rfl, rfl, rfl, rfl, rfl, rfl, rfl, rfl, rfl, trivial⟩
      refine then_n ?_
      refine s_cond hs rfl (fun hc => ?_) (fun hc => ?_)
      · try simp only [decide_eq_true_eq, decide_eq_false_iff_not, Bool.not_eq_true', Bool.not_eq_false', Bool.and_eq_true, Bool.or_eq_true, Bool.or_eq_false_iff] at hc
        obtain ⟨n1, ws1, hn1, hn1l, hwl1, hq1⟩ : ∃ (n1 : Nat) (ws1 : List UInt8), n1 = 20 ∧ n1 ≤ 1000000 ∧ ws1.length = n1 * 16 ∧ Rd w (.slice wad 20 wcap) n1 (ws1.map B) := ⟨20, ws.take (16 * 20), rfl, by decide, by rw [List.length_take]; omega, Rd.head hqw hwl (by omega) (by decide)⟩
        have hbad : riseE lv n1 = 0 → False := fun h => by rw [riseE, if_neg (by omega)] at h; cases h
        refine wp_reg ?_
        refine s_q hs (c_move (hs.ev rfl)) rfl fun ac hs => ?_
        refine s_q hs (c_to (c_sliceH (j := 20) un109 ty22 (hs.ev rfl) (hs.ev rfl) rfl (by omega)) ((show Value.slice _ 20 wcap = Value.slice wad 20 wcap from by rw [if_neg (by omega)]; cases wad <;> simp [Addr.add]))) rfl fun ac hs => ?_
        refine s_q hs (c_assign (hs.ev rfl)) rfl fun ac hs => ?_
        refine s_end ?_
        replace hs := hs.sub (F' := [(1, _), (2, _), (3, _), (6, _), (7, _), (8, _), (12, _), (13, _), (16, _), (17, _), (18, _)]) ⟨rfl, rfl, rfl, rfl, rfl, rfl, rfl, rfl, rfl, rfl, rfl, trivial⟩
        refine then_n ?_
        refine wp_seq ?_
        refine wp_region_rgX (J := [8]) pmix 10 (by kernel_rfl) (by kernel_rfl) rfl rfl hs ?_
        simp only [List.take_succ_cons, List.take_zero]
        refine rg_q (fun ac ww h => c_loadW ty81 ag81 (h.ev rfl) (h.blk (hs.seg (i := 4) rfl)) (by rfl)) rfl ?_
        refine rg_call fu68 (fun ac ww h => (.cons (h.ev rfl) .nil)) (fun ww hf => law06_To d ep sq ww) rfl ?_
        refine rg_q (fun ac ww h => c_move (h.ev rfl)) rfl ?_
        refine rg_q (fun ac ww h => c_loadW ty22 rfl (h.ev rfl) (h.blk (hs.seg (i := 3) rfl)) (by rw [List.length_map, hel])) rfl ?_
        refine rg_q (fun ac ww h => c_move (h.ev rfl)) rfl ?_
        refine rg_call fu67 (fun ac ww h => (.cons (h.ev rfl) (.cons (h.ev rfl) (.cons (h.ev rfl) (.cons (h.ev rfl) .nil))))) (fun ww hf => ladder_Up d ep sq r e W hel ww) rfl ?_
        refine rg_q (fun ac ww h => c_move (h.ev rfl)) rfl ?_
        refine rg_q (fun ac ww h => c_extract (h.ev rfl) rfl) rfl ?_
        refine rg_q (fun ac ww h => c_extract (h.ev rfl) rfl) rfl ?_
        refine rg_alloc ty54 rfl ?_
        refine rg_nil fun ac ww L' hf hfe hs hlk => ?_
        simp only [List.drop_succ_cons, List.drop_zero]
        obtain ⟨v20, L20, M20, h20, e20, rfl, rfl⟩ := hfe
        replace hs := hs.add h20
        obtain ⟨g20, rfl, rfl⟩ := e20
        refine sk_storeW (i := 0) hs ty54 rfl rfl rfl (by rw [List.length_map, upB_length]) (all_map_B _) rfl fun ww hs => ?_
        refine s_q hs (c_assign (hs.ev rfl)) rfl fun ac hs => ?_
        refine s_end ?_
        replace hs := hs.sub (F' := [(1, _), (2, _), (3, _), (6, _), (7, _), (8, _), (12, _), (13, _), (16, _), (17, _), (18, _), (20, _)]) ⟨rfl, rfl, rfl, rfl, rfl, rfl, rfl, rfl, rfl, rfl, rfl, rfl, trivial⟩
        refine then_n ?_
        refine wp_seq ?_
        refine wp_region_rgX (J := [11]) pmix 13 (by kernel_rfl) (by kernel_rfl) rfl rfl hs ?_
        simp only [List.take_succ_cons, List.take_zero]
        refine rg_q (fun ac ww h => c_loadW ty81 ag81 (h.ev rfl) (h.blk (hs.seg (i := 5) rfl)) (by rfl)) rfl ?_
        refine rg_call fu68 (fun ac ww h => (.cons (h.ev rfl) .nil)) (fun ww hf => law06_To d ep sq ww) rfl ?_
        refine rg_q (fun ac ww h => c_move (h.ev rfl)) rfl ?_
        refine rg_q (fun ac ww h => c_move (h.ev rfl)) rfl ?_
        refine rg_q (fun ac ww h => c_move (h.ev rfl)) rfl ?_
        refine rg_q (fun ac ww h => c_loadW ty22 rfl (h.ev rfl) (h.blk (hs.seg (i := 3) rfl)) (by rw [List.length_map, hl1l])) rfl ?_
        refine rg_q (fun ac ww h => c_move (h.ev rfl)) rfl ?_
        refine rg_callE (rowS n1 ws1) (fun _ _ _ _ _ h => h) fu93 (fun ac ww h => ?_) rfl ?_
        · exact ⟨_, .cons (h.ev rfl) .nil, law03_To n1 ws1 _ hwl1 hn1l _ ((hq1.fr0 hs.fr).fr0 h.fr)⟩
        refine rg_callV (c := .tuple #[.agg ((riseB d ep sq r q l1 ws1 lv n1).map B).toArray, I (riseE lv n1)]) fu109 (fun ac ww h => ?_) rfl ?_
        · obtain ⟨u82, L82, he82, hee, hh82⟩ := h.ent (n := 82) rfl rfl
          obtain rfl := hee
          exact ⟨_, .cons (h.ev rfl) (.cons (h.ev rfl) (.cons (h.ev rfl) (.cons (h.ev rfl) (.cons (h.ev rfl) (.cons he82 .nil))))), ladder_Rise d ep sq r W lv q n1 l1 ws1 _ hr hW hlv hxl hqW hl1l hwl1 ww (Rd.of_row (hh82.holds _ (List.mem_singleton.2 rfl)))⟩
        refine rg_q (fun ac ww h => c_move (h.ev rfl)) rfl ?_
        refine rg_q (fun ac ww h => c_extract (h.ev rfl) rfl) rfl ?_
        refine rg_q (fun ac ww h => c_extract (h.ev rfl) rfl) rfl ?_
        refine rg_alloc ty54 rfl ?_
        refine rg_nil fun ac ww L' hf hfe hs hlk => ?_
        simp only [List.drop_succ_cons, List.drop_zero]
        obtain ⟨v22, L22, M22, h22, e22, ⟨v82, L82, M82, h82, e82, rfl, rfl⟩, rfl⟩ := hfe
        replace hs := hs.add h22
        replace hs := hs.add h82
        obtain ⟨g22, rfl, rfl⟩ := e22
        obtain rfl := e82
        refine sk_storeW (i := 0) hs ty54 rfl rfl rfl (by rw [List.length_map, riseB_length hl1l]) (all_map_B _) rfl fun ww hs => ?_
        refine s_q hs (c_assign (hs.ev rfl)) rfl fun ac hs => ?_
        refine s_end ?_
        replace hs := hs.sub (F' := [(1, _), (2, _), (3, _), (6, _), (7, _), (8, _), (12, _), (13, _), (16, _), (17, _), (18, _), (20, _), (22, _), (23, _)]) ⟨rfl, rfl, rfl, rfl, rfl, rfl, rfl, rfl, rfl, rfl, rfl, rfl, rfl, rfl, trivial⟩
        refine then_n ?_
        refine wp_seq ?_
        refine wp_seq ?_
        refine wp_reg ?_
        refine s_q hs (c_move (hs.ev rfl)) rfl fun ac hs => ?_
        refine s_q hs (c_neqI (hs.ev rfl) (hs.ev rfl)) rfl fun ac hs => ?_
        refine s_q hs (c_move (hs.ev rfl)) rfl fun ac hs => ?_
        refine s_g hs rfl rfl (fun hg => c_loadW ty54 rfl (hs.ev rfl) (hs.seg (i := 0) rfl) (by rw [List.length_map, riseB_length hl1l])) rfl fun ac hs => ?_
        refine s_g hs rfl rfl (fun hg => c_loadW ty54 rfl (hs.ev rfl) (hs.seg (i := 2) rfl) (by rw [List.length_map, upB_length])) rfl fun ac hs => ?_
        refine s_g hs rfl rfl (fun hg => c_neqAB un54 ty5 eg54 (gev (hs.ev rfl) hg) (gev (hs.ev rfl) hg) (riseB_length hl1l _ _) (upB_length _ _ _ _ _ _)) rfl fun ac hs => ?_
        refine s_q hs (c_or (hs.ev rfl) (hs.ev rfl)) rfl fun ac hs => ?_
        refine s_end ?_
        replace hs := hs.sub (F' := [(1, _), (2, _), (3, _), (6, _), (7, _), (8, _), (12, _), (13, _), (16, _), (17, _), (18, _), (92, _)]) ⟨rfl, rfl, rfl, rfl, rfl, rfl, rfl, rfl, rfl, rfl, rfl, rfl, trivial⟩
        refine then_n ?_
        refine s_cond hs rfl (fun hc => ?_) (fun hc => ?_)
        · skip
          refine wp_seq ?_
          refine wp_reg ?_
          refine s_q hs (c_move (hs.ev rfl)) rfl fun ac hs => ?_
          refine s_q hs (c_tt (c_not (hs.ev rfl)) (by rw [hb]; rfl)) rfl fun ac hs => ?_
          refine s_q hs (c_assign (hs.ev rfl)) rfl fun ac hs => ?_
          refine s_end ?_
          replace hs := hs.sub (F' := [(1, _), (2, _), (3, _), (6, _), (8, _), (12, _), (13, _), (16, _), (17, _), (18, _)]) ⟨rfl, rfl, rfl, rfl, rfl, rfl, rfl, rfl, rfl, rfl, trivial⟩
          refine then_n ?_
          refine wp_ret ?_
          refine then_r ?_
          refine s_ret hs rfl (.tmp (hs.tmp rfl) .nil) rfl ⟨_, rfl, hs.fr, ?_⟩
          rfl
        · skip
          have hgood : riseE lv n1 = 0 ∧ riseB d ep sq r q l1 ws1 lv n1 = upB d ep sq r e W := by simpa using hc
          obtain rfl : n1 = lv := by
            apply Classical.byContradiction
            intro hne
            have h := hgood.1
            rw [riseE, if_neg hne] at h
            cases h
          have hrise : lRise d ep sq r q l1 ws1 n1 = lNode d ep sq r e n1 0 := by have h := hgood.2; rw [riseB, if_pos rfl, hup] at h; exact h
          refine wp_skip ?_
          refine then_n ?_
          refine wp_seq ?_
          refine wp_seq ?_
          refine wp_reg ?_
          refine s_q hs (c_loadW ty22 rfl (hs.ev rfl) (hs.seg (i := 5) rfl) (by rw [List.length_map, hl1l])) rfl fun ac hs => ?_
          refine s_q hs (c_loadW ty22 rfl (hs.ev rfl) (hs.seg (i := 3) rfl) (by rw [List.length_map]; exact lNode_length _ _ _ _ _ _ _)) rfl fun ac hs => ?_
          refine s_q hs (c_eqlAB un22 ty5 eg22 (hs.ev rfl) (hs.ev rfl) hl1l (lNode_length _ _ _ _ _ _ _)) rfl fun ac hs => ?_
          refine s_q hs (c_move (hs.ev rfl)) rfl fun ac hs => ?_
          refine s_g hs rfl rfl (fun hg => c_move (hs.ev rfl)) rfl fun ac hs => ?_
          refine s_g hs rfl rfl (fun hg => c_move (hs.ev rfl)) rfl fun ac hs => ?_
          refine s_gcall hs rfl rfl fu102 (fun hg => (.cons (gev (hs.ev rfl) hg) (.cons (gev (hs.ev rfl) hg) .nil))) (fun hg => ref03_SameSums n1 n1 ws1 (showW d ep sq r e q n1) _ _ hwl1 (showW_length d ep sq r e q n1) _ (hq1.fr0 hs.fr) (Rd.of_row (hs.get (i := 4) rfl))) rfl fun ac ww hf hs => ?_
          refine s_q hs (c_and (hs.ev rfl) (hs.ev rfl)) rfl fun ac hs => ?_
          refine s_end ?_
          replace hs := hs.sub (F' := [(1, _), (2, _), (3, _), (6, _), (8, _), (12, _), (13, _), (16, _), (102, _)]) ⟨rfl, rfl, rfl, rfl, rfl, rfl, rfl, rfl, rfl, trivial⟩
          refine then_n ?_
          refine s_cond hs rfl (fun hc => ?_) (fun hc => ?_)
          · skip
            refine wp_seq ?_
            refine wp_reg ?_
            refine s_q hs (c_assign (hs.ev rfl)) rfl fun ac hs => ?_
            refine s_end ?_
            replace hs := hs.sub (F' := [(1, _), (2, _), (3, _), (6, _), (8, _), (12, _), (13, _), (16, _)]) ⟨rfl, rfl, rfl, rfl, rfl, rfl, rfl, rfl, trivial⟩
            refine then_n ?_
            refine wp_ret ?_
            refine then_r ?_
            refine s_ret hs rfl (.tmp (hs.tmp rfl) .nil) rfl ⟨_, rfl, hs.fr, ?_⟩
            rfl
          · skip
            have hne : ¬ (l1 = lNode d ep sq r e 0 q ∧ ws1 = showW d ep sq r e q n1) := by revert hc; simp
            have hcl := ladder_sound hl1l hwl1 (hW ▸ hqW) hrise hne
            refine wp_skip ?_
            refine then_n ?_
            refine wp_seq ?_
            refine wp_region_rgX (J := [8]) pmix 10 (by kernel_rfl) (by kernel_rfl) rfl rfl hs ?_
            simp only [List.take_succ_cons, List.take_zero]
            refine rg_q (fun ac ww h => c_loadW ty81 ag81 (h.ev rfl) (h.blk (hs.seg (i := 7) rfl)) (by rfl)) rfl ?_
            refine rg_q (fun ac ww h => c_move (h.ev rfl)) rfl ?_
            refine rg_q (fun ac ww h => c_loadW ty22 rfl (h.ev rfl) (h.blk (hs.seg (i := 6) rfl)) (by rw [List.length_map, hel])) rfl ?_
            refine rg_q (fun ac ww h => c_move (h.ev rfl)) rfl ?_
            refine rg_call fu76 (fun ac ww h => (.cons (h.ev rfl) .nil)) (fun ww hf => (by have h := ref06_Levels (W : Int) ww; rw [hxl] at h; exact h)) rfl ?_
            refine rg_callE (tupE (.agg ((lNode d ep sq r e n1 0).map B).toArray) (textsE 34 5 (lNodeTs d ep sq r e n1 0))) (fun _ _ _ _ _ h => h) fu90 (fun ac ww h => ?_) rfl ?_
            · exact ⟨_, .cons (h.ev rfl) (.cons (h.ev rfl) (.cons (h.ev rfl) (.cons (h.ev rfl) (.cons (h.ev rfl) .nil)))), ref06_Node d ep sq r e hel n1 hlv 0 (Nat.two_pow_pos _) _⟩
            refine rg_moveT rfl rfl rfl ?_
            refine rg_ext0 rfl rfl rfl ?_
            refine rg_ext1 rfl rfl rfl ?_
            refine rg_alloc ty22 rfl ?_
            refine rg_nil fun ac ww L' hf hfe hs hlk => ?_
            simp only [List.drop_succ_cons, List.drop_zero]
            obtain ⟨v24, L24, M24, h24, e24, ⟨v111, L111, M111, h111, e111, ⟨v103, L103, M103, h103, e103, ⟨v109, L109, M109, h109, e109, rfl, rfl⟩, rfl⟩, rfl⟩, rfl⟩ := hfe
            replace hs := hs.add h24
            replace hs := hs.add h111
            replace hs := hs.add h103
            replace hs := hs.add h109
            obtain ⟨g24, rfl, rfl⟩ := e24
            obtain ⟨tv109, rfl, e109⟩ := e109
            obtain ⟨-, rfl⟩ := e103
            obtain rfl := lk_move (j := 6) hlk (by decide) rfl (by kernel_rfl) h103 h109
            obtain ⟨-, rfl⟩ := e111
            obtain rfl := lk_ext (j := 8) hlk (by decide) rfl (by kernel_rfl) h111 h103 rfl
            obtain ⟨ps109, hps109, rfl⟩ := e109
            refine sk_storeW (i := 0) hs ty22 rfl rfl rfl (by rw [List.length_map]; exact lNode_length _ _ _ _ _ _ _) (all_map_B _) rfl fun ww hs => ?_
            refine s_q hs (c_assign (hs.ev rfl)) rfl fun ac hs => ?_
            refine s_end ?_
            replace hs := hs.sub (F' := [(1, _), (2, _), (3, _), (6, _), (8, _), (13, _), (16, _), (25, _)]) ⟨rfl, rfl, rfl, rfl, rfl, rfl, rfl, rfl, trivial⟩
            refine then_n ?_
            refine wp_seq ?_
            refine wp_reg ?_
            refine s_q hs (c_loadW ty81 ag81 (hs.ev rfl) (hs.seg (i := 9) rfl) (by rfl)) rfl fun ac hs => ?_
            refine s_q hs (c_move (hs.ev rfl)) rfl fun ac hs => ?_
            refine s_q hs (c_move (hs.ev rfl)) rfl fun ac hs => ?_
            refine s_q hs (c_move (hs.ev rfl)) rfl fun ac hs => ?_
            refine s_q hs (c_loadW ty22 rfl (hs.ev rfl) (hs.seg (i := 7) rfl) (by rw [List.length_map, hl1l])) rfl fun ac hs => ?_
            refine s_q hs (c_move (hs.ev rfl)) rfl fun ac hs => ?_
            refine s_call hs fu110 (.cons (hs.ev rfl) (.cons (hs.ev rfl) (.cons (hs.ev rfl) (.cons (hs.ev rfl) (.cons (hs.ev rfl) (.cons (hs.ev rfl) .nil)))))) (ref06_Rise d ep sq r W n1 q n1 l1 ws1 _ hr hW hlv hxl hqW hl1l hwl1 hn1l _ (hq1.fr0 hs.fr)) rfl fun ac ww v119 hf hp hs => ?_
            obtain ⟨L', ⟨tv2, rfl, ps119, hps119, rfl⟩, hh⟩ := hp
            replace hs := hs _ hh
            refine s_q hs (c_move (hs.ev rfl)) rfl fun ac hs => ?_
            refine s_q hs (c_extract (hs.ev rfl) rfl) rfl fun ac hs => ?_
            refine s_q hs (c_extract (hs.ev rfl) rfl) rfl fun ac hs => ?_
            refine s_q hs (c_extract (hs.ev rfl) rfl) rfl fun ac hs => ?_
            refine s_alloc hs ty22 rfl fun ac ww g26 hs => ?_
            refine s_storeW (i := 0) hs ty22 rfl rfl rfl (by rw [List.length_map, riseB_length hl1l]) (all_map_B _) rfl fun ww hs => ?_
            refine s_q hs (c_assign (hs.ev rfl)) rfl fun ac hs => ?_
            refine s_q hs (c_assign (hs.ev rfl)) rfl fun ac hs => ?_
            refine s_end ?_
            replace hs := hs.sub (F' := [(16, _), (25, _), (27, _)]) ⟨rfl, rfl, rfl, trivial⟩
            refine then_n ?_
            refine wp_seq ?_
            refine wp_reg ?_
            refine s_q hs (c_move (hs.ev rfl)) rfl fun ac hs => ?_
            refine s_q hs (c_move (hs.ev rfl)) rfl fun ac hs => ?_
            have hx2 : riseX d ep sq r q l1 ws1 n1 n1 = lRiseTs d ep sq r q l1 ws1 n1 := if_pos rfl
            rw [hx2] at hps119
            have hg1 : Good ps109 := good_of hps109 (by have := nodeTs_le d ep sq r e n1 0 (by omega); omega) (lnode_good d ep sq r e hel n1 0)
            have hg2 : Good ps119 := good_of hps119 (by rw [lRiseTs_length]; omega) (lrise_good d ep sq r q l1 ws1 n1 hl1l hwl1 n1 (Nat.le_refl _))
            refine s_call hs fu66 (.cons (hs.ev rfl) (.cons (hs.ev rfl) .nil)) (ref06_Clash ps109 ps119 _ _ hg1 hg2 _ (RdP.texts (hs.get (i := 3) rfl)) (RdP.texts (hs.get (i := 1) rfl))) rfl fun ac ww v125 hf hp hs => ?_
            rw [hps109, hps119, hcl] at hp
            obtain rfl := hp
            replace hs := hs [] (.nil _ _)
            refine s_q hs (c_assign (hs.ev rfl)) rfl fun ac hs => ?_
            refine s_end ?_
            replace hs := hs.sub (F' := [(16, _)]) ⟨rfl, trivial⟩
            refine then_n ?_
            refine wp_ret ?_
            refine s_ret hs rfl (.tmp (hs.tmp rfl) .nil) rfl ⟨_, rfl, hs.fr, ?_⟩
            rfl
      · try simp only [decide_eq_true_eq, decide_eq_false_iff_not, Bool.not_eq_true', Bool.not_eq_false', Bool.and_eq_true, Bool.or_eq_true, Bool.or_eq_false_iff] at hc
        obtain ⟨n1, ws1, hn1, hn1l, hwl1, hq1⟩ : ∃ (n1 : Nat) (ws1 : List UInt8), n1 = n ∧ n1 ≤ 1000000 ∧ ws1.length = n1 * 16 ∧ Rd w (.slice wad n wcap) n1 (ws1.map B) := ⟨n, ws, rfl, by omega, hwl, hqw⟩
        refine wp_skip ?_
        refine then_n ?_
        refine wp_seq ?_
        refine wp_region_rgX (J := [8]) pmix 10 (by kernel_rfl) (by kernel_rfl) rfl rfl hs ?_
        simp only [List.take_succ_cons, List.take_zero]
        refine rg_q (fun ac ww h => c_loadW ty81 ag81 (h.ev rfl) (h.blk (hs.seg (i := 4) rfl)) (by rfl)) rfl ?_
        refine rg_call fu68 (fun ac ww h => (.cons (h.ev rfl) .nil)) (fun ww hf => law06_To d ep sq ww) rfl ?_
        refine rg_q (fun ac ww h => c_move (h.ev rfl)) rfl ?_
        refine rg_q (fun ac ww h => c_loadW ty22 rfl (h.ev rfl) (h.blk (hs.seg (i := 3) rfl)) (by rw [List.length_map, hel])) rfl ?_
        refine rg_q (fun ac ww h => c_move (h.ev rfl)) rfl ?_
        refine rg_call fu67 (fun ac ww h => (.cons (h.ev rfl) (.cons (h.ev rfl) (.cons (h.ev rfl) (.cons (h.ev rfl) .nil))))) (fun ww hf => ladder_Up d ep sq r e W hel ww) rfl ?_
        refine rg_q (fun ac ww h => c_move (h.ev rfl)) rfl ?_
        refine rg_q (fun ac ww h => c_extract (h.ev rfl) rfl) rfl ?_
        refine rg_q (fun ac ww h => c_extract (h.ev rfl) rfl) rfl ?_
        refine rg_alloc ty54 rfl ?_
        refine rg_nil fun ac ww L' hf hfe hs hlk => ?_
        simp only [List.drop_succ_cons, List.drop_zero]
        obtain ⟨v20, L20, M20, h20, e20, rfl, rfl⟩ := hfe
        replace hs := hs.add h20
        obtain ⟨g20, rfl, rfl⟩ := e20
        refine sk_storeW (i := 0) hs ty54 rfl rfl rfl (by rw [List.length_map, upB_length]) (all_map_B _) rfl fun ww hs => ?_
        refine s_q hs (c_assign (hs.ev rfl)) rfl fun ac hs => ?_
        refine s_end ?_
        replace hs := hs.sub (F' := [(1, _), (2, _), (3, _), (6, _), (7, _), (8, _), (12, _), (13, _), (16, _), (17, _), (18, _), (20, _)]) ⟨rfl, rfl, rfl, rfl, rfl, rfl, rfl, rfl, rfl, rfl, rfl, rfl, trivial⟩
        refine then_n ?_
        refine wp_seq ?_
        refine wp_region_rgX (J := [11]) pmix 13 (by kernel_rfl) (by kernel_rfl) rfl rfl hs ?_
        simp only [List.take_succ_cons, List.take_zero]
        refine rg_q (fun ac ww h => c_loadW ty81 ag81 (h.ev rfl) (h.blk (hs.seg (i := 5) rfl)) (by rfl)) rfl ?_
        refine rg_call fu68 (fun ac ww h => (.cons (h.ev rfl) .nil)) (fun ww hf => law06_To d ep sq ww) rfl ?_
        refine rg_q (fun ac ww h => c_move (h.ev rfl)) rfl ?_
        refine rg_q (fun ac ww h => c_move (h.ev rfl)) rfl ?_
        refine rg_q (fun ac ww h => c_move (h.ev rfl)) rfl ?_
        refine rg_q (fun ac ww h => c_loadW ty22 rfl (h.ev rfl) (h.blk (hs.seg (i := 3) rfl)) (by rw [List.length_map, hl1l])) rfl ?_
        refine rg_q (fun ac ww h => c_move (h.ev rfl)) rfl ?_
        refine rg_callE (rowS n1 ws1) (fun _ _ _ _ _ h => h) fu93 (fun ac ww h => ?_) rfl ?_
        · exact ⟨_, .cons (h.ev rfl) .nil, law03_To n1 ws1 _ hwl1 hn1l _ ((hq1.fr0 hs.fr).fr0 h.fr)⟩
        refine rg_callV (c := .tuple #[.agg ((riseB d ep sq r q l1 ws1 lv n1).map B).toArray, I (riseE lv n1)]) fu109 (fun ac ww h => ?_) rfl ?_
        · obtain ⟨u82, L82, he82, hee, hh82⟩ := h.ent (n := 82) rfl rfl
          obtain rfl := hee
          exact ⟨_, .cons (h.ev rfl) (.cons (h.ev rfl) (.cons (h.ev rfl) (.cons (h.ev rfl) (.cons (h.ev rfl) (.cons he82 .nil))))), ladder_Rise d ep sq r W lv q n1 l1 ws1 _ hr hW hlv hxl hqW hl1l hwl1 ww (Rd.of_row (hh82.holds _ (List.mem_singleton.2 rfl)))⟩
        refine rg_q (fun ac ww h => c_move (h.ev rfl)) rfl ?_
        refine rg_q (fun ac ww h => c_extract (h.ev rfl) rfl) rfl ?_
        refine rg_q (fun ac ww h => c_extract (h.ev rfl) rfl) rfl ?_
        refine rg_alloc ty54 rfl ?_
        refine rg_nil fun ac ww L' hf hfe hs hlk => ?_
        simp only [List.drop_succ_cons, List.drop_zero]
        obtain ⟨v22, L22, M22, h22, e22, ⟨v82, L82, M82, h82, e82, rfl, rfl⟩, rfl⟩ := hfe
        replace hs := hs.add h22
        replace hs := hs.add h82
        obtain ⟨g22, rfl, rfl⟩ := e22
        obtain rfl := e82
        refine sk_storeW (i := 0) hs ty54 rfl rfl rfl (by rw [List.length_map, riseB_length hl1l]) (all_map_B _) rfl fun ww hs => ?_
        refine s_q hs (c_assign (hs.ev rfl)) rfl fun ac hs => ?_
        refine s_end ?_
        replace hs := hs.sub (F' := [(1, _), (2, _), (3, _), (6, _), (7, _), (8, _), (12, _), (13, _), (16, _), (17, _), (18, _), (20, _), (22, _), (23, _)]) ⟨rfl, rfl, rfl, rfl, rfl, rfl, rfl, rfl, rfl, rfl, rfl, rfl, rfl, rfl, trivial⟩
        refine then_n ?_
        refine wp_seq ?_
        refine wp_seq ?_
        refine wp_reg ?_
        refine s_q hs (c_move (hs.ev rfl)) rfl fun ac hs => ?_
        refine s_q hs (c_neqI (hs.ev rfl) (hs.ev rfl)) rfl fun ac hs => ?_
        refine s_q hs (c_move (hs.ev rfl)) rfl fun ac hs => ?_
        refine s_g hs rfl rfl (fun hg => c_loadW ty54 rfl (hs.ev rfl) (hs.seg (i := 0) rfl) (by rw [List.length_map, riseB_length hl1l])) rfl fun ac hs => ?_
        refine s_g hs rfl rfl (fun hg => c_loadW ty54 rfl (hs.ev rfl) (hs.seg (i := 2) rfl) (by rw [List.length_map, upB_length])) rfl fun ac hs => ?_
        refine s_g hs rfl rfl (fun hg => c_neqAB un54 ty5 eg54 (gev (hs.ev rfl) hg) (gev (hs.ev rfl) hg) (riseB_length hl1l _ _) (upB_length _ _ _ _ _ _)) rfl fun ac hs => ?_
        refine s_q hs (c_or (hs.ev rfl) (hs.ev rfl)) rfl fun ac hs => ?_
        refine s_end ?_
        replace hs := hs.sub (F' := [(1, _), (2, _), (3, _), (6, _), (7, _), (8, _), (12, _), (13, _), (16, _), (17, _), (18, _), (92, _)]) ⟨rfl, rfl, rfl, rfl, rfl, rfl, rfl, rfl, rfl, rfl, rfl, rfl, trivial⟩
        refine then_n ?_
        refine s_cond hs rfl (fun hc => ?_) (fun hc => ?_)
        · skip
          refine wp_seq ?_
          refine wp_reg ?_
          refine s_q hs (c_move (hs.ev rfl)) rfl fun ac hs => ?_
          refine s_q hs (c_tt (c_not (hs.ev rfl)) (by rw [hb]; rfl)) rfl fun ac hs => ?_
          refine s_q hs (c_assign (hs.ev rfl)) rfl fun ac hs => ?_
          refine s_end ?_
          replace hs := hs.sub (F' := [(1, _), (2, _), (3, _), (6, _), (8, _), (12, _), (13, _), (16, _), (17, _), (18, _)]) ⟨rfl, rfl, rfl, rfl, rfl, rfl, rfl, rfl, rfl, rfl, trivial⟩
          refine then_n ?_
          refine wp_ret ?_
          refine then_r ?_
          refine s_ret hs rfl (.tmp (hs.tmp rfl) .nil) rfl ⟨_, rfl, hs.fr, ?_⟩
          rfl
        · skip
          have hgood : riseE lv n1 = 0 ∧ riseB d ep sq r q l1 ws1 lv n1 = upB d ep sq r e W := by simpa using hc
          obtain rfl : n1 = lv := by
            apply Classical.byContradiction
            intro hne
            have h := hgood.1
            rw [riseE, if_neg hne] at h
            cases h
          have hrise : lRise d ep sq r q l1 ws1 n1 = lNode d ep sq r e n1 0 := by have h := hgood.2; rw [riseB, if_pos rfl, hup] at h; exact h
          refine wp_skip ?_
          refine then_n ?_
          refine wp_seq ?_
          refine wp_seq ?_
          refine wp_reg ?_
          refine s_q hs (c_loadW ty22 rfl (hs.ev rfl) (hs.seg (i := 5) rfl) (by rw [List.length_map, hl1l])) rfl fun ac hs => ?_
          refine s_q hs (c_loadW ty22 rfl (hs.ev rfl) (hs.seg (i := 3) rfl) (by rw [List.length_map]; exact lNode_length _ _ _ _ _ _ _)) rfl fun ac hs => ?_
          refine s_q hs (c_eqlAB un22 ty5 eg22 (hs.ev rfl) (hs.ev rfl) hl1l (lNode_length _ _ _ _ _ _ _)) rfl fun ac hs => ?_
          refine s_q hs (c_move (hs.ev rfl)) rfl fun ac hs => ?_
          refine s_g hs rfl rfl (fun hg => c_move (hs.ev rfl)) rfl fun ac hs => ?_
          refine s_g hs rfl rfl (fun hg => c_move (hs.ev rfl)) rfl fun ac hs => ?_
          refine s_gcall hs rfl rfl fu102 (fun hg => (.cons (gev (hs.ev rfl) hg) (.cons (gev (hs.ev rfl) hg) .nil))) (fun hg => ref03_SameSums n1 n1 ws1 (showW d ep sq r e q n1) _ _ hwl1 (showW_length d ep sq r e q n1) _ (hq1.fr0 hs.fr) (Rd.of_row (hs.get (i := 4) rfl))) rfl fun ac ww hf hs => ?_
          refine s_q hs (c_and (hs.ev rfl) (hs.ev rfl)) rfl fun ac hs => ?_
          refine s_end ?_
          replace hs := hs.sub (F' := [(1, _), (2, _), (3, _), (6, _), (8, _), (12, _), (13, _), (16, _), (102, _)]) ⟨rfl, rfl, rfl, rfl, rfl, rfl, rfl, rfl, rfl, trivial⟩
          refine then_n ?_
          refine s_cond hs rfl (fun hc => ?_) (fun hc => ?_)
          · skip
            refine wp_seq ?_
            refine wp_reg ?_
            refine s_q hs (c_assign (hs.ev rfl)) rfl fun ac hs => ?_
            refine s_end ?_
            replace hs := hs.sub (F' := [(1, _), (2, _), (3, _), (6, _), (8, _), (12, _), (13, _), (16, _)]) ⟨rfl, rfl, rfl, rfl, rfl, rfl, rfl, rfl, trivial⟩
            refine then_n ?_
            refine wp_ret ?_
            refine then_r ?_
            refine s_ret hs rfl (.tmp (hs.tmp rfl) .nil) rfl ⟨_, rfl, hs.fr, ?_⟩
            rfl
          · skip
            have hne : ¬ (l1 = lNode d ep sq r e 0 q ∧ ws1 = showW d ep sq r e q n1) := by revert hc; simp
            have hcl := ladder_sound hl1l hwl1 (hW ▸ hqW) hrise hne
            refine wp_skip ?_
            refine then_n ?_
            refine wp_seq ?_
            refine wp_region_rgX (J := [8]) pmix 10 (by kernel_rfl) (by kernel_rfl) rfl rfl hs ?_
            simp only [List.take_succ_cons, List.take_zero]
            refine rg_q (fun ac ww h => c_loadW ty81 ag81 (h.ev rfl) (h.blk (hs.seg (i := 7) rfl)) (by rfl)) rfl ?_
            refine rg_q (fun ac ww h => c_move (h.ev rfl)) rfl ?_
            refine rg_q (fun ac ww h => c_loadW ty22 rfl (h.ev rfl) (h.blk (hs.seg (i := 6) rfl)) (by rw [List.length_map, hel])) rfl ?_
            refine rg_q (fun ac ww h => c_move (h.ev rfl)) rfl ?_
            refine rg_call fu76 (fun ac ww h => (.cons (h.ev rfl) .nil)) (fun ww hf => (by have h := ref06_Levels (W : Int) ww; rw [hxl] at h; exact h)) rfl ?_
            refine rg_callE (tupE (.agg ((lNode d ep sq r e n1 0).map B).toArray) (textsE 34 5 (lNodeTs d ep sq r e n1 0))) (fun _ _ _ _ _ h => h) fu90 (fun ac ww h => ?_) rfl ?_
            · exact ⟨_, .cons (h.ev rfl) (.cons (h.ev rfl) (.cons (h.ev rfl) (.cons (h.ev rfl) (.cons (h.ev rfl) .nil)))), ref06_Node d ep sq r e hel n1 hlv 0 (Nat.two_pow_pos _) _⟩
            refine rg_moveT rfl rfl rfl ?_
            refine rg_ext0 rfl rfl rfl ?_
            refine rg_ext1 rfl rfl rfl ?_
            refine rg_alloc ty22 rfl ?_
            refine rg_nil fun ac ww L' hf hfe hs hlk => ?_
            simp only [List.drop_succ_cons, List.drop_zero]
            obtain ⟨v24, L24, M24, h24, e24, ⟨v111, L111, M111, h111, e111, ⟨v103, L103, M103, h103, e103, ⟨v109, L109, M109, h109, e109, rfl, rfl⟩, rfl⟩, rfl⟩, rfl⟩ := hfe
            replace hs := hs.add h24
            replace hs := hs.add h111
            replace hs := hs.add h103
            replace hs := hs.add h109
            obtain ⟨g24, rfl, rfl⟩ := e24
            obtain ⟨tv109, rfl, e109⟩ := e109
            obtain ⟨-, rfl⟩ := e103
            obtain rfl := lk_move (j := 6) hlk (by decide) rfl (by kernel_rfl) h103 h109
            obtain ⟨-, rfl⟩ := e111
            obtain rfl := lk_ext (j := 8) hlk (by decide) rfl (by kernel_rfl) h111 h103 rfl
            obtain ⟨ps109, hps109, rfl⟩ := e109
            refine sk_storeW (i := 0) hs ty22 rfl rfl rfl (by rw [List.length_map]; exact lNode_length _ _ _ _ _ _ _) (all_map_B _) rfl fun ww hs => ?_
            refine s_q hs (c_assign (hs.ev rfl)) rfl fun ac hs => ?_
            refine s_end ?_
            replace hs := hs.sub (F' := [(1, _), (2, _), (3, _), (6, _), (8, _), (13, _), (16, _), (25, _)]) ⟨rfl, rfl, rfl, rfl, rfl, rfl, rfl, rfl, trivial⟩
            refine then_n ?_
            refine wp_seq ?_
            refine wp_reg ?_
            refine s_q hs (c_loadW ty81 ag81 (hs.ev rfl) (hs.seg (i := 9) rfl) (by rfl)) rfl fun ac hs => ?_
            refine s_q hs (c_move (hs.ev rfl)) rfl fun ac hs => ?_
            refine s_q hs (c_move (hs.ev rfl)) rfl fun ac hs => ?_
            refine s_q hs (c_move (hs.ev rfl)) rfl fun ac hs => ?_
            refine s_q hs (c_loadW ty22 rfl (hs.ev rfl) (hs.seg (i := 7) rfl) (by rw [List.length_map, hl1l])) rfl fun ac hs => ?_
            refine s_q hs (c_move (hs.ev rfl)) rfl fun ac hs => ?_
            refine s_call hs fu110 (.cons (hs.ev rfl) (.cons (hs.ev rfl) (.cons (hs.ev rfl) (.cons (hs.ev rfl) (.cons (hs.ev rfl) (.cons (hs.ev rfl) .nil)))))) (ref06_Rise d ep sq r W n1 q n1 l1 ws1 _ hr hW hlv hxl hqW hl1l hwl1 hn1l _ (hq1.fr0 hs.fr)) rfl fun ac ww v119 hf hp hs => ?_
            obtain ⟨L', ⟨tv2, rfl, ps119, hps119, rfl⟩, hh⟩ := hp
            replace hs := hs _ hh
            refine s_q hs (c_move (hs.ev rfl)) rfl fun ac hs => ?_
            refine s_q hs (c_extract (hs.ev rfl) rfl) rfl fun ac hs => ?_
            refine s_q hs (c_extract (hs.ev rfl) rfl) rfl fun ac hs => ?_
            refine s_q hs (c_extract (hs.ev rfl) rfl) rfl fun ac hs => ?_
            refine s_alloc hs ty22 rfl fun ac ww g26 hs => ?_
            refine s_storeW (i := 0) hs ty22 rfl rfl rfl (by rw [List.length_map, riseB_length hl1l]) (all_map_B _) rfl fun ww hs => ?_
            refine s_q hs (c_assign (hs.ev rfl)) rfl fun ac hs => ?_
            refine s_q hs (c_assign (hs.ev rfl)) rfl fun ac hs => ?_
            refine s_end ?_
            replace hs := hs.sub (F' := [(16, _), (25, _), (27, _)]) ⟨rfl, rfl, rfl, trivial⟩
            refine then_n ?_
            refine wp_seq ?_
            refine wp_reg ?_
            refine s_q hs (c_move (hs.ev rfl)) rfl fun ac hs => ?_
            refine s_q hs (c_move (hs.ev rfl)) rfl fun ac hs => ?_
            have hx2 : riseX d ep sq r q l1 ws1 n1 n1 = lRiseTs d ep sq r q l1 ws1 n1 := if_pos rfl
            rw [hx2] at hps119
            have hg1 : Good ps109 := good_of hps109 (by have := nodeTs_le d ep sq r e n1 0 (by omega); omega) (lnode_good d ep sq r e hel n1 0)
            have hg2 : Good ps119 := good_of hps119 (by rw [lRiseTs_length]; omega) (lrise_good d ep sq r q l1 ws1 n1 hl1l hwl1 n1 (Nat.le_refl _))
            refine s_call hs fu66 (.cons (hs.ev rfl) (.cons (hs.ev rfl) .nil)) (ref06_Clash ps109 ps119 _ _ hg1 hg2 _ (RdP.texts (hs.get (i := 3) rfl)) (RdP.texts (hs.get (i := 1) rfl))) rfl fun ac ww v125 hf hp hs => ?_
            rw [hps109, hps119, hcl] at hp
            obtain rfl := hp
            replace hs := hs [] (.nil _ _)
            refine s_q hs (c_assign (hs.ev rfl)) rfl fun ac hs => ?_
            refine s_end ?_
            replace hs := hs.sub (F' := [(16, _)]) ⟨rfl, trivial⟩
            refine then_n ?_
            refine wp_ret ?_
            refine s_ret hs rfl (.tmp (hs.tmp rfl) .nil) rfl ⟨_, rfl, hs.fr, ?_⟩
            rfl

end Go.Proofs.Ytmgnnclkjkbmdaa
end
