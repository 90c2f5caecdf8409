/- Sums, counts, digits. -/
import Derived.Test.YtmgnnclkjkbmdaaShaC
set_option linter.unusedSimpArgs false
set_option linter.unusedVariables false
set_option maxRecDepth 100000
namespace Go.Proofs.Ytmgnnclkjkbmdaa
open Go Go.Fw

open Sha
/-- How many blocks any number of bytes takes. -/
def blI (n : Int) : Int := if n < 0 then 1 else n / 64 + (if n % 64 > 55 then 2 else 1)
theorem blI_nat (n : Nat) : blI (n : Int) = (blocks n : Int) := by
  simp only [blI, blocks]
  split
  · omega
  · split <;> split <;> omega

-- sha.Sum
set_option maxHeartbeats 4000000 in
theorem sha_Sum (p : List UInt8) (pv : Value) (hle : p.length ≤ 140737488355328) (w : World) (hq : RdB w pv p) : Ctr Try.prog 44 [pv] w (fun _ => False) (fun v _ => v = .agg ((sum p).map B).toArray) := by
  refine fn_start (N := 10) Try.func44 rfl rfl rfl fun ac hk => ?_
  have hs := St.start hk w
  refine wp_seq ?_
  refine wp_reg ?_
  refine s_alloc hs ty41 rfl fun ac ww g2 hs => ?_
  refine s_end ?_
  refine then_n ?_
  refine wp_seq ?_
  refine wp_reg ?_
  refine s_call hs fu48 .nil (sha_New _) rfl fun ac ww v4 hf hp hs => ?_
  obtain ⟨g, rfl, hh⟩ := hp
  replace hs := hs _ (Has.grp' hh)
  refine s_q hs (c_assign (hs.ev rfl)) rfl fun ac hs => ?_
  refine s_end ?_
  replace hs := hs.sub (F' := [(0, _), (2, _), (3, _)]) ⟨rfl, rfl, rfl, trivial⟩
  refine then_n ?_
  refine wp_seq ?_
  refine wp_reg ?_
  refine s_q hs (c_move (hs.ev rfl)) rfl fun ac hs => ?_
  refine s_q hs (c_move (hs.ev rfl)) rfl fun ac hs => ?_
  refine s_callM (i := 0) hs fu49 (.cons (hs.ev rfl) (.cons (hs.ev rfl) .nil)) rfl (sha_Write [] p g _ pv (by simp; omega) _ (hs.get (i := 0) rfl) (hq.fr0 hs.fr) (hs.far (i := 0) rfl hq)) rfl fun ac ww v7 hf hp hs => ?_
  obtain ⟨rv, h1, h2⟩ := hp
  replace hs := hs (Ent.grp (hash g rv ([] ++ p))) h1 (fun k hk => ⟨h2 k hk, grp_lt h1 k hk⟩)
  obtain ⟨hg, hr⟩ := hash_get h1
  refine s_end ?_
  replace hs := hs.sub (F' := [(2, _), (3, _)]) ⟨rfl, rfl, trivial⟩
  refine then_n ?_
  refine wp_seq ?_
  refine wp_reg ?_
  refine s_q hs (c_move (hs.ev rfl)) rfl fun ac hs => ?_
  refine s_call hs fu50 (.cons (hs.ev rfl) .nil) (sha_HSum p g rv hle _ hg hr) rfl fun ac ww v9 hf hp hs => ?_
  obtain rfl := hp
  replace hs := hs [] (.nil _ _)
  refine s_storeW (i := 1) hs ty41 rfl rfl rfl (by simp) (all_map_B _) (by simp) fun ww hs => ?_
  refine s_end ?_
  replace hs := hs.sub (F' := [(2, _)]) ⟨rfl, trivial⟩
  refine then_n ?_
  refine wp_ret ?_
  refine s_ret hs rfl (.cell (hs.tmp rfl) (run_loadA ty41 rfl (hs.seg (i := 1) rfl) (List.take_of_length_le (by simp)) (by simp)) .nil) rfl ⟨_, rfl, hs.fr, ?_⟩
  rfl

-- sha.Blocks
set_option maxHeartbeats 4000000 in
theorem sha_Blocks (n : Int) (h0 : -9223372036854775808 ≤ n) (h1 : n ≤ 9223372036854775807) (w : World)  : Ctr Try.prog 39 [I n] w (fun _ => False) (fun v _ => v = I (blI n)) := by
  refine fn_start (N := 13) Try.func39 rfl rfl rfl fun ac hk => ?_
  have hs := St.start hk w
  refine wp_seq ?_
  refine wp_reg ?_
  refine s_q hs (c_assign (hs.ev rfl)) rfl fun ac hs => ?_
  refine s_end ?_
  refine then_n ?_
  refine wp_seq ?_
  refine wp_reg ?_
  refine s_q hs (c_move (hs.ev rfl)) rfl fun ac hs => ?_
  refine s_q hs (c_max (hs.ev rfl) (hs.ev rfl)) rfl fun ac hs => ?_
  refine s_q hs (c_assign (hs.ev rfl)) rfl fun ac hs => ?_
  refine s_end ?_
  replace hs := hs.sub (F' := [(0, _), (2, _)]) ⟨rfl, rfl, trivial⟩
  refine then_n ?_
  refine wp_seq ?_
  refine wp_reg ?_
  refine s_q hs (c_assign (hs.ev rfl)) rfl fun ac hs => ?_
  refine s_end ?_
  refine then_n ?_
  refine wp_seq ?_
  refine wp_seq ?_
  refine wp_reg ?_
  refine s_q hs (c_move (hs.ev rfl)) rfl fun ac hs => ?_
  refine s_q hs (c_remI (hs.ev rfl) (hs.ev rfl) (by omega) (by omega)) rfl fun ac hs => ?_
  refine s_q hs (c_gtrI (hs.ev rfl) (hs.ev rfl)) rfl fun ac hs => ?_
  refine s_end ?_
  replace hs := hs.sub (F' := [(0, _), (2, _), (3, _), (8, _)]) ⟨rfl, rfl, rfl, rfl, trivial⟩
  refine then_n ?_
  refine s_cond hs rfl (fun hc => ?_) (fun hc => ?_)
  · try simp only [decide_eq_true_eq, decide_eq_false_iff_not, Bool.not_eq_true', Bool.not_eq_false', Bool.and_eq_true, Bool.or_eq_true, Bool.or_eq_false_iff] at hc
    refine wp_reg ?_
    refine s_q hs (c_assign (hs.ev rfl)) rfl fun ac hs => ?_
    refine s_end ?_
    replace hs := hs.sub (F' := [(0, _), (2, _), (3, _)]) ⟨rfl, rfl, rfl, trivial⟩
    refine then_n ?_
    refine wp_seq ?_
    refine wp_reg ?_
    refine s_q hs (c_move (hs.ev rfl)) rfl fun ac hs => ?_
    refine s_q hs (c_quoI (hs.ev rfl) (hs.ev rfl) (by omega) (by omega) (by omega)) rfl fun ac hs => ?_
    refine s_q hs (c_move (hs.ev rfl)) rfl fun ac hs => ?_
    refine s_q hs (c_addI (hs.ev rfl) (hs.ev rfl) (by omega) (by omega)) rfl fun ac hs => ?_
    refine s_q hs (c_assign (hs.ev rfl)) rfl fun ac hs => ?_
    refine s_end ?_
    replace hs := hs.sub (F' := [(2, _)]) ⟨rfl, trivial⟩
    refine then_n ?_
    refine wp_ret ?_
    refine s_ret hs rfl (.tmp (hs.tmp rfl) .nil) rfl ⟨_, rfl, hs.fr, ?_⟩
    show _ = _
    refine congrArg I ?_
    unfold blI
    by_cases hn : n < 0
    · rw [if_pos hn]
      omega
    · rw [if_neg hn]
      split <;> omega
  · try simp only [decide_eq_true_eq, decide_eq_false_iff_not, Bool.not_eq_true', Bool.not_eq_false', Bool.and_eq_true, Bool.or_eq_true, Bool.or_eq_false_iff] at hc
    refine wp_skip ?_
    refine then_n ?_
    refine wp_seq ?_
    refine wp_reg ?_
    refine s_q hs (c_move (hs.ev rfl)) rfl fun ac hs => ?_
    refine s_q hs (c_quoI (hs.ev rfl) (hs.ev rfl) (by omega) (by omega) (by omega)) rfl fun ac hs => ?_
    refine s_q hs (c_move (hs.ev rfl)) rfl fun ac hs => ?_
    refine s_q hs (c_addI (hs.ev rfl) (hs.ev rfl) (by omega) (by omega)) rfl fun ac hs => ?_
    refine s_q hs (c_assign (hs.ev rfl)) rfl fun ac hs => ?_
    refine s_end ?_
    replace hs := hs.sub (F' := [(2, _)]) ⟨rfl, trivial⟩
    refine then_n ?_
    refine wp_ret ?_
    refine s_ret hs rfl (.tmp (hs.tmp rfl) .nil) rfl ⟨_, rfl, hs.fr, ?_⟩
    show _ = _
    refine congrArg I ?_
    unfold blI
    by_cases hn : n < 0
    · rw [if_pos hn]
      omega
    · rw [if_neg hn]
      split <;> omega

end Go.Proofs.Ytmgnnclkjkbmdaa
