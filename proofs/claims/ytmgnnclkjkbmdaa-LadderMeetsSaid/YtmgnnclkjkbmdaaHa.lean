/- Own texts of this seat, laid together: ShaSpec, ShaA, ShaSpec2, ShaB, ShaC, ShaD, HexSpec, ShaE, RefA, RefSpec, RefB, RefC, ShaLawsA. -/
import Derived.Test.YtmgnnclkjkbmdaaGa
import Derived.Test.YtmgnnclkjkbmdaaGb
/- The sum of the standard, as plain functions. -/
section
set_option linter.unusedSimpArgs false
set_option linter.unusedVariables false
set_option maxRecDepth 100000
namespace Go.Proofs.Ytmgnnclkjkbmdaa



/-! SHA-256 as plain functions on lists. -/
namespace Sha
def rotr (x : UInt32) (n : Nat) : UInt32 := x >>> UInt32.ofNat n ||| x <<< UInt32.ofNat (32 - n)
def s0 (x : UInt32) : UInt32 := rotr x 7 ^^^ rotr x 18 ^^^ x >>> 3
def s1 (x : UInt32) : UInt32 := rotr x 17 ^^^ rotr x 19 ^^^ x >>> 10
def word (p : List UInt8) (i : Nat) : UInt32 :=
  (p.getD (4 * i) 0).toUInt32 <<< 24 ||| (p.getD (4 * i + 1) 0).toUInt32 <<< 16 ||| (p.getD (4 * i + 2) 0).toUInt32 <<< 8 ||| (p.getD (4 * i + 3) 0).toUInt32
/-- The words of the first n rounds. -/
def sched (p : List UInt8) : Nat → List UInt32
  | 0 => []
  | n + 1 => sched p n ++ [if n < 16 then word p n else (sched p n).getD (n - 16) 0 + s0 ((sched p n).getD (n - 15) 0) + (sched p n).getD (n - 7) 0 + s1 ((sched p n).getD (n - 2) 0)]
theorem sched_length (p : List UInt8) : ∀ n, (sched p n).length = n
  | 0 => rfl
  | n + 1 => by simp [sched, sched_length p n]
def K : List UInt32 := [
    0x428a2f98, 0x71374491, 0xb5c0fbcf, 0xe9b5dba5, 0x3956c25b, 0x59f111f1, 0x923f82a4, 0xab1c5ed5,
    0xd807aa98, 0x12835b01, 0x243185be, 0x550c7dc3, 0x72be5d74, 0x80deb1fe, 0x9bdc06a7, 0xc19bf174,
    0xe49b69c1, 0xefbe4786, 0x0fc19dc6, 0x240ca1cc, 0x2de92c6f, 0x4a7484aa, 0x5cb0a9dc, 0x76f988da,
    0x983e5152, 0xa831c66d, 0xb00327c8, 0xbf597fc7, 0xc6e00bf3, 0xd5a79147, 0x06ca6351, 0x14292967,
    0x27b70a85, 0x2e1b2138, 0x4d2c6dfc, 0x53380d13, 0x650a7354, 0x766a0abb, 0x81c2c92e, 0x92722c85,
    0xa2bfe8a1, 0xa81a664b, 0xc24b8b70, 0xc76c51a3, 0xd192e819, 0xd6990624, 0xf40e3585, 0x106aa070,
    0x19a4c116, 0x1e376c08, 0x2748774c, 0x34b0bcb5, 0x391c0cb3, 0x4ed8aa4a, 0x5b9cca4f, 0x682e6ff3,
    0x748f82ee, 0x78a5636f, 0x84c87814, 0x8cc70208, 0x90befffa, 0xa4506ceb, 0xbef9a3f7, 0xc67178f2]
@[simp] theorem K_length : K.length = 64 := rfl
structure R where
  (a b c d e f g h : UInt32)
  deriving DecidableEq
def R.list (r : R) : List UInt32 := [r.a, r.b, r.c, r.d, r.e, r.f, r.g, r.h]
def first : R := ⟨0x6a09e667, 0xbb67ae85, 0x3c6ef372, 0xa54ff53a, 0x510e527f, 0x9b05688c, 0x1f83d9ab, 0x5be0cd19⟩
def t1 (r : R) (k w : UInt32) : UInt32 := r.h + (rotr r.e 6 ^^^ rotr r.e 11 ^^^ rotr r.e 25) + (r.e &&& r.f ^^^ ~~~r.e &&& r.g) + k + w
def t2 (r : R) : UInt32 := (rotr r.a 2 ^^^ rotr r.a 13 ^^^ rotr r.a 22) + (r.a &&& r.b ^^^ r.a &&& r.c ^^^ r.b &&& r.c)
def round (r : R) (k w : UInt32) : R := ⟨t1 r k w + t2 r, r.a, r.b, r.c, r.d + t1 r k w, r.e, r.f, r.g⟩
def rounds (p : List UInt8) (r : R) : Nat → R
  | 0 => r
  | n + 1 => round (rounds p r n) (K.getD n 0) ((sched p 64).getD n 0)
def R.add (r s : R) : R := ⟨r.a + s.a, r.b + s.b, r.c + s.c, r.d + s.d, r.e + s.e, r.f + s.f, r.g + s.g, r.h + s.h⟩
/-- One block. -/
def comp (r : R) (p : List UInt8) : R := r.add (rounds p r 64)

theorem set_rep {α : Type} (l : List α) (m : Nat) (z x : α) : (l ++ List.replicate (m + 1) z).set l.length x = (l ++ [x]) ++ List.replicate m z := by
  rw [List.set_append_right _ _ (Nat.le_refl _), Nat.sub_self, List.replicate_succ, List.set_cons_zero]
  simp
theorem sched_set (p : List UInt8) (k : Nat) (hk : k < 64) (x : UInt32) (hx : sched p (k + 1) = sched p k ++ [x]) : (sched p k ++ List.replicate (64 - k) 0).set k x = sched p (k + 1) ++ List.replicate (64 - (k + 1)) 0 := by
  have h := set_rep (sched p k) (64 - (k + 1)) 0 x
  rw [sched_length, show 64 - (k + 1) + 1 = 64 - k from by omega] at h
  rw [h, hx]
theorem sched_lo (p : List UInt8) (k : Nat) (hk : k < 16) : sched p (k + 1) = sched p k ++ [word p k] := by simp [sched, hk]
theorem sched_hi (p : List UInt8) (k : Nat) (hk : 16 ≤ k) : sched p (k + 1) = sched p k ++ [(sched p k).getD (k - 16) 0 + s0 ((sched p k).getD (k - 15) 0) + (sched p k).getD (k - 7) 0 + s1 ((sched p k).getD (k - 2) 0)] := by
  simp [sched, show ¬ k < 16 by omega]
theorem sched_getD (p : List UInt8) (k j : Nat) (R : List UInt32) (hj : j < k) : (sched p k ++ R).getD j 0 = (sched p k).getD j 0 := by
  have : j < (sched p k).length := by rw [sched_length]; exact hj
  simp [List.getElem?_append_left this]
theorem sched_zero (p : List UInt8) : sched p 0 = [] := rfl
attribute [irreducible] sched
@[simp] theorem R.list_length (r : R) : r.list.length = 8 := rfl
end Sha

end Go.Proofs.Ytmgnnclkjkbmdaa
end

section
set_option linter.unusedSimpArgs false
set_option linter.unusedVariables false
set_option maxRecDepth 100000
namespace Go.Proofs.Ytmgnnclkjkbmdaa
open Go Go.Fw

open Sha
theorem sched_at (p : List UInt8) (k j : Nat) (R : List UInt32) (hj : j < k) : ((sched p k ++ R).map U)[0 + j * 1]? = some (U ((sched p k).getD j 0)) := by
  have := map_get (f := U) (l := sched p k ++ R) (i := j) 0 (by simp [sched_length]; omega)
  rw [this, sched_getD p k j R hj]
theorem sched_len (p : List UInt8) (k : Nat) (hk : k ≤ 64) : (sched p k ++ List.replicate (64 - k) (0 : UInt32)).length = 64 := by simp [sched_length]; omega

-- sha.turn
set_option maxHeartbeats 4000000 in
theorem sha_turn (x : UInt32) (n : Nat) (hn : 0 < n) (hn2 : n < 32) (w : World)  : Ctr Try.prog 182 [U x, I n] w (fun _ => False) (fun v _ => v = U (rotr x n)) := by
  refine fn_start (N := 13) Try.func182 rfl rfl rfl fun ac hk => ?_
  have hs := St.start hk w
  refine wp_seq ?_
  refine wp_reg ?_
  refine s_q hs (c_assign (St.ev (v := U 0) hs rfl)) rfl fun ac hs => ?_
  refine s_end ?_
  refine then_n ?_
  refine wp_seq ?_
  refine wp_region_rg pmix 9 (by kernel_rfl) rfl hs ?_
  simp only [List.take_succ_cons, List.take_zero]
  refine rg_q (fun ac ww h => c_move (h.ev rfl)) rfl ?_
  refine rg_q (fun ac ww h => c_move (h.ev rfl)) rfl ?_
  refine rg_q (fun ac ww h => c_shrU (h.ev rfl) (h.ev rfl) (by omega)) rfl ?_
  refine rg_q (fun ac ww h => c_move (h.ev rfl)) rfl ?_
  refine rg_q (fun ac ww h => c_move (h.ev rfl)) rfl ?_
  refine rg_q (fun ac ww h => c_subI (h.ev rfl) (h.ev rfl) (by omega) (by omega)) rfl ?_
  refine rg_q (fun ac ww h => c_shlU (n := 32 - n) (h.ev rfl) ((h.ev rfl).trans (congrArg I (by omega))) (by omega)) rfl ?_
  refine rg_q (fun ac ww h => c_orU (h.ev rfl) (h.ev rfl)) rfl ?_
  refine rg_q (fun ac ww h => c_assign (h.ev rfl)) rfl ?_
  refine rg_nil fun ac ww L' hf hfe hs => ?_
  simp only [List.drop_succ_cons, List.drop_zero]
  obtain rfl : L' = [] := hfe
  replace hs := hs.toL (List.nil_append _)
  refine s_end ?_
  replace hs := hs.sub (F' := [(4, _)]) ⟨rfl, trivial⟩
  refine then_n ?_
  refine wp_ret ?_
  refine s_ret hs rfl (.tmp (hs.tmp rfl) .nil) rfl ⟨_, rfl, hs.fr, ?_⟩
  rfl

-- sha.words
set_option maxHeartbeats 4000000 in
theorem sha_words  (w : World)  : Ctr Try.prog 183 [] w (fun _ => False) (fun v _ => v = .agg (K.map U).toArray) := by
  refine fn_start (N := 2) Try.func183 rfl rfl rfl fun ac hk => ?_
  have hs := St.start hk w
  refine wp_seq ?_
  refine wp_reg ?_
  refine s_alloc hs ty207 rfl fun ac ww g0 hs => ?_
  refine s_end ?_
  refine then_n ?_
  refine wp_seq ?_
  refine wp_reg ?_
  refine s_q hs (c_buildA ty207 un207 ty27 (vs := K.map U) (zc := K.map U) (by repeat (first | exact .nil | refine .cons rfl ?_)) (by decide) (by decide) rfl) rfl fun ac hs => ?_
  refine s_storeW (i := 0) hs ty207 rfl rfl rfl (by simp) (by simp [Value.oneCell']) (by simp) fun ww hs => ?_
  refine s_end ?_
  replace hs := hs.sub (F' := [(0, _)]) ⟨rfl, trivial⟩
  refine then_n ?_
  refine wp_ret ?_
  refine s_ret hs rfl (.cell (hs.tmp rfl) (run_loadA ty207 rfl (hs.seg (i := 0) rfl) (List.take_of_length_le (by simp)) (by simp)) .nil) rfl ⟨_, rfl, hs.fr, ?_⟩
  rfl

-- sha.mix
set_option maxHeartbeats 4000000 in
theorem sha_mix (h : R) (p : List UInt8) (vp : Value) (h64 : 64 ≤ p.length) (w : World) (hp : RdB w vp p) : Ctr Try.prog 157 [.agg (h.list.map U).toArray, vp] w (fun _ => False) (fun v _ => v = .agg ((comp h p).list.map U).toArray) := by
  obtain ⟨pb, po, pc, pT, pf, pall, rfl, hpc, hpm, hpb, hps⟩ := RdB.at_ hp (by omega)
  have hpl := hp.le
  refine fn_start (N := 221) Try.func157 rfl rfl rfl fun ac hk => ?_
  have hs := St.start hk w
  refine wp_seq ?_
  refine wp_reg ?_
  refine s_box hs rfl rfl rfl fun ac ww g2 hs => ?_
  refine s_alloc hs ty205 rfl fun ac ww g4 hs => ?_
  refine s_end ?_
  replace hs := hs.sub (F' := [(1, _), (2, _), (4, _)]) ⟨rfl, rfl, rfl, trivial⟩
  refine then_n ?_
  refine wp_seq ?_
  refine wp_reg ?_
  refine s_alloc hs ty207 rfl fun ac ww g5 hs => ?_
  refine s_end ?_
  refine then_n ?_
  refine wp_seq ?_
  refine wp_seq ?_
  refine wp_reg ?_
  refine s_q hs (c_move (hs.ev rfl)) rfl fun ac hs => ?_
  refine s_end ?_
  refine then_n ?_
  refine wp_block ?_
  refine s_loop hs (X := Nat) (fun k => [(24, I k)]) [(1, _), (2, _), (4, _), (5, _)] (fun k => [.seg g5 ((sched p k ++ List.replicate (64 - k) 0).map U) 207, _, _]) (fun n k => k ≤ 16 ∧ n = 16 - k) (16) (0) (⟨by omega, rfl⟩) ⟨rfl, rfl, rfl, rfl, rfl, trivial⟩ (congrArg (fun z => [Ent.seg g5 (List.map U z) 207, _, _]) (show List.replicate 64 0 = _ by rw [sched_zero]; rfl)) ?_
  rintro n k ac ww hok hs
  simp only [List.cons_append, List.nil_append] at hs
  refine wp_seq ?_
  refine wp_reg ?_
  refine s_q hs (c_lssI (hs.ev rfl) (hs.ev rfl)) rfl fun ac hs => ?_
  refine s_end ?_
  refine then_n ?_
  refine wp_seq ?_
  refine s_cond hs rfl (fun hc => ?_) (fun hc => ?_)
  · try simp only [decide_eq_true_eq, decide_eq_false_iff_not, Bool.not_eq_true', Bool.not_eq_false', Bool.and_eq_true, Bool.or_eq_true, Bool.or_eq_false_iff] at hc
    obtain ⟨hk, rfl⟩ := hok
    refine wp_skip ?_
    refine then_n ?_
    refine wp_seq ?_
    refine wp_block ?_
    refine wp_seq ?_
    refine wp_reg ?_
    refine s_q hs (c_move (hs.ev rfl)) rfl fun ac hs => ?_
    refine s_q hs (c_assign (hs.ev rfl)) rfl fun ac hs => ?_
    refine s_end ?_
    refine then_n ?_
    refine wp_region_rg pmix 35 (by kernel_rfl) rfl hs ?_
    simp only [List.take_succ_cons, List.take_zero]
    refine rg_q (fun ac ww h => c_move (h.ev rfl)) rfl ?_
    refine rg_q (fun ac ww h => c_move (h.ev rfl)) rfl ?_
    refine rg_q (fun ac ww h => c_move (h.ev rfl)) rfl ?_
    refine rg_q (fun ac ww h => c_mulI (h.ev rfl) (h.ev rfl) (by omega) (by omega)) rfl ?_
    refine rg_q (fun ac ww h => c_idxS (j := 4 * k) un34 ty5 (h.ev rfl) (h.ev rfl) (by omega) (by omega)) rfl ?_
    refine rg_q (fun ac ww h => c_loadS un5 rfl (h.ev rfl) (h.blk (hs.old hpb id)) (seg_get 0 hps (by omega))) rfl ?_
    refine rg_q (fun ac ww h => c_cvBU un5 un27 (h.ev rfl)) rfl ?_
    refine rg_q (fun ac ww h => c_shlU (h.ev rfl) (h.ev rfl) (by decide)) rfl ?_
    refine rg_q (fun ac ww h => c_move (h.ev rfl)) rfl ?_
    refine rg_q (fun ac ww h => c_move (h.ev rfl)) rfl ?_
    refine rg_q (fun ac ww h => c_mulI (h.ev rfl) (h.ev rfl) (by omega) (by omega)) rfl ?_
    refine rg_q (fun ac ww h => c_addI (h.ev rfl) (h.ev rfl) (by omega) (by omega)) rfl ?_
    refine rg_q (fun ac ww h => c_idxS (j := 4 * k + 1) un34 ty5 (h.ev rfl) (h.ev rfl) (by omega) (by omega)) rfl ?_
    refine rg_q (fun ac ww h => c_loadS un5 rfl (h.ev rfl) (h.blk (hs.old hpb id)) (seg_get 0 hps (by omega))) rfl ?_
    refine rg_q (fun ac ww h => c_cvBU un5 un27 (h.ev rfl)) rfl ?_
    refine rg_q (fun ac ww h => c_shlU (h.ev rfl) (h.ev rfl) (by decide)) rfl ?_
    refine rg_q (fun ac ww h => c_orU (h.ev rfl) (h.ev rfl)) rfl ?_
    refine rg_q (fun ac ww h => c_move (h.ev rfl)) rfl ?_
    refine rg_q (fun ac ww h => c_move (h.ev rfl)) rfl ?_
    refine rg_q (fun ac ww h => c_mulI (h.ev rfl) (h.ev rfl) (by omega) (by omega)) rfl ?_
    refine rg_q (fun ac ww h => c_addI (h.ev rfl) (h.ev rfl) (by omega) (by omega)) rfl ?_
    refine rg_q (fun ac ww h => c_idxS (j := 4 * k + 2) un34 ty5 (h.ev rfl) (h.ev rfl) (by omega) (by omega)) rfl ?_
    refine rg_q (fun ac ww h => c_loadS un5 rfl (h.ev rfl) (h.blk (hs.old hpb id)) (seg_get 0 hps (by omega))) rfl ?_
    refine rg_q (fun ac ww h => c_cvBU un5 un27 (h.ev rfl)) rfl ?_
    refine rg_q (fun ac ww h => c_shlU (h.ev rfl) (h.ev rfl) (by decide)) rfl ?_
    refine rg_q (fun ac ww h => c_orU (h.ev rfl) (h.ev rfl)) rfl ?_
    refine rg_q (fun ac ww h => c_move (h.ev rfl)) rfl ?_
    refine rg_q (fun ac ww h => c_move (h.ev rfl)) rfl ?_
    refine rg_q (fun ac ww h => c_mulI (h.ev rfl) (h.ev rfl) (by omega) (by omega)) rfl ?_
    refine rg_q (fun ac ww h => c_addI (h.ev rfl) (h.ev rfl) (by omega) (by omega)) rfl ?_
    refine rg_q (fun ac ww h => c_idxS (j := 4 * k + 3) un34 ty5 (h.ev rfl) (h.ev rfl) (by omega) (by omega)) rfl ?_
    refine rg_q (fun ac ww h => c_loadS un5 rfl (h.ev rfl) (h.blk (hs.old hpb id)) (seg_get 0 hps (by omega))) rfl ?_
    refine rg_q (fun ac ww h => c_cvBU un5 un27 (h.ev rfl)) rfl ?_
    refine rg_q (fun ac ww h => c_orU (h.ev rfl) (h.ev rfl)) rfl ?_
    refine rg_q (fun ac ww h => c_idxA (j := k) un207 ty27 (h.ev rfl) (h.ev rfl) (by omega) (by omega)) rfl ?_
    refine rg_nil fun ac ww L' hf hfe hs => ?_
    simp only [List.drop_succ_cons, List.drop_zero]
    obtain rfl : L' = [] := hfe
    replace hs := hs.toL (List.nil_append _)
    refine s_store (i := 0) hs ty27 rfl rfl rfl rfl rfl rfl (by rw [List.length_map, sched_len p k (by omega)]; omega) (map_set _ (by rw [sched_len p k (by omega)]; omega)) fun ww hs => ?_
    refine s_end ?_
    refine blk_n ?_
    refine then_n ?_
    refine wp_reg ?_
    refine s_q hs (c_addI (hs.ev rfl) (hs.ev rfl) (by omega) (by omega)) rfl fun ac hs => ?_
    refine s_q hs (c_move (hs.ev rfl)) rfl fun ac hs => ?_
    refine s_end ?_
    refine then_n ?_
    exact ⟨16 - (k + 1), by omega, k + 1, ⟨by omega, rfl⟩, St.next hs ⟨rfl, rfl, rfl, rfl, rfl, trivial⟩ (congrArg (fun z => [Ent.seg g5 (List.map U z) 207, _, _]) (sched_set p k (by omega) _ (sched_lo p k (by omega))))⟩
  · try simp only [decide_eq_true_eq, decide_eq_false_iff_not, Bool.not_eq_true', Bool.not_eq_false', Bool.and_eq_true, Bool.or_eq_true, Bool.or_eq_false_iff] at hc
    obtain ⟨hk, rfl⟩ := hok
    obtain rfl : k = 16 := by omega
    refine wp_exit ?_
    refine then_e ?_
    refine then_e ?_
    refine blk_hit ?_
    refine then_n ?_
    refine wp_seq ?_
    refine wp_seq ?_
    refine wp_reg ?_
    refine s_q hs (c_assign (hs.ev rfl)) rfl fun ac hs => ?_
    refine s_end ?_
    replace hs := hs.sub (F' := [(2, _), (4, _), (5, _), (7, _)]) ⟨rfl, rfl, rfl, rfl, trivial⟩
    refine then_n ?_
    refine wp_block ?_
    refine s_loop hs (X := Nat) (fun k => [(7, I k)]) [(2, _), (4, _), (5, _)] (fun k => [.seg g5 ((sched p k ++ List.replicate (64 - k) 0).map U) 207, _, _]) (fun n k => 16 ≤ k ∧ k ≤ 64 ∧ n = 64 - k) (48) (16) (⟨by omega, by omega, rfl⟩) ⟨rfl, rfl, rfl, rfl, trivial⟩ rfl ?_
    rintro n k ac ww hok hs
    simp only [List.cons_append, List.nil_append] at hs
    refine wp_seq ?_
    refine wp_seq ?_
    refine wp_reg ?_
    refine s_q hs (c_move (hs.ev rfl)) rfl fun ac hs => ?_
    refine s_q hs (c_lssI (hs.ev rfl) (hs.ev rfl)) rfl fun ac hs => ?_
    refine s_end ?_
    refine then_n ?_
    refine s_cond hs rfl (fun hc => ?_) (fun hc => ?_)
    · try simp only [decide_eq_true_eq, decide_eq_false_iff_not, Bool.not_eq_true', Bool.not_eq_false', Bool.and_eq_true, Bool.or_eq_true, Bool.or_eq_false_iff] at hc
      obtain ⟨hk, hk2, rfl⟩ := hok
      refine wp_skip ?_
      refine then_n ?_
      refine wp_seq ?_
      refine wp_block ?_
      refine wp_seq ?_
      refine wp_region_rg pmix 10 (by kernel_rfl) rfl hs ?_
      simp only [List.take_succ_cons, List.take_zero]
      refine rg_q (fun ac ww h => c_move (h.ev rfl)) rfl ?_
      refine rg_q (fun ac ww h => c_subI (h.ev rfl) (h.ev rfl) (by omega) (by omega)) rfl ?_
      refine rg_q (fun ac ww h => c_idxA (j := k - 15) un207 ty27 (h.ev rfl) (h.ev rfl) (by omega) (by omega)) rfl ?_
      refine rg_q (fun ac ww h => c_loadS un27 rfl (h.ev rfl) (h.blk (hs.seg (i := 0) rfl)) (sched_at p k (k - 15) _ (by omega))) rfl ?_
      refine rg_q (fun ac ww h => c_move (h.ev rfl)) rfl ?_
      refine rg_q (fun ac ww h => c_subI (h.ev rfl) (h.ev rfl) (by omega) (by omega)) rfl ?_
      refine rg_q (fun ac ww h => c_idxA (j := k - 2) un207 ty27 (h.ev rfl) (h.ev rfl) (by omega) (by omega)) rfl ?_
      refine rg_q (fun ac ww h => c_loadS un27 rfl (h.ev rfl) (h.blk (hs.seg (i := 0) rfl)) (sched_at p k (k - 2) _ (by omega))) rfl ?_
      refine rg_q (fun ac ww h => c_assign (h.ev rfl)) rfl ?_
      refine rg_q (fun ac ww h => c_assign (h.ev rfl)) rfl ?_
      refine rg_nil fun ac ww L' hf hfe hs => ?_
      simp only [List.drop_succ_cons, List.drop_zero]
      obtain rfl : L' = [] := hfe
      replace hs := hs.toL (List.nil_append _)
      refine s_end ?_
      refine then_n ?_
      refine wp_seq ?_
      refine wp_reg ?_
      refine s_q hs (c_move (hs.ev rfl)) rfl fun ac hs => ?_
      refine s_call hs fu182 (.cons (hs.ev rfl) (.cons (hs.ev rfl) .nil)) (sha_turn _ 7 (by omega) (by omega) _) rfl fun ac ww v76 hf hp hs => ?_
      obtain rfl := hp
      replace hs := hs [] (.nil _ _)
      refine s_q hs (c_move (hs.ev rfl)) rfl fun ac hs => ?_
      refine s_call hs fu182 (.cons (hs.ev rfl) (.cons (hs.ev rfl) .nil)) (sha_turn _ 18 (by omega) (by omega) _) rfl fun ac ww v78 hf hp hs => ?_
      obtain rfl := hp
      replace hs := hs [] (.nil _ _)
      refine s_q hs (c_xorU (hs.ev rfl) (hs.ev rfl)) rfl fun ac hs => ?_
      refine s_q hs (c_move (hs.ev rfl)) rfl fun ac hs => ?_
      refine s_q hs (c_shrU (hs.ev rfl) (hs.ev rfl) (by decide)) rfl fun ac hs => ?_
      refine s_q hs (c_xorU (hs.ev rfl) (hs.ev rfl)) rfl fun ac hs => ?_
      refine s_q hs (c_assign (hs.ev rfl)) rfl fun ac hs => ?_
      refine s_end ?_
      refine then_n ?_
      refine wp_seq ?_
      refine wp_reg ?_
      refine s_q hs (c_move (hs.ev rfl)) rfl fun ac hs => ?_
      refine s_call hs fu182 (.cons (hs.ev rfl) (.cons (hs.ev rfl) .nil)) (sha_turn _ 17 (by omega) (by omega) _) rfl fun ac ww v84 hf hp hs => ?_
      obtain rfl := hp
      replace hs := hs [] (.nil _ _)
      refine s_q hs (c_move (hs.ev rfl)) rfl fun ac hs => ?_
      refine s_call hs fu182 (.cons (hs.ev rfl) (.cons (hs.ev rfl) .nil)) (sha_turn _ 19 (by omega) (by omega) _) rfl fun ac ww v86 hf hp hs => ?_
      obtain rfl := hp
      replace hs := hs [] (.nil _ _)
      refine s_q hs (c_xorU (hs.ev rfl) (hs.ev rfl)) rfl fun ac hs => ?_
      refine s_q hs (c_move (hs.ev rfl)) rfl fun ac hs => ?_
      refine s_q hs (c_shrU (hs.ev rfl) (hs.ev rfl) (by decide)) rfl fun ac hs => ?_
      refine s_q hs (c_xorU (hs.ev rfl) (hs.ev rfl)) rfl fun ac hs => ?_
      refine s_q hs (c_assign (hs.ev rfl)) rfl fun ac hs => ?_
      refine s_end ?_
      refine then_n ?_
      refine wp_region_rg pmix 15 (by kernel_rfl) rfl hs ?_
      simp only [List.take_succ_cons, List.take_zero]
      refine rg_q (fun ac ww h => c_move (h.ev rfl)) rfl ?_
      refine rg_q (fun ac ww h => c_move (h.ev rfl)) rfl ?_
      refine rg_q (fun ac ww h => c_subI (h.ev rfl) (h.ev rfl) (by omega) (by omega)) rfl ?_
      refine rg_q (fun ac ww h => c_idxA (j := k - 16) un207 ty27 (h.ev rfl) (h.ev rfl) (by omega) (by omega)) rfl ?_
      refine rg_q (fun ac ww h => c_loadS un27 rfl (h.ev rfl) (h.blk (hs.seg (i := 0) rfl)) (sched_at p k (k - 16) _ (by omega))) rfl ?_
      refine rg_q (fun ac ww h => c_move (h.ev rfl)) rfl ?_
      refine rg_q (fun ac ww h => c_addU (h.ev rfl) (h.ev rfl)) rfl ?_
      refine rg_q (fun ac ww h => c_move (h.ev rfl)) rfl ?_
      refine rg_q (fun ac ww h => c_subI (h.ev rfl) (h.ev rfl) (by omega) (by omega)) rfl ?_
      refine rg_q (fun ac ww h => c_idxA (j := k - 7) un207 ty27 (h.ev rfl) (h.ev rfl) (by omega) (by omega)) rfl ?_
      refine rg_q (fun ac ww h => c_loadS un27 rfl (h.ev rfl) (h.blk (hs.seg (i := 0) rfl)) (sched_at p k (k - 7) _ (by omega))) rfl ?_
      refine rg_q (fun ac ww h => c_addU (h.ev rfl) (h.ev rfl)) rfl ?_
      refine rg_q (fun ac ww h => c_move (h.ev rfl)) rfl ?_
      refine rg_q (fun ac ww h => c_addU (h.ev rfl) (h.ev rfl)) rfl ?_
      refine rg_q (fun ac ww h => c_idxA (j := k) un207 ty27 (h.ev rfl) (h.ev rfl) (by omega) (by omega)) rfl ?_
      refine rg_nil fun ac ww L' hf hfe hs => ?_
      simp only [List.drop_succ_cons, List.drop_zero]
      obtain rfl : L' = [] := hfe
      replace hs := hs.toL (List.nil_append _)
      refine s_store (i := 0) hs ty27 rfl rfl rfl rfl rfl rfl (by rw [List.length_map, sched_len p k (by omega)]; omega) (map_set _ (by rw [sched_len p k (by omega)]; omega)) fun ww hs => ?_
      refine s_end ?_
      refine blk_n ?_
      refine then_n ?_
      refine wp_reg ?_
      refine s_q hs (c_move (hs.ev rfl)) rfl fun ac hs => ?_
      refine s_q hs (c_addI (hs.ev rfl) (hs.ev rfl) (by omega) (by omega)) rfl fun ac hs => ?_
      refine s_q hs (c_assign (hs.ev rfl)) rfl fun ac hs => ?_
      refine s_end ?_
      refine then_n ?_
      exact ⟨64 - (k + 1), by omega, k + 1, ⟨by omega, by omega, rfl⟩, St.next hs ⟨rfl, rfl, rfl, rfl, trivial⟩ (congrArg (fun z => [Ent.seg g5 (List.map U z) 207, _, _]) (sched_set p k (by omega) _ (sched_hi p k (by omega))))⟩
    · try simp only [decide_eq_true_eq, decide_eq_false_iff_not, Bool.not_eq_true', Bool.not_eq_false', Bool.and_eq_true, Bool.or_eq_true, Bool.or_eq_false_iff] at hc
      obtain ⟨hk, hk2, rfl⟩ := hok
      obtain rfl : k = 64 := by omega
      refine wp_exit ?_
      refine then_e ?_
      refine then_e ?_
      refine blk_hit ?_
      refine then_n ?_
      refine wp_seq ?_
      refine wp_reg ?_
      refine s_call hs fu183 .nil (sha_words _) rfl fun ac ww v106 hf hp hs => ?_
      obtain rfl := hp
      replace hs := hs [] (.nil _ _)
      refine s_alloc hs ty207 rfl fun ac ww g10 hs => ?_
      refine s_storeW (i := 0) hs ty207 rfl rfl rfl (by simp) (by simp [Value.oneCell']) (by simp) fun ww hs => ?_
      refine s_end ?_
      replace hs := hs.sub (F' := [(2, _), (4, _), (5, _), (10, _)]) ⟨rfl, rfl, rfl, rfl, trivial⟩
      refine then_n ?_
      refine wp_seq ?_
      refine wp_region_rg pmix 24 (by kernel_rfl) rfl hs ?_
      simp only [List.take_succ_cons, List.take_zero]
      refine rg_q (fun ac ww h => c_idxA un205 ty27 (h.ev rfl) (h.ev rfl) rfl (by decide)) rfl ?_
      refine rg_q (fun ac ww h => c_loadS un27 rfl (h.ev rfl) (h.blk (hs.seg (i := 3) rfl)) rfl) rfl ?_
      refine rg_q (fun ac ww h => c_idxA un205 ty27 (h.ev rfl) (h.ev rfl) rfl (by decide)) rfl ?_
      refine rg_q (fun ac ww h => c_loadS un27 rfl (h.ev rfl) (h.blk (hs.seg (i := 3) rfl)) rfl) rfl ?_
      refine rg_q (fun ac ww h => c_idxA un205 ty27 (h.ev rfl) (h.ev rfl) rfl (by decide)) rfl ?_
      refine rg_q (fun ac ww h => c_loadS un27 rfl (h.ev rfl) (h.blk (hs.seg (i := 3) rfl)) rfl) rfl ?_
      refine rg_q (fun ac ww h => c_idxA un205 ty27 (h.ev rfl) (h.ev rfl) rfl (by decide)) rfl ?_
      refine rg_q (fun ac ww h => c_loadS un27 rfl (h.ev rfl) (h.blk (hs.seg (i := 3) rfl)) rfl) rfl ?_
      refine rg_q (fun ac ww h => c_idxA un205 ty27 (h.ev rfl) (h.ev rfl) rfl (by decide)) rfl ?_
      refine rg_q (fun ac ww h => c_loadS un27 rfl (h.ev rfl) (h.blk (hs.seg (i := 3) rfl)) rfl) rfl ?_
      refine rg_q (fun ac ww h => c_idxA un205 ty27 (h.ev rfl) (h.ev rfl) rfl (by decide)) rfl ?_
      refine rg_q (fun ac ww h => c_loadS un27 rfl (h.ev rfl) (h.blk (hs.seg (i := 3) rfl)) rfl) rfl ?_
      refine rg_q (fun ac ww h => c_idxA un205 ty27 (h.ev rfl) (h.ev rfl) rfl (by decide)) rfl ?_
      refine rg_q (fun ac ww h => c_loadS un27 rfl (h.ev rfl) (h.blk (hs.seg (i := 3) rfl)) rfl) rfl ?_
      refine rg_q (fun ac ww h => c_idxA un205 ty27 (h.ev rfl) (h.ev rfl) rfl (by decide)) rfl ?_
      refine rg_q (fun ac ww h => c_loadS un27 rfl (h.ev rfl) (h.blk (hs.seg (i := 3) rfl)) rfl) rfl ?_
      refine rg_q (fun ac ww h => c_assign (h.ev rfl)) rfl ?_
      refine rg_q (fun ac ww h => c_assign (h.ev rfl)) rfl ?_
      refine rg_q (fun ac ww h => c_assign (h.ev rfl)) rfl ?_
      refine rg_q (fun ac ww h => c_assign (h.ev rfl)) rfl ?_
      refine rg_q (fun ac ww h => c_assign (h.ev rfl)) rfl ?_
      refine rg_q (fun ac ww h => c_assign (h.ev rfl)) rfl ?_
      refine rg_q (fun ac ww h => c_assign (h.ev rfl)) rfl ?_
      refine rg_q (fun ac ww h => c_assign (h.ev rfl)) rfl ?_
      refine rg_nil fun ac ww L' hf hfe hs => ?_
      simp only [List.drop_succ_cons, List.drop_zero]
      obtain rfl : L' = [] := hfe
      replace hs := hs.toL (List.nil_append _)
      refine s_end ?_
      replace hs := hs.sub (F' := [(2, _), (4, _), (5, _), (10, _), (11, _), (12, _), (13, _), (14, _), (15, _), (16, _), (17, _), (18, _)]) ⟨rfl, rfl, rfl, rfl, rfl, rfl, rfl, rfl, rfl, rfl, rfl, rfl, trivial⟩
      refine then_n ?_
      refine wp_seq ?_
      refine wp_seq ?_
      refine wp_reg ?_
      refine s_q hs (c_move (hs.ev rfl)) rfl fun ac hs => ?_
      refine s_end ?_
      refine then_n ?_
      refine wp_block ?_
      refine s_loop hs (X := Nat) (fun k => [(123, I k), (11, U (rounds p h k).a), (12, U (rounds p h k).b), (13, U (rounds p h k).c), (14, U (rounds p h k).d), (15, U (rounds p h k).e), (16, U (rounds p h k).f), (17, U (rounds p h k).g), (18, U (rounds p h k).h)]) [(2, _), (4, _), (5, _), (10, _)] (fun _ => [_, _, _, _]) (fun n k => k ≤ 64 ∧ n = 64 - k) (64) (0) (⟨by omega, rfl⟩) ⟨rfl, rfl, rfl, rfl, rfl, rfl, rfl, rfl, rfl, rfl, rfl, rfl, rfl, trivial⟩ rfl ?_
      rintro n k ac ww hok hs
      simp only [List.cons_append, List.nil_append] at hs
      refine wp_seq ?_
      refine wp_reg ?_
      refine s_q hs (c_lssI (hs.ev rfl) (hs.ev rfl)) rfl fun ac hs => ?_
      refine s_end ?_
      refine then_n ?_
      refine wp_seq ?_
      refine s_cond hs rfl (fun hc => ?_) (fun hc => ?_)
      · try simp only [decide_eq_true_eq, decide_eq_false_iff_not, Bool.not_eq_true', Bool.not_eq_false', Bool.and_eq_true, Bool.or_eq_true, Bool.or_eq_false_iff] at hc
        obtain ⟨hk, rfl⟩ := hok
        refine wp_skip ?_
        refine then_n ?_
        refine wp_seq ?_
        refine wp_block ?_
        refine wp_seq ?_
        refine wp_reg ?_
        refine s_q hs (c_move (hs.ev rfl)) rfl fun ac hs => ?_
        refine s_q hs (c_assign (hs.ev rfl)) rfl fun ac hs => ?_
        refine s_end ?_
        refine then_n ?_
        refine wp_seq ?_
        refine wp_reg ?_
        refine s_q hs (c_move (hs.ev rfl)) rfl fun ac hs => ?_
        refine s_call hs fu182 (.cons (hs.ev rfl) (.cons (hs.ev rfl) .nil)) (sha_turn _ 6 (by omega) (by omega) _) rfl fun ac ww v127 hf hp hs => ?_
        obtain rfl := hp
        replace hs := hs [] (.nil _ _)
        refine s_q hs (c_move (hs.ev rfl)) rfl fun ac hs => ?_
        refine s_call hs fu182 (.cons (hs.ev rfl) (.cons (hs.ev rfl) .nil)) (sha_turn _ 11 (by omega) (by omega) _) rfl fun ac ww v129 hf hp hs => ?_
        obtain rfl := hp
        replace hs := hs [] (.nil _ _)
        refine s_q hs (c_xorU (hs.ev rfl) (hs.ev rfl)) rfl fun ac hs => ?_
        refine s_q hs (c_move (hs.ev rfl)) rfl fun ac hs => ?_
        refine s_call hs fu182 (.cons (hs.ev rfl) (.cons (hs.ev rfl) .nil)) (sha_turn _ 25 (by omega) (by omega) _) rfl fun ac ww v132 hf hp hs => ?_
        obtain rfl := hp
        replace hs := hs [] (.nil _ _)
        refine s_q hs (c_xorU (hs.ev rfl) (hs.ev rfl)) rfl fun ac hs => ?_
        refine s_q hs (c_assign (hs.ev rfl)) rfl fun ac hs => ?_
        refine s_end ?_
        refine then_n ?_
        refine wp_seq ?_
        refine wp_region_rg pmix 21 (by kernel_rfl) rfl hs ?_
        simp only [List.take_succ_cons, List.take_zero]
        refine rg_q (fun ac ww h => c_move (h.ev rfl)) rfl ?_
        refine rg_q (fun ac ww h => c_move (h.ev rfl)) rfl ?_
        refine rg_q (fun ac ww h => c_addU (h.ev rfl) (h.ev rfl)) rfl ?_
        refine rg_q (fun ac ww h => c_move (h.ev rfl)) rfl ?_
        refine rg_q (fun ac ww h => c_move (h.ev rfl)) rfl ?_
        refine rg_q (fun ac ww h => c_andU (h.ev rfl) (h.ev rfl)) rfl ?_
        refine rg_q (fun ac ww h => c_move (h.ev rfl)) rfl ?_
        refine rg_q (fun ac ww h => c_notU (h.ev rfl)) rfl ?_
        refine rg_q (fun ac ww h => c_move (h.ev rfl)) rfl ?_
        refine rg_q (fun ac ww h => c_andU (h.ev rfl) (h.ev rfl)) rfl ?_
        refine rg_q (fun ac ww h => c_xorU (h.ev rfl) (h.ev rfl)) rfl ?_
        refine rg_q (fun ac ww h => c_addU (h.ev rfl) (h.ev rfl)) rfl ?_
        refine rg_q (fun ac ww h => c_move (h.ev rfl)) rfl ?_
        refine rg_q (fun ac ww h => c_idxA (j := k) un207 ty27 (h.ev rfl) (h.ev rfl) (by omega) (by omega)) rfl ?_
        refine rg_q (fun ac ww h => c_loadS un27 rfl (h.ev rfl) (h.blk (hs.seg (i := 0) rfl)) (map_get 0 (by simp; omega))) rfl ?_
        refine rg_q (fun ac ww h => c_addU (h.ev rfl) (h.ev rfl)) rfl ?_
        refine rg_q (fun ac ww h => c_move (h.ev rfl)) rfl ?_
        refine rg_q (fun ac ww h => c_idxA (j := k) un207 ty27 (h.ev rfl) (h.ev rfl) (by omega) (by omega)) rfl ?_
        refine rg_q (fun ac ww h => c_loadS un27 rfl (h.ev rfl) (h.blk (hs.seg (i := 1) rfl)) (sched_at p 64 k _ (by omega))) rfl ?_
        refine rg_q (fun ac ww h => c_addU (h.ev rfl) (h.ev rfl)) rfl ?_
        refine rg_q (fun ac ww h => c_assign (h.ev rfl)) rfl ?_
        refine rg_nil fun ac ww L' hf hfe hs => ?_
        simp only [List.drop_succ_cons, List.drop_zero]
        obtain rfl : L' = [] := hfe
        replace hs := hs.toL (List.nil_append _)
        refine s_end ?_
        refine then_n ?_
        refine wp_seq ?_
        refine wp_reg ?_
        refine s_q hs (c_move (hs.ev rfl)) rfl fun ac hs => ?_
        refine s_call hs fu182 (.cons (hs.ev rfl) (.cons (hs.ev rfl) .nil)) (sha_turn _ 2 (by omega) (by omega) _) rfl fun ac ww v155 hf hp hs => ?_
        obtain rfl := hp
        replace hs := hs [] (.nil _ _)
        refine s_q hs (c_move (hs.ev rfl)) rfl fun ac hs => ?_
        refine s_call hs fu182 (.cons (hs.ev rfl) (.cons (hs.ev rfl) .nil)) (sha_turn _ 13 (by omega) (by omega) _) rfl fun ac ww v157 hf hp hs => ?_
        obtain rfl := hp
        replace hs := hs [] (.nil _ _)
        refine s_q hs (c_xorU (hs.ev rfl) (hs.ev rfl)) rfl fun ac hs => ?_
        refine s_q hs (c_move (hs.ev rfl)) rfl fun ac hs => ?_
        refine s_call hs fu182 (.cons (hs.ev rfl) (.cons (hs.ev rfl) .nil)) (sha_turn _ 22 (by omega) (by omega) _) rfl fun ac ww v160 hf hp hs => ?_
        obtain rfl := hp
        replace hs := hs [] (.nil _ _)
        refine s_q hs (c_xorU (hs.ev rfl) (hs.ev rfl)) rfl fun ac hs => ?_
        refine s_q hs (c_assign (hs.ev rfl)) rfl fun ac hs => ?_
        refine s_end ?_
        refine then_n ?_
        refine wp_seq ?_
        refine wp_reg ?_
        refine s_q hs (c_move (hs.ev rfl)) rfl fun ac hs => ?_
        refine s_q hs (c_move (hs.ev rfl)) rfl fun ac hs => ?_
        refine s_q hs (c_move (hs.ev rfl)) rfl fun ac hs => ?_
        refine s_q hs (c_andU (hs.ev rfl) (hs.ev rfl)) rfl fun ac hs => ?_
        refine s_q hs (c_move (hs.ev rfl)) rfl fun ac hs => ?_
        refine s_q hs (c_move (hs.ev rfl)) rfl fun ac hs => ?_
        refine s_q hs (c_andU (hs.ev rfl) (hs.ev rfl)) rfl fun ac hs => ?_
        refine s_q hs (c_xorU (hs.ev rfl) (hs.ev rfl)) rfl fun ac hs => ?_
        refine s_q hs (c_move (hs.ev rfl)) rfl fun ac hs => ?_
        refine s_q hs (c_move (hs.ev rfl)) rfl fun ac hs => ?_
        refine s_q hs (c_andU (hs.ev rfl) (hs.ev rfl)) rfl fun ac hs => ?_
        refine s_q hs (c_xorU (hs.ev rfl) (hs.ev rfl)) rfl fun ac hs => ?_
        refine s_q hs (c_addU (hs.ev rfl) (hs.ev rfl)) rfl fun ac hs => ?_
        refine s_q hs (c_assign (hs.ev rfl)) rfl fun ac hs => ?_
        refine s_end ?_
        refine then_n ?_
        refine wp_reg ?_
        refine s_q hs (c_move (hs.ev rfl)) rfl fun ac hs => ?_
        refine s_q hs (c_move (hs.ev rfl)) rfl fun ac hs => ?_
        refine s_q hs (c_addU (hs.ev rfl) (hs.ev rfl)) rfl fun ac hs => ?_
        refine s_q hs (c_move (hs.ev rfl)) rfl fun ac hs => ?_
        refine s_q hs (c_move (hs.ev rfl)) rfl fun ac hs => ?_
        refine s_q hs (c_move (hs.ev rfl)) rfl fun ac hs => ?_
        refine s_q hs (c_move (hs.ev rfl)) rfl fun ac hs => ?_
        refine s_q hs (c_move (hs.ev rfl)) rfl fun ac hs => ?_
        refine s_q hs (c_addU (hs.ev rfl) (hs.ev rfl)) rfl fun ac hs => ?_
        refine s_q hs (c_move (hs.ev rfl)) rfl fun ac hs => ?_
        refine s_q hs (c_move (hs.ev rfl)) rfl fun ac hs => ?_
        refine s_q hs (c_move (hs.ev rfl)) rfl fun ac hs => ?_
        refine s_q hs (c_assign (hs.ev rfl)) rfl fun ac hs => ?_
        refine s_q hs (c_assign (hs.ev rfl)) rfl fun ac hs => ?_
        refine s_q hs (c_assign (hs.ev rfl)) rfl fun ac hs => ?_
        refine s_q hs (c_assign (hs.ev rfl)) rfl fun ac hs => ?_
        refine s_q hs (c_assign (hs.ev rfl)) rfl fun ac hs => ?_
        refine s_q hs (c_assign (hs.ev rfl)) rfl fun ac hs => ?_
        refine s_q hs (c_assign (hs.ev rfl)) rfl fun ac hs => ?_
        refine s_q hs (c_assign (hs.ev rfl)) rfl fun ac hs => ?_
        refine s_end ?_
        refine blk_n ?_
        refine then_n ?_
        refine wp_reg ?_
        refine s_q hs (c_addI (hs.ev rfl) (hs.ev rfl) (by omega) (by omega)) rfl fun ac hs => ?_
        refine s_q hs (c_move (hs.ev rfl)) rfl fun ac hs => ?_
        refine s_end ?_
        refine then_n ?_
        exact ⟨64 - (k + 1), by omega, k + 1, ⟨by omega, rfl⟩, St.next hs ⟨rfl, rfl, rfl, rfl, rfl, rfl, rfl, rfl, rfl, rfl, rfl, rfl, rfl, trivial⟩ rfl⟩
      · try simp only [decide_eq_true_eq, decide_eq_false_iff_not, Bool.not_eq_true', Bool.not_eq_false', Bool.and_eq_true, Bool.or_eq_true, Bool.or_eq_false_iff] at hc
        obtain ⟨hk, rfl⟩ := hok
        obtain rfl : k = 64 := by omega
        refine wp_exit ?_
        refine then_e ?_
        refine then_e ?_
        refine blk_hit ?_
        refine then_n ?_
        refine wp_seq ?_
        refine wp_reg ?_
        refine s_q hs (c_idxA un205 ty27 (hs.ev rfl) (hs.ev rfl) rfl (by decide)) rfl fun ac hs => ?_
        refine s_q hs (c_loadS un27 rfl (hs.ev rfl) (hs.seg (i := 3) rfl) rfl) rfl fun ac hs => ?_
        refine s_q hs (c_move (hs.ev rfl)) rfl fun ac hs => ?_
        refine s_q hs (c_addU (hs.ev rfl) (hs.ev rfl)) rfl fun ac hs => ?_
        refine s_q hs (c_idxA un205 ty27 (hs.ev rfl) (hs.ev rfl) rfl (by decide)) rfl fun ac hs => ?_
        refine s_q hs (c_loadS un27 rfl (hs.ev rfl) (hs.seg (i := 3) rfl) rfl) rfl fun ac hs => ?_
        refine s_q hs (c_move (hs.ev rfl)) rfl fun ac hs => ?_
        refine s_q hs (c_addU (hs.ev rfl) (hs.ev rfl)) rfl fun ac hs => ?_
        refine s_q hs (c_idxA un205 ty27 (hs.ev rfl) (hs.ev rfl) rfl (by decide)) rfl fun ac hs => ?_
        refine s_q hs (c_loadS un27 rfl (hs.ev rfl) (hs.seg (i := 3) rfl) rfl) rfl fun ac hs => ?_
        refine s_q hs (c_move (hs.ev rfl)) rfl fun ac hs => ?_
        refine s_q hs (c_addU (hs.ev rfl) (hs.ev rfl)) rfl fun ac hs => ?_
        refine s_q hs (c_idxA un205 ty27 (hs.ev rfl) (hs.ev rfl) rfl (by decide)) rfl fun ac hs => ?_
        refine s_q hs (c_loadS un27 rfl (hs.ev rfl) (hs.seg (i := 3) rfl) rfl) rfl fun ac hs => ?_
        refine s_q hs (c_move (hs.ev rfl)) rfl fun ac hs => ?_
        refine s_q hs (c_addU (hs.ev rfl) (hs.ev rfl)) rfl fun ac hs => ?_
        refine s_q hs (c_idxA un205 ty27 (hs.ev rfl) (hs.ev rfl) rfl (by decide)) rfl fun ac hs => ?_
        refine s_q hs (c_loadS un27 rfl (hs.ev rfl) (hs.seg (i := 3) rfl) rfl) rfl fun ac hs => ?_
        refine s_q hs (c_move (hs.ev rfl)) rfl fun ac hs => ?_
        refine s_q hs (c_addU (hs.ev rfl) (hs.ev rfl)) rfl fun ac hs => ?_
        refine s_q hs (c_idxA un205 ty27 (hs.ev rfl) (hs.ev rfl) rfl (by decide)) rfl fun ac hs => ?_
        refine s_q hs (c_loadS un27 rfl (hs.ev rfl) (hs.seg (i := 3) rfl) rfl) rfl fun ac hs => ?_
        refine s_q hs (c_move (hs.ev rfl)) rfl fun ac hs => ?_
        refine s_q hs (c_addU (hs.ev rfl) (hs.ev rfl)) rfl fun ac hs => ?_
        refine s_q hs (c_idxA un205 ty27 (hs.ev rfl) (hs.ev rfl) rfl (by decide)) rfl fun ac hs => ?_
        refine s_q hs (c_loadS un27 rfl (hs.ev rfl) (hs.seg (i := 3) rfl) rfl) rfl fun ac hs => ?_
        refine s_q hs (c_move (hs.ev rfl)) rfl fun ac hs => ?_
        refine s_q hs (c_addU (hs.ev rfl) (hs.ev rfl)) rfl fun ac hs => ?_
        refine s_q hs (c_idxA un205 ty27 (hs.ev rfl) (hs.ev rfl) rfl (by decide)) rfl fun ac hs => ?_
        refine s_q hs (c_loadS un27 rfl (hs.ev rfl) (hs.seg (i := 3) rfl) rfl) rfl fun ac hs => ?_
        refine s_q hs (c_move (hs.ev rfl)) rfl fun ac hs => ?_
        refine s_q hs (c_addU (hs.ev rfl) (hs.ev rfl)) rfl fun ac hs => ?_
        refine s_q hs (c_buildA ty205 un205 ty27 (zc := (comp h p).list.map U) (.cons (hs.ev rfl) (.cons (hs.ev rfl) (.cons (hs.ev rfl) (.cons (hs.ev rfl) (.cons (hs.ev rfl) (.cons (hs.ev rfl) (.cons (hs.ev rfl) (.cons (hs.ev rfl) .nil)))))))) (by simp [Value.cells]) (by simp [flatCells, Value.cells]) rfl) rfl fun ac hs => ?_
        refine s_storeW (i := 2) hs ty205 rfl rfl rfl (by simp) (by simp [Value.oneCell']) (by simp) fun ww hs => ?_
        refine s_end ?_
        replace hs := hs.sub (F' := [(4, _)]) ⟨rfl, trivial⟩
        refine then_n ?_
        refine wp_ret ?_
        refine s_ret hs rfl (.cell (hs.tmp rfl) (run_loadA ty205 rfl (hs.seg (i := 2) rfl) (List.take_of_length_le (by simp)) (by simp)) .nil) rfl ⟨_, rfl, hs.fr, ?_⟩
        rfl

end Go.Proofs.Ytmgnnclkjkbmdaa
end

/- The sum of many blocks, as plain Lean. -/
section
set_option linter.unusedSimpArgs false
set_option linter.unusedVariables false
set_option maxRecDepth 100000
namespace Go.Proofs.Ytmgnnclkjkbmdaa



namespace Sha
theorem word_congr {p q : List UInt8} (h : ∀ j, j < 64 → p.getD j 0 = q.getD j 0) {i : Nat} (hi : i < 16) : word p i = word q i := by
  simp only [word, h (4 * i) (by omega), h (4 * i + 1) (by omega), h (4 * i + 2) (by omega), h (4 * i + 3) (by omega)]
theorem sched_congr {p q : List UInt8} (h : ∀ j, j < 64 → p.getD j 0 = q.getD j 0) : ∀ n, sched p n = sched q n
  | 0 => by rw [sched_zero, sched_zero]
  | n + 1 => by
    have ih := sched_congr h n
    by_cases hn : n < 16
    · rw [sched_lo p n hn, sched_lo q n hn, ih, word_congr h hn]
    · rw [sched_hi p n (by omega), sched_hi q n (by omega), ih]
theorem rounds_congr {p q : List UInt8} (h : ∀ j, j < 64 → p.getD j 0 = q.getD j 0) (r : R) : ∀ n, rounds p r n = rounds q r n
  | 0 => rfl
  | n + 1 => by rw [rounds, rounds, rounds_congr h r n, sched_congr h 64]
theorem comp_congr {p q : List UInt8} (h : ∀ j, j < 64 → p.getD j 0 = q.getD j 0) (r : R) : comp r p = comp r q := by
  rw [comp, comp, rounds_congr h r 64]

/-- The first n blocks of some bytes. -/
def foldB (r : R) (l : List UInt8) : Nat → R
  | 0 => r
  | n + 1 => comp (foldB r l n) (l.drop (64 * n))
theorem foldB_congr {l m : List UInt8} (r : R) : ∀ n, (∀ j, j < 64 * n → l.getD j 0 = m.getD j 0) → foldB r l n = foldB r m n
  | 0, _ => rfl
  | n + 1, h => by
    rw [foldB, foldB, foldB_congr r n fun j hj => h j (by omega)]
    refine comp_congr (fun j hj => ?_) _
    have := h (64 * n + j) (by omega)
    simpa [List.getD, List.getElem?_drop] using this
theorem foldB_app (r : R) (a b : List UInt8) (n : Nat) (h : 64 * n ≤ a.length) : foldB r (a ++ b) n = foldB r a n :=
  foldB_congr r n fun j hj => by simp [List.getD, List.getElem?_append_left (show j < a.length by omega)]
theorem foldB_add (r : R) (l : List UInt8) (n : Nat) : ∀ k, foldB (foldB r l n) (l.drop (64 * n)) k = foldB r l (n + k)
  | 0 => rfl
  | k + 1 => by
    rw [foldB, foldB_add r l n k, List.drop_drop, ← Nat.add_assoc, foldB]
    congr 2
    omega

def be32 (x : UInt32) : List UInt8 := [(x >>> 24).toUInt8, (x >>> 16).toUInt8, (x >>> 8).toUInt8, x.toUInt8]
def be64 (x : UInt64) : List UInt8 := [(x >>> 56).toUInt8, (x >>> 48).toUInt8, (x >>> 40).toUInt8, (x >>> 32).toUInt8, (x >>> 24).toUInt8, (x >>> 16).toUInt8, (x >>> 8).toUInt8, x.toUInt8]
/-- How many zeros stand behind m bytes. -/
def zc (m : Nat) : Nat := (119 - m % 64) % 64
/-- Some last bytes, filled up, where n bytes are summed in all. -/
def fill (l : List UInt8) (n : UInt64) : List UInt8 := l ++ [0x80] ++ List.replicate (zc l.length) 0 ++ be64 (n * 8)
def pad (p : List UInt8) : List UInt8 := fill p (UInt64.ofNat p.length)
def out (r : R) : List UInt8 := r.list.flatMap be32
/-- The sum. -/
def sum (p : List UInt8) : List UInt8 := out (foldB first (pad p) ((pad p).length / 64))
/-- How many blocks. -/
def blocks (n : Nat) : Nat := n / 64 + (if n % 64 > 55 then 2 else 1)

@[simp] theorem be32_length (x : UInt32) : (be32 x).length = 4 := rfl
@[simp] theorem be64_length (x : UInt64) : (be64 x).length = 8 := rfl
@[simp] theorem out_length (r : R) : (out r).length = 32 := rfl
@[simp] theorem sum_length (p : List UInt8) : (sum p).length = 32 := rfl
theorem fill_length (l : List UInt8) (n : UInt64) : (fill l n).length = 64 * blocks l.length := by
  simp only [fill, List.length_append, List.length_cons, List.length_nil, List.length_replicate, be64_length, zc, blocks]
  split <;> omega
theorem pad_length (p : List UInt8) : (pad p).length = 64 * blocks p.length := fill_length _ _
theorem sum_eq (p : List UInt8) : sum p = out (foldB first (pad p) (blocks p.length)) := by
  rw [sum, pad_length, Nat.mul_div_cancel_left _ (by decide)]
/-- The bytes that are not yet taken in. -/
def rest (a : List UInt8) : List UInt8 := a.drop (64 * (a.length / 64))
theorem rest_length (a : List UInt8) : (rest a).length = a.length % 64 := by rw [rest, List.length_drop]; omega
theorem pad_rest (a : List UInt8) : fill (rest a) (UInt64.ofNat a.length) = (pad a).drop (64 * (a.length / 64)) := by
  have hz : zc (rest a).length = zc a.length := by rw [rest_length, zc, zc, Nat.mod_mod]
  simp only [pad, fill, hz, List.append_assoc]
  rw [List.drop_append_of_le_length (by omega)]
  rfl
/-- The sum by what was taken in and what was not. -/
theorem sum_rest (a : List UInt8) : out (foldB (foldB first a (a.length / 64)) (fill (rest a) (UInt64.ofNat a.length)) (blocks (a.length % 64))) = sum a := by
  have h1 : foldB first a (a.length / 64) = foldB first (pad a) (a.length / 64) := by
    simp only [pad, fill, List.append_assoc]
    rw [foldB_app _ _ _ _ (by omega)]
  rw [h1, pad_rest, foldB_add, sum_eq]
  congr 2
  simp only [blocks]
  split <;> split <;> omega
end Sha

end Go.Proofs.Ytmgnnclkjkbmdaa
end

/- A sum under way. -/
section
set_option linter.unusedSimpArgs false
set_option linter.unusedVariables false
set_option maxRecDepth 100000
namespace Go.Proofs.Ytmgnnclkjkbmdaa
open Go Go.Fw

open Sha
/-- The cells of a sum under way, of the bytes a. -/
def ws (r : R) (rv : Value) (n : UInt64) (b : Int) : List Value := r.list.map U ++ [rv, V n, I b]
@[simp] theorem ws_length (r : R) (rv : Value) (n : UInt64) (b : Int) : (ws r rv n b).length = 11 := rfl
def hcells (a : List UInt8) (rv : Value) : List Value := ws (foldB first a (a.length / 64)) rv (UInt64.ofNat a.length) ((a.length / 64 : Nat) : Int)
def hash (g : Nat) (rv : Value) (a : List UInt8) : List Ent := [.seg g (hcells a rv) 213, .row rv (rest a).length ((rest a).map B) 5 1]
@[simp] theorem hcells_length (a : List UInt8) (rv : Value) : (hcells a rv).length = 11 := by simp [hcells, ws]

-- sha.New
set_option maxHeartbeats 4000000 in
theorem sha_New  (w : World)  : Ctr Try.prog 48 [] w (fun _ => False) (fun v w' => ∃ g, v = .pointer (some ⟨g, 0, none⟩) ∧ Has w.heap.size w' (hash g (.slice none 0 0) [])) := by
  refine fn_start (N := 4) Try.func48 rfl rfl rfl fun ac hk => ?_
  have hs := St.start hk w
  refine wp_seq ?_
  refine wp_reg ?_
  refine s_q hs (c_assign (hs.ev rfl)) rfl fun ac hs => ?_
  refine s_end ?_
  refine then_n ?_
  refine wp_seq ?_
  refine wp_reg ?_
  refine s_q hs (c_buildA (zc := first.list.map U) ty205 un205 ty27 (.cons (St.ev (v := U 1779033703) hs rfl) (.cons (St.ev (v := U 3144134277) hs rfl) (.cons (St.ev (v := U 1013904242) hs rfl) (.cons (St.ev (v := U 2773480762) hs rfl) (.cons (St.ev (v := U 1359893119) hs rfl) (.cons (St.ev (v := U 2600822924) hs rfl) (.cons (St.ev (v := U 528734635) hs rfl) (.cons (St.ev (v := U 1541459225) hs rfl) .nil)))))))) (by simp [Value.cells]) (by simp [flatCells, Value.cells]) rfl) rfl fun ac hs => ?_
  refine s_q hs (c_buildS (zc := hcells [] (.slice none 0 0)) ty213 bp213 (.cons (hs.ev rfl) .nil) ⟨rfl, trivial⟩ (by simp [flatCells, Value.cells]) rfl) rfl fun ac hs => ?_
  refine s_box hs rfl rfl rfl fun ac ww g3 hs => ?_
  refine s_q hs (c_assign (hs.ev rfl)) rfl fun ac hs => ?_
  refine s_end ?_
  replace hs := hs.sub (F' := [(0, _)]) ⟨rfl, trivial⟩
  refine then_n ?_
  refine wp_ret ?_
  replace hs := (hs.nilrow 5 1).perm (L' := hash g3 (.slice none 0 0) []) (by unfold hash; exact List.Perm.swap _ _ _)
  refine s_ret hs rfl (.tmp (hs.tmp rfl) .nil) rfl ⟨_, rfl, hs.fr, ?_⟩
  exact ⟨g3, rfl, hs.made⟩

theorem row_congr {v : Value} {l m : List UInt8} (h : l = m) {T : TypeId} : Ent.row v l.length (l.map B) T 1 = Ent.row v m.length (m.map B) T 1 := by rw [h]
theorem w_start {g : Nat} {v : Value} {a p : List UInt8} (h : a.length + p.length ≤ 140737488355328) {b : Int} : [Ent.seg g (ws (foldB first a (a.length / 64)) v (UInt64.ofNat a.length + i64 (p.length : Int)) b) 213, .row v (rest a ++ p).length ((rest a ++ p).map B) 5 1] =
    [Ent.seg g (ws (foldB first (a ++ p) (a.length / 64)) v (UInt64.ofNat (a ++ p).length) b) 213, .row v ((a ++ p).drop (64 * (a.length / 64))).length (((a ++ p).drop (64 * (a.length / 64))).map B) 5 1] := by
  rw [u64_app a p (by omega), foldB_app _ _ _ _ (by omega), List.drop_append_of_le_length (by omega), rest]
theorem w_next {g : Nat} {ad : Option Addr} {cap : Nat} {l : List UInt8} {k : Nat} : [Ent.seg g (ws (comp (foldB first l k) (l.drop (64 * k))) (.slice ad ([] ++ (l.drop (64 * k)).drop 64).length cap) (UInt64.ofNat l.length) ((k : Int) + 1)) 213, .row (.slice ad ([] ++ (l.drop (64 * k)).drop 64).length cap) ([] ++ (l.drop (64 * k)).drop 64).length (([] ++ (l.drop (64 * k)).drop 64).map B) 5 1] =
    [Ent.seg g (ws (foldB first l (k + 1)) (.slice ad ([] ++ (l.drop (64 * k)).drop 64).length cap) (UInt64.ofNat l.length) ((k + 1 : Nat) : Int)) 213, .row (.slice ad ([] ++ (l.drop (64 * k)).drop 64).length cap) (l.drop (64 * (k + 1))).length ((l.drop (64 * (k + 1))).map B) 5 1] := by
  rw [show l.drop (64 * (k + 1)) = [] ++ (l.drop (64 * k)).drop 64 from by rw [List.nil_append, List.drop_drop]; rfl]
  rfl
theorem w_end {g : Nat} {v : Value} {l : List UInt8} {k : Nat} (h : k = l.length / 64) : [Ent.seg g (ws (foldB first l k) v (UInt64.ofNat l.length) (k : Int)) 213, .row v (l.drop (64 * k)).length ((l.drop (64 * k)).map B) 5 1] = hash g v l := by
  subst h; rfl

theorem hash_get {w : World} {g : Nat} {rv : Value} {a : List UInt8} (h : Has 0 w (hash g rv a)) : w.heap[g]? = some (.cells (hcells a rv).toArray 213 (0, 0)) ∧ RdB w rv (rest a) :=
  ⟨h.holds _ (by simp [hash] : Ent.seg g (hcells a rv) 213 ∈ hash g rv a), RdB.row (h.holds _ (by simp [hash] : Ent.row rv (rest a).length ((rest a).map B) 5 1 ∈ hash g rv a))⟩

-- sha.Hash).Write
set_option maxHeartbeats 4000000 in
theorem sha_Write (a p : List UInt8) (g : Nat) (rv pv : Value) (hle : a.length + p.length ≤ 140737488355328) (w : World) (hh : Has 0 w (hash g rv a)) (hq : RdB w pv p) (hpM : p ≠ [] → ∀ k, pv.ownBlock = some k → ¬ (Ent.grp (hash g rv a)).keys k) : Ctr Try.prog 49 [.pointer (some ⟨g, 0, none⟩), pv] w (Ent.grp (hash g rv a)).keys (fun _ w' => ∃ rv', Has 0 w' (hash g rv' (a ++ p)) ∧ ∀ k, (Ent.grp (hash g rv' (a ++ p))).keys k → (Ent.grp (hash g rv a)).keys k ∨ w.heap.size ≤ k) := by
  obtain ⟨pad, pcap, rfl, hpc, hpm⟩ := Rd.sl hq
  refine fn_start (N := 60) Try.func49 rfl rfl rfl fun ac hk => ?_
  have hs := St.startG hk hh
  refine wp_seq ?_
  refine wp_seq ?_
  refine wp_reg ?_
  refine s_q hs (c_move (hs.ev rfl)) rfl fun ac hs => ?_
  refine s_q hs (c_eqlNil un48 (hs.ev rfl) (hs.ev rfl)) rfl fun ac hs => ?_
  refine s_end ?_
  replace hs := hs.sub (F' := [(0, _), (1, _), (5, _)]) ⟨rfl, rfl, rfl, trivial⟩
  refine then_n ?_
  refine wp_cond_false (hs.ev rfl) ?_
  refine wp_skip ?_
  refine then_n ?_
  refine wp_seq ?_
  refine wp_reg ?_
  refine s_q hs (c_move (hs.ev rfl)) rfl fun ac hs => ?_
  refine s_q hs (c_nil (hs.ev rfl)) rfl fun ac hs => ?_
  refine s_q hs (c_fld fl213_2 (hs.ev rfl)) rfl fun ac hs => ?_
  refine s_q hs (c_loadS un210 rfl (hs.ev rfl) (hs.seg (i := 0) rfl) rfl) rfl fun ac hs => ?_
  refine s_q hs (c_move (hs.ev rfl)) rfl fun ac hs => ?_
  refine s_q hs (c_lenS un34 (hs.ev rfl)) rfl fun ac hs => ?_
  refine s_q hs (c_cvIV un3 un210 (hs.ev rfl)) rfl fun ac hs => ?_
  refine s_q hs (c_addV (hs.ev rfl) (hs.ev rfl)) rfl fun ac hs => ?_
  refine s_q hs (c_nil (hs.ev rfl)) rfl fun ac hs => ?_
  refine s_q hs (c_fld fl213_2 (hs.ev rfl)) rfl fun ac hs => ?_
  refine s_store (i := 0) hs ty210 rfl rfl rfl rfl rfl rfl (by simp) (show _ = ws (foldB first a (a.length / 64)) (rv) (UInt64.ofNat a.length + i64 (p.length : Int)) (((a.length / 64 : Nat) : Int)) from rfl) fun ww hs => ?_
  refine s_end ?_
  replace hs := hs.sub (F' := [(0, _), (1, _)]) ⟨rfl, rfl, trivial⟩
  refine then_n ?_
  refine wp_seq ?_
  refine wp_reg ?_
  refine s_q hs (c_move (hs.ev rfl)) rfl fun ac hs => ?_
  refine s_q hs (c_move (hs.ev rfl)) rfl fun ac hs => ?_
  refine s_q hs (c_nil (hs.ev rfl)) rfl fun ac hs => ?_
  refine s_q hs (c_fld fl213_1 (hs.ev rfl)) rfl fun ac hs => ?_
  refine s_q hs (c_loadS un34 rfl (hs.ev rfl) (hs.seg (i := 0) rfl) rfl) rfl fun ac hs => ?_
  refine s_q hs (c_move (hs.ev rfl)) rfl fun ac hs => ?_
  refine s_appB (i := 1) hs un34 ty5 rfl rfl rfl (hq.fr' hs.fr hpM) (by rw [rest_length]; omega) rfl fun ac ww v22 hf hnil hs => ?_
  obtain ⟨ad22, cap22, rfl, _, _⟩ := Rd.sl (RdB.row (hs.get (i := 1) rfl))
  refine s_q hs (c_nil (hs.ev rfl)) rfl fun ac hs => ?_
  refine s_q hs (c_fld fl213_1 (hs.ev rfl)) rfl fun ac hs => ?_
  refine s_store (i := 0) hs ty34 rfl rfl rfl rfl rfl rfl (by simp) (show _ = ws (foldB first a (a.length / 64)) (_) (UInt64.ofNat a.length + i64 (p.length : Int)) (((a.length / 64 : Nat) : Int)) from rfl) fun ww hs => ?_
  refine s_end ?_
  replace hs := hs.sub (F' := [(0, _)]) ⟨rfl, trivial⟩
  refine then_n ?_
  refine wp_block ?_
  refine s_loop hs (X := Nat × Value) (fun _ => []) [(0, _)] (fun x => [.seg g (ws (foldB first (a ++ p) x.1) x.2 (UInt64.ofNat (a ++ p).length) (x.1 : Int)) 213, .row x.2 ((a ++ p).drop (64 * x.1)).length (((a ++ p).drop (64 * x.1)).map B) 5 1]) (fun n x => 64 * x.1 ≤ (a ++ p).length ∧ n = (a ++ p).length / 64 - x.1) (_) ((a.length / 64, _)) (⟨by simp only [List.length_append]; omega, rfl⟩) ⟨rfl, trivial⟩ (w_start hle) ?_
  rintro n ⟨k, rv⟩ ac ww hok hs
  simp only [List.cons_append, List.nil_append] at hs
  obtain ⟨hk, rfl⟩ := hok
  simp only at hk hs
  obtain ⟨rad, rcap, rfl, hrc, hrm⟩ := Rd.sl (RdB.row (hs.get (i := 1) rfl))
  have hll : (a ++ p).length ≤ 140737488355328 := by simp only [List.length_append]; omega
  have hdl : ((a ++ p).drop (64 * k)).length = (a ++ p).length - 64 * k := List.length_drop
  refine wp_seq ?_
  refine wp_seq ?_
  refine wp_reg ?_
  refine s_q hs (c_move (hs.ev rfl)) rfl fun ac hs => ?_
  refine s_q hs (c_nil (hs.ev rfl)) rfl fun ac hs => ?_
  refine s_q hs (c_fld fl213_1 (hs.ev rfl)) rfl fun ac hs => ?_
  refine s_q hs (c_loadS un34 rfl (hs.ev rfl) (hs.seg (i := 0) rfl) rfl) rfl fun ac hs => ?_
  refine s_q hs (c_lenS un34 (hs.ev rfl)) rfl fun ac hs => ?_
  refine s_q hs (c_geqI (hs.ev rfl) (hs.ev rfl)) rfl fun ac hs => ?_
  refine s_end ?_
  refine then_n ?_
  refine s_cond hs rfl (fun hc => ?_) (fun hc => ?_)
  · try simp only [decide_eq_true_eq, decide_eq_false_iff_not, Bool.not_eq_true', Bool.not_eq_false', Bool.and_eq_true, Bool.or_eq_true, Bool.or_eq_false_iff] at hc
    refine wp_skip ?_
    refine then_n ?_
    refine wp_block ?_
    refine wp_seq ?_
    refine wp_region_rg pmix 12 (by kernel_rfl) rfl hs ?_
    simp only [List.take_succ_cons, List.take_zero]
    refine rg_q (fun ac ww h => c_move (h.ev rfl)) rfl ?_
    refine rg_q (fun ac ww h => c_move (h.ev rfl)) rfl ?_
    refine rg_q (fun ac ww h => c_nil (h.ev rfl)) rfl ?_
    refine rg_q (fun ac ww h => c_fld fl213_0 (h.ev rfl)) rfl ?_
    refine rg_q (fun ac ww h => c_loadA ty205 rfl (h.ev rfl) (h.blk (hs.seg (i := 0) rfl)) rfl (by simp)) rfl ?_
    refine rg_q (fun ac ww h => c_move (h.ev rfl)) rfl ?_
    refine rg_q (fun ac ww h => c_nil (h.ev rfl)) rfl ?_
    refine rg_q (fun ac ww h => c_fld fl213_1 (h.ev rfl)) rfl ?_
    refine rg_q (fun ac ww h => c_loadS un34 rfl (h.ev rfl) (h.blk (hs.seg (i := 0) rfl)) rfl) rfl ?_
    refine rg_call fu157 (fun ac ww h => (.cons (h.ev rfl) (.cons (h.ev rfl) .nil))) (fun ww hf => sha_mix (foldB first (a ++ p) k) ((a ++ p).drop (64 * k)) _ (by omega) ww ((RdB.row (hs.get (i := 1) rfl)).fr0 hf)) rfl ?_
    refine rg_q (fun ac ww h => c_nil (h.ev rfl)) rfl ?_
    refine rg_q (fun ac ww h => c_fld fl213_0 (h.ev rfl)) rfl ?_
    refine rg_nil fun ac ww L' hf hfe hs => ?_
    simp only [List.drop_succ_cons, List.drop_zero]
    obtain rfl : L' = [] := hfe
    replace hs := hs.toL (List.nil_append _)
    refine s_store (i := 0) hs ty205 rfl rfl rfl (show _ = (comp (foldB first (a ++ p) k) ((a ++ p).drop (64 * k))).list.map U from rfl) (by simp) (all_map_U _) (by simp) (show _ = ws (comp (foldB first (a ++ p) k) ((a ++ p).drop (64 * k))) (_) (UInt64.ofNat (a ++ p).length) ((k : Int)) from rfl) fun ww hs => ?_
    refine s_end ?_
    refine then_n ?_
    refine wp_seq ?_
    refine wp_reg ?_
    refine s_q hs (c_move (hs.ev rfl)) rfl fun ac hs => ?_
    refine s_bslice hs un34 ty5 .nil rfl (by simp [Value.cells]) (by decide) rfl rfl fun ac ww g44 hs => ?_
    refine s_q hs (c_move (hs.ev rfl)) rfl fun ac hs => ?_
    refine s_q hs (c_nil (hs.ev rfl)) rfl fun ac hs => ?_
    refine s_q hs (c_fld fl213_1 (hs.ev rfl)) rfl fun ac hs => ?_
    refine s_q hs (c_loadS un34 rfl (hs.ev rfl) (hs.seg (i := 1) rfl) rfl) rfl fun ac hs => ?_
    refine s_q hs (c_sliceL (i := 64) un34 ty5 (hs.ev rfl) (hs.ev rfl) (by omega) (by omega)) rfl fun ac hs => ?_
    replace hs := hs.segrow (i := 0) (n := 0) (sz := 1) rfl rfl (by decide)
    refine s_appB (i := 0) (l := []) hs un34 ty5 rfl rfl rfl (RdB.cut (i := 64) (RdB.row (hs.get (i := 2) rfl)) (by omega)) (by simp; omega) rfl fun ac ww v50 hf hnil hs => ?_
    obtain ⟨ad50, cap50, rfl, _, _⟩ := Rd.sl (RdB.row (hs.get (i := 0) rfl))
    refine s_q hs (c_nil (hs.ev rfl)) rfl fun ac hs => ?_
    refine s_q hs (c_fld fl213_1 (hs.ev rfl)) rfl fun ac hs => ?_
    refine s_store (i := 1) hs ty34 rfl rfl rfl rfl rfl rfl (by simp) (show _ = ws (comp (foldB first (a ++ p) k) ((a ++ p).drop (64 * k))) (_) (UInt64.ofNat (a ++ p).length) ((k : Int)) from rfl) fun ww hs => ?_
    refine s_end ?_
    refine then_n ?_
    refine wp_reg ?_
    refine s_q hs (c_move (hs.ev rfl)) rfl fun ac hs => ?_
    refine s_q hs (c_nil (hs.ev rfl)) rfl fun ac hs => ?_
    refine s_q hs (c_fld fl213_3 (hs.ev rfl)) rfl fun ac hs => ?_
    refine s_q hs (c_loadS un3 rfl (hs.ev rfl) (hs.seg (i := 1) rfl) rfl) rfl fun ac hs => ?_
    refine s_q hs (c_addI (hs.ev rfl) (hs.ev rfl) (by omega) (by omega)) rfl fun ac hs => ?_
    refine s_q hs (c_nil (hs.ev rfl)) rfl fun ac hs => ?_
    refine s_q hs (c_fld fl213_3 (hs.ev rfl)) rfl fun ac hs => ?_
    refine s_store (i := 1) hs ty3 rfl rfl rfl rfl rfl rfl (by simp) (show _ = ws (comp (foldB first (a ++ p) k) ((a ++ p).drop (64 * k))) (_) (UInt64.ofNat (a ++ p).length) ((k : Int) + 1) from rfl) fun ww hs => ?_
    refine s_end ?_
    refine blk_n ?_
    refine then_n ?_
    replace hs := (hs.pick (L' := [_, _]) (.cons_cons _ (.cons_cons _ (.cons _ .slnil)))).perm (List.Perm.swap _ _ _)
    exact ⟨(a ++ p).length / 64 - (k + 1), by rw [hdl] at hc; omega, (k + 1, _), ⟨by rw [hdl] at hc; simp only; omega, rfl⟩, St.next hs ⟨rfl, trivial⟩ w_next⟩
  · try simp only [decide_eq_true_eq, decide_eq_false_iff_not, Bool.not_eq_true', Bool.not_eq_false', Bool.and_eq_true, Bool.or_eq_true, Bool.or_eq_false_iff] at hc
    have hkk : k = (a ++ p).length / 64 := by rw [hdl] at hc; omega
    refine wp_exit ?_
    refine then_e ?_
    refine then_e ?_
    refine blk_hit ?_
    refine s_ret_end hs rfl .nil rfl ⟨_, rfl, hs.fr, ?_⟩
    exact ⟨_, (hs.toL (w_end hkk)).grp⟩

end Go.Proofs.Ytmgnnclkjkbmdaa
end

/- The sum of what was taken in. -/
section
set_option linter.unusedSimpArgs false
set_option linter.unusedVariables false
set_option maxRecDepth 100000
namespace Go.Proofs.Ytmgnnclkjkbmdaa
open Go Go.Fw

open Sha
theorem be64_take (x : UInt64) : ∀ k, k < 8 → (be64 x).take (k + 1) = (be64 x).take k ++ [(x >>> UInt64.ofNat (56 - 8 * k)).toUInt8]
  | 0, _ => rfl | 1, _ => rfl | 2, _ => rfl | 3, _ => rfl | 4, _ => rfl | 5, _ => rfl | 6, _ => rfl
  | 7, _ => by simp [be64]
  | k + 8, h => absurd h (by omega)
theorem out_take (r : R) : ∀ k, k < 8 → (out r).take (4 * (k + 1)) = (out r).take (4 * k) ++ be32 (r.list.getD k 0)
  | 0, _ => rfl | 1, _ => rfl | 2, _ => rfl | 3, _ => rfl | 4, _ => rfl | 5, _ => rfl | 6, _ => rfl | 7, _ => rfl
  | k + 8, h => absurd h (by omega)
/-- Four bytes, set one by one. -/
theorem set4 (P : List UInt8) (m : Nat) (a b c d : UInt8) (k : Nat) (hk : P.length = 4 * k) :
    ((((P ++ List.replicate (m + 4) (0 : UInt8)).set (4 * k) a).set (4 * k + 1) b).set (4 * k + 2) c).set (4 * k + 3) d = P ++ [a, b, c, d] ++ List.replicate m 0 := by
  have e : List.replicate (m + 4) (0 : UInt8) = 0 :: 0 :: 0 :: 0 :: List.replicate m 0 := rfl
  rw [← hk, e]
  simp [List.set_append_right, List.set]
theorem arr_get {α : Type} {f : α → Value} {l : List α} {i : Nat} (d : α) (hi : i < l.length) : (l.map f).toArray[i]? = some (f (l.getD i d)) := by simp [List.getD, hi]
def outZ (r : R) (k : Nat) : List UInt8 := (out r).take (4 * k) ++ List.replicate (32 - 4 * k) 0
theorem outZ_len (r : R) (k : Nat) (h : k ≤ 8) : (outZ r k).length = 32 := by simp [outZ]; omega
theorem outZ_set (r : R) (k : Nat) (h : k < 8) (a b c d : UInt8) (he : be32 (r.list.getD k 0) = [a, b, c, d]) :
    ((((outZ r k).set (4 * k) a).set (4 * k + 1) b).set (4 * k + 2) c).set (4 * k + 3) d = outZ r (k + 1) := by
  have h4 := set4 ((out r).take (4 * k)) (32 - 4 * (k + 1)) a b c d k (by simp; omega)
  rw [show 32 - 4 * (k + 1) + 4 = 32 - 4 * k from by omega] at h4
  rw [outZ, h4, outZ, out_take r k h, he]

-- sha.Hash).Sum
set_option maxHeartbeats 4000000 in
theorem sha_HSum (a : List UInt8) (g : Nat) (rv : Value) (hle : a.length ≤ 140737488355328) (w : World) (hg : w.heap[g]? = some (.cells (hcells a rv).toArray 213 (0, 0))) (hr : RdB w rv (rest a)) : Ctr Try.prog 50 [.pointer (some ⟨g, 0, none⟩)] w (fun _ => False) (fun v _ => v = .agg ((sum a).map B).toArray) := by
  obtain ⟨rad, rcap, rfl, hrc, hrm⟩ := Rd.sl hr
  have hrl := rest_length a
  refine fn_start (N := 87) Try.func50 rfl rfl rfl fun ac hk => ?_
  have hs := St.start hk w
  refine wp_seq ?_
  refine wp_reg ?_
  refine s_alloc hs ty41 rfl fun ac ww g2 hs => ?_
  refine s_end ?_
  refine then_n ?_
  refine wp_seq ?_
  refine wp_reg ?_
  refine s_alloc hs ty41 rfl fun ac ww g3 hs => ?_
  refine s_end ?_
  refine then_n ?_
  refine wp_seq ?_
  refine wp_seq ?_
  refine wp_reg ?_
  refine s_q hs (c_move (hs.ev rfl)) rfl fun ac hs => ?_
  refine s_q hs (c_eqlNil un48 (hs.ev rfl) (hs.ev rfl)) rfl fun ac hs => ?_
  refine s_end ?_
  replace hs := hs.sub (F' := [(0, _), (2, _), (3, _), (10, _)]) ⟨rfl, rfl, rfl, rfl, trivial⟩
  refine then_n ?_
  refine wp_cond_false (hs.ev rfl) ?_
  refine wp_skip ?_
  refine then_n ?_
  refine wp_seq ?_
  refine wp_reg ?_
  refine s_bslice hs un34 ty5 .nil rfl (by simp [Value.cells]) (by decide) rfl rfl fun ac ww g12 hs => ?_
  refine s_q hs (c_move (hs.ev rfl)) rfl fun ac hs => ?_
  refine s_q hs (c_nil (hs.ev rfl)) rfl fun ac hs => ?_
  refine s_q hs (c_fld fl213_1 (hs.ev rfl)) rfl fun ac hs => ?_
  refine s_q hs (c_loadS un34 rfl (hs.ev rfl) (hs.old hg id) rfl) rfl fun ac hs => ?_
  replace hs := hs.segrow (i := 0) (n := 0) (sz := 1) rfl rfl (by decide)
  refine s_appB (i := 0) (l := []) hs un34 ty5 rfl rfl rfl (hr.fr0 hs.fr) (by simp; omega) rfl fun ac ww v17 hf hnil hs => ?_
  refine s_bslice hs un34 ty5 (.cons (hs.ev rfl) .nil) rfl (by simp [Value.cells]) (by decide) rfl rfl fun ac ww g18 hs => ?_
  refine s_appB (i := 1) hs un34 ty5 rfl rfl rfl (RdB.seg (l := [0x80]) (hs.seg (i := 0) rfl) (by decide)) (by simp; omega) rfl fun ac ww v19 hf hnil hs => ?_
  refine s_q hs (c_assign (hs.ev rfl)) rfl fun ac hs => ?_
  refine s_end ?_
  replace hs := hs.pick (L' := [_, _, _]) (.cons _ (.refl _))
  replace hs := hs.sub (F' := [(0, _), (2, _), (3, _), (4, _)]) ⟨rfl, rfl, rfl, rfl, trivial⟩
  refine then_n ?_
  refine wp_seq ?_
  refine wp_block ?_
  refine s_loop hs (X := Nat × Value) (fun x => [(4, x.2)]) [(0, _), (2, _), (3, _)] (fun x => [.row x.2 ((rest a ++ [0x80]) ++ List.replicate x.1 0).length (((rest a ++ [0x80]) ++ List.replicate x.1 0).map B) 5 1, .seg g3 ((List.replicate 32 (0 : UInt8)).map B) 41, .seg g2 ((List.replicate 32 (0 : UInt8)).map B) 41]) (fun n x => x.1 ≤ zc (rest a).length ∧ n = zc (rest a).length - x.1) (_) ((0, _)) (⟨Nat.zero_le _, rfl⟩) ⟨rfl, rfl, rfl, rfl, trivial⟩ (by simp only [List.replicate_zero, List.take_zero, List.append_nil]; try rfl) ?_
  rintro n ⟨j, v⟩ ac ww hok hs
  simp only [List.cons_append, List.nil_append] at hs
  obtain ⟨hj, rfl⟩ := hok
  simp only at hj hs
  obtain ⟨ad, cap, rfl, _, _⟩ := Rd.sl (RdB.row (hs.get (i := 0) rfl))
  have hll : ((rest a ++ [0x80]) ++ List.replicate j (0 : UInt8)).length = (rest a).length + 1 + j := by simp; omega
  simp only [zc, hrl] at hj
  refine wp_seq ?_
  refine wp_seq ?_
  refine wp_reg ?_
  refine s_q hs (c_move (hs.ev rfl)) rfl fun ac hs => ?_
  refine s_q hs (c_lenS un34 (hs.ev rfl)) rfl fun ac hs => ?_
  refine s_q hs (c_remI (hs.ev rfl) (hs.ev rfl) (by omega) (by omega)) rfl fun ac hs => ?_
  refine s_q hs (c_neqI (hs.ev rfl) (hs.ev rfl)) rfl fun ac hs => ?_
  refine s_end ?_
  refine then_n ?_
  refine s_cond hs rfl (fun hc => ?_) (fun hc => ?_)
  · try simp only [decide_eq_true_eq, decide_eq_false_iff_not, Bool.not_eq_true', Bool.not_eq_false', Bool.and_eq_true, Bool.or_eq_true, Bool.or_eq_false_iff] at hc
    refine wp_skip ?_
    refine then_n ?_
    refine wp_block ?_
    refine wp_reg ?_
    refine s_q hs (c_move (hs.ev rfl)) rfl fun ac hs => ?_
    refine s_bslice hs un34 ty5 (.cons (hs.ev rfl) .nil) rfl (by simp [Value.cells]) (by decide) rfl rfl fun ac ww g25 hs => ?_
    refine s_appB (i := 1) hs un34 ty5 rfl rfl rfl (RdB.seg (l := [0]) (hs.seg (i := 0) rfl) (by decide)) (by rw [hll]; simp; omega) rfl fun ac ww v26 hf hnil hs => ?_
    refine s_q hs (c_assign (hs.ev rfl)) rfl fun ac hs => ?_
    refine s_end ?_
    refine blk_n ?_
    refine then_n ?_
    replace hs := hs.pick (L' := [_, _, _]) (.cons _ (.refl _))
    exact ⟨zc (rest a).length - (j + 1), by rw [hll] at hc; simp only [zc, hrl]; omega, (j + 1, _), ⟨by rw [hll] at hc; simp only [zc, hrl]; omega, rfl⟩, St.next hs ⟨rfl, rfl, rfl, rfl, trivial⟩ (by simp [List.replicate_succ', ← List.append_assoc])⟩
  · try simp only [decide_eq_true_eq, decide_eq_false_iff_not, Bool.not_eq_true', Bool.not_eq_false', Bool.and_eq_true, Bool.or_eq_true, Bool.or_eq_false_iff] at hc
    have hjj : j = zc (rest a).length := by rw [hll] at hc; simp only [zc, hrl]; omega
    subst hjj
    refine wp_exit ?_
    refine then_e ?_
    refine then_e ?_
    refine blk_hit ?_
    refine then_n ?_
    refine wp_seq ?_
    refine wp_seq ?_
    refine wp_reg ?_
    refine s_q hs (c_assign (hs.ev rfl)) rfl fun ac hs => ?_
    refine s_end ?_
    replace hs := hs.sub (F' := [(0, _), (2, _), (3, _), (4, _), (5, _)]) ⟨rfl, rfl, rfl, rfl, rfl, trivial⟩
    refine then_n ?_
    refine wp_block ?_
    refine s_loop hs (X := Nat × Value) (fun x => [(4, x.2), (5, I (56 - 8 * (x.1 : Int)))]) [(0, _), (2, _), (3, _)] (fun x => [.row x.2 ((rest a ++ [0x80]) ++ List.replicate (zc (rest a).length) 0 ++ (be64 (UInt64.ofNat a.length * 8)).take x.1).length (((rest a ++ [0x80]) ++ List.replicate (zc (rest a).length) 0 ++ (be64 (UInt64.ofNat a.length * 8)).take x.1).map B) 5 1, .seg g3 ((List.replicate 32 (0 : UInt8)).map B) 41, .seg g2 ((List.replicate 32 (0 : UInt8)).map B) 41]) (fun n x => x.1 ≤ 8 ∧ n = 8 - x.1) (8) ((0, _)) (⟨Nat.zero_le _, rfl⟩) ⟨rfl, rfl, rfl, rfl, rfl, trivial⟩ (by simp only [List.replicate_zero, List.take_zero, List.append_nil]; try rfl) ?_
    rintro n ⟨k, v⟩ ac ww hok hs
    simp only [List.cons_append, List.nil_append] at hs
    obtain ⟨hk, rfl⟩ := hok
    simp only at hk hs
    obtain ⟨ad, cap, rfl, _, _⟩ := Rd.sl (RdB.row (hs.get (i := 0) rfl))
    refine wp_seq ?_
    refine wp_seq ?_
    refine wp_reg ?_
    refine s_q hs (c_move (hs.ev rfl)) rfl fun ac hs => ?_
    refine s_q hs (c_geqI (hs.ev rfl) (hs.ev rfl)) rfl fun ac hs => ?_
    refine s_end ?_
    refine then_n ?_
    refine s_cond hs rfl (fun hc => ?_) (fun hc => ?_)
    · try simp only [decide_eq_true_eq, decide_eq_false_iff_not, Bool.not_eq_true', Bool.not_eq_false', Bool.and_eq_true, Bool.or_eq_true, Bool.or_eq_false_iff] at hc
      refine wp_skip ?_
      refine then_n ?_
      refine wp_seq ?_
      refine wp_block ?_
      refine wp_reg ?_
      refine s_q hs (c_move (hs.ev rfl)) rfl fun ac hs => ?_
      refine s_q hs (c_move (hs.ev rfl)) rfl fun ac hs => ?_
      refine s_q hs (c_nil (hs.ev rfl)) rfl fun ac hs => ?_
      refine s_q hs (c_fld fl213_2 (hs.ev rfl)) rfl fun ac hs => ?_
      refine s_q hs (c_loadS un210 rfl (hs.ev rfl) (hs.old hg id) rfl) rfl fun ac hs => ?_
      refine s_q hs (c_mulV (hs.ev rfl) (St.ev (v := V 8) hs rfl)) rfl fun ac hs => ?_
      refine s_q hs (c_move (hs.ev rfl)) rfl fun ac hs => ?_
      refine s_q hs (c_shrV (n := 56 - 8 * k) (hs.ev rfl) ((hs.ev rfl).trans (congrArg I (by omega))) (by omega)) rfl fun ac hs => ?_
      refine s_q hs (c_cvVB un210 un5 (hs.ev rfl)) rfl fun ac hs => ?_
      refine s_bslice hs un34 ty5 (.cons (hs.ev rfl) .nil) rfl (by simp [Value.cells]) (by decide) rfl rfl fun ac ww g40 hs => ?_
      refine s_appB (i := 1) hs un34 ty5 rfl rfl rfl (RdB.seg (l := [_]) (hs.seg (i := 0) rfl) (by show 1 ≤ maxLen; decide)) (by simp only [List.length_append, List.length_replicate, List.length_take, be64_length, zc]; simp; omega) rfl fun ac ww v41 hf hnil hs => ?_
      refine s_q hs (c_assign (hs.ev rfl)) rfl fun ac hs => ?_
      refine s_end ?_
      refine blk_n ?_
      refine then_n ?_
      refine wp_reg ?_
      refine s_q hs (c_move (hs.ev rfl)) rfl fun ac hs => ?_
      refine s_q hs (c_subI (hs.ev rfl) (hs.ev rfl) (by omega) (by omega)) rfl fun ac hs => ?_
      refine s_q hs (c_assign (hs.ev rfl)) rfl fun ac hs => ?_
      refine s_end ?_
      refine then_n ?_
      replace hs := hs.pick (L' := [_, _, _]) (.cons _ (.refl _))
      exact ⟨8 - (k + 1), by omega, (k + 1, _), ⟨by (try simp only); omega, rfl⟩, St.next hs ⟨rfl, (congrArg (fun z => some (I z)) (by omega)), rfl, rfl, rfl, trivial⟩ (by rw [be64_take _ k (by omega)]; simp only [List.append_assoc, List.set])⟩
    · try simp only [decide_eq_true_eq, decide_eq_false_iff_not, Bool.not_eq_true', Bool.not_eq_false', Bool.and_eq_true, Bool.or_eq_true, Bool.or_eq_false_iff] at hc
      obtain rfl : k = 8 := by omega
      refine wp_exit ?_
      refine then_e ?_
      refine then_e ?_
      refine blk_hit ?_
      refine then_n ?_
      refine wp_seq ?_
      refine wp_reg ?_
      refine s_q hs (c_move (hs.ev rfl)) rfl fun ac hs => ?_
      refine s_q hs (c_nil (hs.ev rfl)) rfl fun ac hs => ?_
      refine s_q hs (c_fld fl213_0 (hs.ev rfl)) rfl fun ac hs => ?_
      refine s_q hs (c_loadA ty205 rfl (hs.ev rfl) (hs.old hg id) (show _ = (foldB first a (a.length / 64)).list.map U from rfl) (by simp)) rfl fun ac hs => ?_
      refine s_alloc hs ty205 rfl fun ac ww g6 hs => ?_
      refine s_storeW (i := 0) hs ty205 rfl rfl rfl (by simp) (all_map_U _) (by simp) fun ww hs => ?_
      refine s_end ?_
      replace hs := hs.sub (F' := [(2, _), (3, _), (4, _), (6, _)]) ⟨rfl, rfl, rfl, rfl, trivial⟩
      refine then_n ?_
      refine wp_seq ?_
      refine wp_block ?_
      replace hs := (hs.rowrd (i := 1) rfl).toL (show _ = [_, Ent.rd _ ((fill (rest a) (UInt64.ofNat a.length)).drop (64 * 0)), _, _] from rfl)
      refine s_loop hs (X := Nat × Value) (fun x => [(4, x.2)]) [(2, _), (3, _), (6, _)] (fun x => [.seg g6 ((foldB (foldB first a (a.length / 64)) (fill (rest a) (UInt64.ofNat a.length)) x.1).list.map U) 205, .rd x.2 ((fill (rest a) (UInt64.ofNat a.length)).drop (64 * x.1)), .seg g3 ((List.replicate 32 (0 : UInt8)).map B) 41, .seg g2 ((List.replicate 32 (0 : UInt8)).map B) 41]) (fun n x => x.1 ≤ blocks (rest a).length ∧ n = blocks (rest a).length - x.1) (_) ((0, _)) (⟨Nat.zero_le _, rfl⟩) ⟨rfl, rfl, rfl, rfl, trivial⟩ rfl ?_
      rintro n ⟨k, v⟩ ac ww hok hs
      simp only [List.cons_append, List.nil_append] at hs
      obtain ⟨hk, rfl⟩ := hok
      simp only at hk hs
      obtain ⟨ad, cap, rfl, _, _⟩ := Rd.sl (hs.get (i := 1) rfl)
      have hdl : ((fill (rest a) (UInt64.ofNat a.length)).drop (64 * k)).length = 64 * blocks (rest a).length - 64 * k := by rw [List.length_drop, fill_length]
      refine wp_seq ?_
      refine wp_seq ?_
      refine wp_reg ?_
      refine s_q hs (c_move (hs.ev rfl)) rfl fun ac hs => ?_
      refine s_q hs (c_lenS un34 (hs.ev rfl)) rfl fun ac hs => ?_
      refine s_q hs (c_gtrI (hs.ev rfl) (hs.ev rfl)) rfl fun ac hs => ?_
      refine s_end ?_
      refine then_n ?_
      refine s_cond hs rfl (fun hc => ?_) (fun hc => ?_)
      · try simp only [decide_eq_true_eq, decide_eq_false_iff_not, Bool.not_eq_true', Bool.not_eq_false', Bool.and_eq_true, Bool.or_eq_true, Bool.or_eq_false_iff] at hc
        rw [hdl] at hc
        refine wp_skip ?_
        refine then_n ?_
        refine wp_seq ?_
        refine wp_block ?_
        refine wp_reg ?_
        refine s_q hs (c_loadW ty205 rfl (hs.ev rfl) (hs.seg (i := 0) rfl) (by simp)) rfl fun ac hs => ?_
        refine s_q hs (c_move (hs.ev rfl)) rfl fun ac hs => ?_
        refine s_call hs fu157 (.cons (hs.ev rfl) (.cons (hs.ev rfl) .nil)) (sha_mix _ ((fill (rest a) (UInt64.ofNat a.length)).drop (64 * k)) _ (by omega) _ (hs.get (i := 1) rfl)) rfl fun ac ww v53 hf hp hs => ?_
        obtain rfl := hp
        replace hs := hs [] (.nil _ _)
        refine s_storeW (i := 0) hs ty205 rfl rfl rfl (by simp) (all_map_U _) rfl fun ww hs => ?_
        refine s_end ?_
        refine blk_n ?_
        refine then_n ?_
        refine wp_reg ?_
        refine s_q hs (c_move (hs.ev rfl)) rfl fun ac hs => ?_
        refine s_q hs (c_sliceL (i := 64) un34 ty5 (hs.ev rfl) (hs.ev rfl) (by omega) (by omega)) rfl fun ac hs => ?_
        refine s_q hs (c_assign (hs.ev rfl)) rfl fun ac hs => ?_
        refine s_end ?_
        refine then_n ?_
        replace hs := hs.rdcut (i := 1) (j := 64) rfl (by omega)
        exact ⟨blocks (rest a).length - (k + 1), by (try simp only); omega, (k + 1, _), ⟨by (try simp only); omega, rfl⟩, St.next hs ⟨rfl, rfl, rfl, rfl, trivial⟩ (by simp only [List.set, foldB, List.drop_drop]; rfl)⟩
      · try simp only [decide_eq_true_eq, decide_eq_false_iff_not, Bool.not_eq_true', Bool.not_eq_false', Bool.and_eq_true, Bool.or_eq_true, Bool.or_eq_false_iff] at hc
        have hkk : k = blocks (rest a).length := by rw [hdl] at hc; omega
        subst hkk
        refine wp_exit ?_
        refine then_e ?_
        refine then_e ?_
        refine blk_hit ?_
        refine then_n ?_
        refine wp_seq ?_
        refine wp_seq ?_
        refine wp_reg ?_
        refine s_q hs (c_loadW ty205 rfl (hs.ev rfl) (hs.seg (i := 0) rfl) (by simp)) rfl fun ac hs => ?_
        refine s_q hs (c_move (hs.ev rfl)) rfl fun ac hs => ?_
        refine s_end ?_
        replace hs := hs.pick (L' := [_, _, _]) (.cons_cons _ (.cons _ (.refl _)))
        replace hs := hs.sub (F' := [(2, _), (3, _), (54, _), (55, _)]) ⟨rfl, rfl, rfl, rfl, trivial⟩
        refine then_n ?_
        refine wp_block ?_
        refine s_loop hs (X := Nat) (fun k => [(55, I k)]) [(2, _), (3, _), (54, _)] (fun k => [.seg g6 ((foldB (foldB first a (a.length / 64)) (fill (rest a) (UInt64.ofNat a.length)) (blocks (rest a).length)).list.map U) 205, .seg g3 ((outZ (foldB (foldB first a (a.length / 64)) (fill (rest a) (UInt64.ofNat a.length)) (blocks (rest a).length)) k).map B) 41, .seg g2 ((List.replicate 32 (0 : UInt8)).map B) 41]) (fun n k => k ≤ 8 ∧ n = 8 - k) (8) (0) (⟨Nat.zero_le _, rfl⟩) ⟨rfl, rfl, rfl, rfl, trivial⟩ rfl ?_
        rintro n k ac ww hok hs
        simp only [List.cons_append, List.nil_append] at hs
        obtain ⟨hk, rfl⟩ := hok
        have hzl := outZ_len (foldB (foldB first a (a.length / 64)) (fill (rest a) (UInt64.ofNat a.length)) (blocks (rest a).length)) k hk
        refine wp_seq ?_
        refine wp_reg ?_
        refine s_q hs (c_lssI (hs.ev rfl) (hs.ev rfl)) rfl fun ac hs => ?_
        refine s_end ?_
        refine then_n ?_
        refine wp_seq ?_
        refine s_cond hs rfl (fun hc => ?_) (fun hc => ?_)
        · try simp only [decide_eq_true_eq, decide_eq_false_iff_not, Bool.not_eq_true', Bool.not_eq_false', Bool.and_eq_true, Bool.or_eq_true, Bool.or_eq_false_iff] at hc
          obtain hk8 : k < 8 := by omega
          refine wp_skip ?_
          refine then_n ?_
          refine wp_seq ?_
          refine wp_block ?_
          refine wp_seq ?_
          refine wp_reg ?_
          refine s_q hs (c_move (hs.ev rfl)) rfl fun ac hs => ?_
          refine s_q hs (c_idxS1 (j := k) un205 ty27 rfl (hs.ev rfl) (hs.ev rfl) (by omega) (by omega) (arr_get 0 (by simp; omega))) rfl fun ac hs => ?_
          refine s_q hs (c_assign (hs.ev rfl)) rfl fun ac hs => ?_
          refine s_q hs (c_assign (hs.ev rfl)) rfl fun ac hs => ?_
          refine s_end ?_
          refine then_n ?_
          refine wp_reg ?_
          refine s_q hs (c_move (hs.ev rfl)) rfl fun ac hs => ?_
          refine s_q hs (c_mulI (hs.ev rfl) (hs.ev rfl) (by omega) (by omega)) rfl fun ac hs => ?_
          refine s_q hs (c_move (hs.ev rfl)) rfl fun ac hs => ?_
          refine s_q hs (c_mulI (hs.ev rfl) (hs.ev rfl) (by omega) (by omega)) rfl fun ac hs => ?_
          refine s_q hs (c_addI (hs.ev rfl) (hs.ev rfl) (by omega) (by omega)) rfl fun ac hs => ?_
          refine s_q hs (c_move (hs.ev rfl)) rfl fun ac hs => ?_
          refine s_q hs (c_mulI (hs.ev rfl) (hs.ev rfl) (by omega) (by omega)) rfl fun ac hs => ?_
          refine s_q hs (c_addI (hs.ev rfl) (hs.ev rfl) (by omega) (by omega)) rfl fun ac hs => ?_
          refine s_q hs (c_move (hs.ev rfl)) rfl fun ac hs => ?_
          refine s_q hs (c_mulI (hs.ev rfl) (hs.ev rfl) (by omega) (by omega)) rfl fun ac hs => ?_
          refine s_q hs (c_addI (hs.ev rfl) (hs.ev rfl) (by omega) (by omega)) rfl fun ac hs => ?_
          refine s_q hs (c_move (hs.ev rfl)) rfl fun ac hs => ?_
          refine s_q hs (c_shrU (hs.ev rfl) (hs.ev rfl) (by decide)) rfl fun ac hs => ?_
          refine s_q hs (c_cvUB un27 un5 (hs.ev rfl)) rfl fun ac hs => ?_
          refine s_q hs (c_move (hs.ev rfl)) rfl fun ac hs => ?_
          refine s_q hs (c_shrU (hs.ev rfl) (hs.ev rfl) (by decide)) rfl fun ac hs => ?_
          refine s_q hs (c_cvUB un27 un5 (hs.ev rfl)) rfl fun ac hs => ?_
          refine s_q hs (c_move (hs.ev rfl)) rfl fun ac hs => ?_
          refine s_q hs (c_shrU (hs.ev rfl) (hs.ev rfl) (by decide)) rfl fun ac hs => ?_
          refine s_q hs (c_cvUB un27 un5 (hs.ev rfl)) rfl fun ac hs => ?_
          refine s_q hs (c_move (hs.ev rfl)) rfl fun ac hs => ?_
          refine s_q hs (c_cvUB un27 un5 (hs.ev rfl)) rfl fun ac hs => ?_
          refine s_q hs (c_idxA (j := 4 * k) un41 ty5 (hs.ev rfl) (hs.ev rfl) (by omega) (by omega)) rfl fun ac hs => ?_
          refine s_store (i := 1) hs ty5 rfl rfl rfl rfl rfl rfl (by simp only [List.length_map]; first | omega | (simp only [List.length_set]; omega)) (map_set _ (by first | omega | (simp only [List.length_set]; omega))) fun ww hs => ?_
          refine s_q hs (c_idxA (j := 4 * k + 1) un41 ty5 (hs.ev rfl) (hs.ev rfl) (by omega) (by omega)) rfl fun ac hs => ?_
          refine s_store (i := 1) hs ty5 rfl rfl rfl rfl rfl rfl (by simp only [List.length_map]; first | omega | (simp only [List.length_set]; omega)) (map_set _ (by first | omega | (simp only [List.length_set]; omega))) fun ww hs => ?_
          refine s_q hs (c_idxA (j := 4 * k + 2) un41 ty5 (hs.ev rfl) (hs.ev rfl) (by omega) (by omega)) rfl fun ac hs => ?_
          refine s_store (i := 1) hs ty5 rfl rfl rfl rfl rfl rfl (by simp only [List.length_map]; first | omega | (simp only [List.length_set]; omega)) (map_set _ (by first | omega | (simp only [List.length_set]; omega))) fun ww hs => ?_
          refine s_q hs (c_idxA (j := 4 * k + 3) un41 ty5 (hs.ev rfl) (hs.ev rfl) (by omega) (by omega)) rfl fun ac hs => ?_
          refine s_store (i := 1) hs ty5 rfl rfl rfl rfl rfl rfl (by simp only [List.length_map]; first | omega | (simp only [List.length_set]; omega)) (map_set _ (by first | omega | (simp only [List.length_set]; omega))) fun ww hs => ?_
          refine s_end ?_
          refine blk_n ?_
          refine then_n ?_
          refine wp_reg ?_
          refine s_q hs (c_addI (hs.ev rfl) (hs.ev rfl) (by omega) (by omega)) rfl fun ac hs => ?_
          refine s_q hs (c_move (hs.ev rfl)) rfl fun ac hs => ?_
          refine s_end ?_
          refine then_n ?_
          exact ⟨8 - (k + 1), by omega, k + 1, ⟨by omega, rfl⟩, St.next hs ⟨rfl, rfl, rfl, rfl, trivial⟩ (congrArg (fun z => [_, Ent.seg g3 (List.map B z) 41, _]) (outZ_set _ k (by omega) _ _ _ _ rfl))⟩
        · try simp only [decide_eq_true_eq, decide_eq_false_iff_not, Bool.not_eq_true', Bool.not_eq_false', Bool.and_eq_true, Bool.or_eq_true, Bool.or_eq_false_iff] at hc
          obtain rfl : k = 8 := by omega
          refine wp_exit ?_
          refine then_e ?_
          refine then_e ?_
          refine blk_hit ?_
          refine then_n ?_
          refine wp_seq ?_
          refine wp_reg ?_
          refine s_q hs (c_loadW ty41 rfl (hs.ev rfl) (hs.seg (i := 1) rfl) (by simpa using hzl)) rfl fun ac hs => ?_
          refine s_storeW (i := 2) hs ty41 rfl rfl rfl (by simpa using hzl) (all_map_B _) rfl fun ww hs => ?_
          refine s_end ?_
          replace hs := hs.sub (F' := [(2, _)]) ⟨rfl, trivial⟩
          refine then_n ?_
          refine wp_ret ?_
          refine s_ret hs rfl (.cell (hs.tmp rfl) (run_loadA ty41 rfl (hs.seg (i := 2) rfl) (List.take_of_length_le (by simp [hzl])) (by simpa using hzl)) .nil) rfl ⟨_, rfl, hs.fr, ?_⟩
          show _ = _
          rw [← sum_rest a, ← hrl]
          rfl

end Go.Proofs.Ytmgnnclkjkbmdaa
end

/- Sums, counts, digits. -/
section
set_option linter.unusedSimpArgs false
set_option linter.unusedVariables false
set_option maxRecDepth 100000
namespace Go.Proofs.Ytmgnnclkjkbmdaa
open Go Go.Fw

open Sha
/-- How many blocks any number of bytes takes. -/
def blI (n : Int) : Int := if n < 0 then 1 else n / 64 + (if n % 64 > 55 then 2 else 1)
theorem blI_nat (n : Nat) : blI (n : Int) = (blocks n : Int) := by
  simp only [blI, blocks]
  split
  · omega
  · split <;> split <;> omega

-- sha.Sum
set_option maxHeartbeats 4000000 in
theorem sha_Sum (p : List UInt8) (pv : Value) (hle : p.length ≤ 140737488355328) (w : World) (hq : RdB w pv p) : Ctr Try.prog 44 [pv] w (fun _ => False) (fun v _ => v = .agg ((sum p).map B).toArray) := by
  refine fn_start (N := 10) Try.func44 rfl rfl rfl fun ac hk => ?_
  have hs := St.start hk w
  refine wp_seq ?_
  refine wp_reg ?_
  refine s_alloc hs ty41 rfl fun ac ww g2 hs => ?_
  refine s_end ?_
  refine then_n ?_
  refine wp_seq ?_
  refine wp_reg ?_
  refine s_call hs fu48 .nil (sha_New _) rfl fun ac ww v4 hf hp hs => ?_
  obtain ⟨g, rfl, hh⟩ := hp
  replace hs := hs _ (Has.grp' hh)
  refine s_q hs (c_assign (hs.ev rfl)) rfl fun ac hs => ?_
  refine s_end ?_
  replace hs := hs.sub (F' := [(0, _), (2, _), (3, _)]) ⟨rfl, rfl, rfl, trivial⟩
  refine then_n ?_
  refine wp_seq ?_
  refine wp_reg ?_
  refine s_q hs (c_move (hs.ev rfl)) rfl fun ac hs => ?_
  refine s_q hs (c_move (hs.ev rfl)) rfl fun ac hs => ?_
  refine s_callM (i := 0) hs fu49 (.cons (hs.ev rfl) (.cons (hs.ev rfl) .nil)) rfl (sha_Write [] p g _ pv (by simp; omega) _ (hs.get (i := 0) rfl) (hq.fr0 hs.fr) (hs.far (i := 0) rfl hq)) rfl fun ac ww v7 hf hp hs => ?_
  obtain ⟨rv, h1, h2⟩ := hp
  replace hs := hs (Ent.grp (hash g rv ([] ++ p))) h1 (fun k hk => ⟨h2 k hk, grp_lt h1 k hk⟩)
  obtain ⟨hg, hr⟩ := hash_get h1
  refine s_end ?_
  replace hs := hs.sub (F' := [(2, _), (3, _)]) ⟨rfl, rfl, trivial⟩
  refine then_n ?_
  refine wp_seq ?_
  refine wp_reg ?_
  refine s_q hs (c_move (hs.ev rfl)) rfl fun ac hs => ?_
  refine s_call hs fu50 (.cons (hs.ev rfl) .nil) (sha_HSum p g rv hle _ hg hr) rfl fun ac ww v9 hf hp hs => ?_
  obtain rfl := hp
  replace hs := hs [] (.nil _ _)
  refine s_storeW (i := 1) hs ty41 rfl rfl rfl (by simp) (all_map_B _) (by simp) fun ww hs => ?_
  refine s_end ?_
  replace hs := hs.sub (F' := [(2, _)]) ⟨rfl, trivial⟩
  refine then_n ?_
  refine wp_ret ?_
  refine s_ret hs rfl (.cell (hs.tmp rfl) (run_loadA ty41 rfl (hs.seg (i := 1) rfl) (List.take_of_length_le (by simp)) (by simp)) .nil) rfl ⟨_, rfl, hs.fr, ?_⟩
  rfl

-- sha.Blocks
set_option maxHeartbeats 4000000 in
theorem sha_Blocks (n : Int) (h0 : -9223372036854775808 ≤ n) (h1 : n ≤ 9223372036854775807) (w : World)  : Ctr Try.prog 39 [I n] w (fun _ => False) (fun v _ => v = I (blI n)) := by
  refine fn_start (N := 13) Try.func39 rfl rfl rfl fun ac hk => ?_
  have hs := St.start hk w
  refine wp_seq ?_
  refine wp_reg ?_
  refine s_q hs (c_assign (hs.ev rfl)) rfl fun ac hs => ?_
  refine s_end ?_
  refine then_n ?_
  refine wp_seq ?_
  refine wp_reg ?_
  refine s_q hs (c_move (hs.ev rfl)) rfl fun ac hs => ?_
  refine s_q hs (c_max (hs.ev rfl) (hs.ev rfl)) rfl fun ac hs => ?_
  refine s_q hs (c_assign (hs.ev rfl)) rfl fun ac hs => ?_
  refine s_end ?_
  replace hs := hs.sub (F' := [(0, _), (2, _)]) ⟨rfl, rfl, trivial⟩
  refine then_n ?_
  refine wp_seq ?_
  refine wp_reg ?_
  refine s_q hs (c_assign (hs.ev rfl)) rfl fun ac hs => ?_
  refine s_end ?_
  refine then_n ?_
  refine wp_seq ?_
  refine wp_seq ?_
  refine wp_reg ?_
  refine s_q hs (c_move (hs.ev rfl)) rfl fun ac hs => ?_
  refine s_q hs (c_remI (hs.ev rfl) (hs.ev rfl) (by omega) (by omega)) rfl fun ac hs => ?_
  refine s_q hs (c_gtrI (hs.ev rfl) (hs.ev rfl)) rfl fun ac hs => ?_
  refine s_end ?_
  replace hs := hs.sub (F' := [(0, _), (2, _), (3, _), (8, _)]) ⟨rfl, rfl, rfl, rfl, trivial⟩
  refine then_n ?_
  refine s_cond hs rfl (fun hc => ?_) (fun hc => ?_)
  · try simp only [decide_eq_true_eq, decide_eq_false_iff_not, Bool.not_eq_true', Bool.not_eq_false', Bool.and_eq_true, Bool.or_eq_true, Bool.or_eq_false_iff] at hc
    refine wp_reg ?_
    refine s_q hs (c_assign (hs.ev rfl)) rfl fun ac hs => ?_
    refine s_end ?_
    replace hs := hs.sub (F' := [(0, _), (2, _), (3, _)]) ⟨rfl, rfl, rfl, trivial⟩
    refine then_n ?_
    refine wp_seq ?_
    refine wp_reg ?_
    refine s_q hs (c_move (hs.ev rfl)) rfl fun ac hs => ?_
    refine s_q hs (c_quoI (hs.ev rfl) (hs.ev rfl) (by omega) (by omega) (by omega)) rfl fun ac hs => ?_
    refine s_q hs (c_move (hs.ev rfl)) rfl fun ac hs => ?_
    refine s_q hs (c_addI (hs.ev rfl) (hs.ev rfl) (by omega) (by omega)) rfl fun ac hs => ?_
    refine s_q hs (c_assign (hs.ev rfl)) rfl fun ac hs => ?_
    refine s_end ?_
    replace hs := hs.sub (F' := [(2, _)]) ⟨rfl, trivial⟩
    refine then_n ?_
    refine wp_ret ?_
    refine s_ret hs rfl (.tmp (hs.tmp rfl) .nil) rfl ⟨_, rfl, hs.fr, ?_⟩
    show _ = _
    refine congrArg I ?_
    unfold blI
    by_cases hn : n < 0
    · rw [if_pos hn]
      omega
    · rw [if_neg hn]
      split <;> omega
  · try simp only [decide_eq_true_eq, decide_eq_false_iff_not, Bool.not_eq_true', Bool.not_eq_false', Bool.and_eq_true, Bool.or_eq_true, Bool.or_eq_false_iff] at hc
    refine wp_skip ?_
    refine then_n ?_
    refine wp_seq ?_
    refine wp_reg ?_
    refine s_q hs (c_move (hs.ev rfl)) rfl fun ac hs => ?_
    refine s_q hs (c_quoI (hs.ev rfl) (hs.ev rfl) (by omega) (by omega) (by omega)) rfl fun ac hs => ?_
    refine s_q hs (c_move (hs.ev rfl)) rfl fun ac hs => ?_
    refine s_q hs (c_addI (hs.ev rfl) (hs.ev rfl) (by omega) (by omega)) rfl fun ac hs => ?_
    refine s_q hs (c_assign (hs.ev rfl)) rfl fun ac hs => ?_
    refine s_end ?_
    replace hs := hs.sub (F' := [(2, _)]) ⟨rfl, trivial⟩
    refine then_n ?_
    refine wp_ret ?_
    refine s_ret hs rfl (.tmp (hs.tmp rfl) .nil) rfl ⟨_, rfl, hs.fr, ?_⟩
    show _ = _
    refine congrArg I ?_
    unfold blI
    by_cases hn : n < 0
    · rw [if_pos hn]
      omega
    · rw [if_neg hn]
      split <;> omega

end Go.Proofs.Ytmgnnclkjkbmdaa
end

/- Bytes as digits; the standard's example. -/
section
set_option linter.unusedSimpArgs false
set_option linter.unusedVariables false
set_option maxRecDepth 100000
namespace Go.Proofs.Ytmgnnclkjkbmdaa



namespace Sha
def digs : List UInt8 := [48, 49, 50, 51, 52, 53, 54, 55, 56, 57, 97, 98, 99, 100, 101, 102]
def hexd (n : UInt8) : UInt8 := digs.getD n.toNat 0
/-- Bytes as digits. -/
def hexs (p : List UInt8) : List UInt8 := p.flatMap fun (x : UInt8) => [hexd (x >>> 4), hexd (x &&& 15)]
theorem hi_lt (x : UInt8) : (x >>> 4).toNat < 16 := by
  have := x.toNat_lt
  rw [UInt8.toNat_shiftRight]
  simp [Nat.shiftRight_eq_div_pow]
  omega
theorem lo_lt (x : UInt8) : (x &&& 15).toNat < 16 := by
  rw [UInt8.toNat_and]
  have h : (15 : UInt8).toNat = 2 ^ 4 - 1 := rfl
  rw [h, Nat.and_two_pow_sub_one_eq_mod]
  omega
theorem hexs_succ (p : List UInt8) (k : Nat) (h : k < p.length) : hexs (p.take (k + 1)) = hexs (p.take k) ++ [hexd (p.getD k 0 >>> 4), hexd (p.getD k 0 &&& 15)] := by
  have : p.take (k + 1) = p.take k ++ [p.getD k 0] := by
    rw [List.take_succ_eq_append_getElem h]
    simp [List.getD, h]
  rw [this, hexs, List.flatMap_append]
  rfl
theorem hexs_length (p : List UInt8) : (hexs p).length = 2 * p.length := by
  induction p with
  | nil => rfl
  | cons x p ih => simp only [hexs, List.flatMap_cons, List.length_append, List.length_cons, List.length_nil] at ih ⊢; omega
/-- The standard's example. -/
def abcHex : List UInt8 := [98, 97, 55, 56, 49, 54, 98, 102, 56, 102, 48, 49, 99, 102, 101, 97, 52, 49, 52, 49, 52, 48, 100, 101, 53, 100, 97, 101, 50, 50, 50, 51, 98, 48, 48, 51, 54, 49, 97, 51, 57, 54, 49, 55, 55, 97, 57, 99, 98, 52, 49, 48, 102, 102, 54, 49, 102, 50, 48, 48, 49, 53, 97, 100]
theorem abc_ok : (hexs (sum [97, 98, 99]) == abcHex) = true := by decide +kernel
end Sha

end Go.Proofs.Ytmgnnclkjkbmdaa
end

/- Digits; the example. -/
section
set_option linter.unusedSimpArgs false
set_option linter.unusedVariables false
set_option maxRecDepth 100000
namespace Go.Proofs.Ytmgnnclkjkbmdaa
open Go Go.Fw

open Sha
-- sha.Hex
set_option maxHeartbeats 4000000 in
theorem sha_Hex (p : List UInt8) (pv : Value) (hle : p.length ≤ 70368744177664) (w : World) (hq : RdB w pv p) : Ctr Try.prog 58 [pv] w (fun _ => False) (fun v _ => v = T (hexs p)) := by
  obtain ⟨pad, pcap, rfl, hpc, hpm⟩ := Rd.sl hq
  refine fn_start (N := 24) Try.func58 rfl rfl rfl fun ac hk => ?_
  have hs := St.start hk w
  refine wp_seq ?_
  refine wp_reg ?_
  refine s_q hs (c_assign (hs.ev rfl)) rfl fun ac hs => ?_
  refine s_end ?_
  refine then_n ?_
  refine wp_seq ?_
  refine wp_reg ?_
  refine s_q hs (c_assign (hs.ev rfl)) rfl fun ac hs => ?_
  refine s_end ?_
  replace hs := hs.nilrow 5 1
  refine then_n ?_
  refine wp_seq ?_
  refine wp_seq ?_
  refine wp_reg ?_
  refine s_q hs (c_move (hs.ev rfl)) rfl fun ac hs => ?_
  refine s_q hs (c_lenS un34 (hs.ev rfl)) rfl fun ac hs => ?_
  refine s_q hs (c_move (hs.ev rfl)) rfl fun ac hs => ?_
  refine s_end ?_
  replace hs := hs.sub (F' := [(2, _), (3, _), (6, _), (7, _), (8, _)]) ⟨rfl, rfl, rfl, rfl, rfl, trivial⟩
  refine then_n ?_
  refine wp_block ?_
  refine s_loop hs (X := Nat × Value) (fun x => [(3, x.2), (8, I x.1)]) [(2, _), (6, _), (7, _)] (fun x => [.row x.2 (hexs (p.take x.1)).length ((hexs (p.take x.1)).map B) 5 1]) (fun n x => x.1 ≤ p.length ∧ n = p.length - x.1) (p.length) ((0, _)) (⟨Nat.zero_le _, rfl⟩) ⟨rfl, rfl, rfl, rfl, rfl, trivial⟩ rfl ?_
  rintro n ⟨k, v⟩ ac ww hok hs
  simp only [List.cons_append, List.nil_append] at hs
  obtain ⟨hk, rfl⟩ := hok
  simp only at hk hs
  refine wp_seq ?_
  refine wp_reg ?_
  refine s_q hs (c_lssI (hs.ev rfl) (hs.ev rfl)) rfl fun ac hs => ?_
  refine s_end ?_
  refine then_n ?_
  refine wp_seq ?_
  refine s_cond hs rfl (fun hc => ?_) (fun hc => ?_)
  · try simp only [decide_eq_true_eq, decide_eq_false_iff_not, Bool.not_eq_true', Bool.not_eq_false', Bool.and_eq_true, Bool.or_eq_true, Bool.or_eq_false_iff] at hc
    obtain ⟨pb, po, pT, pf, pall, rfl, hpb, hps⟩ := hq.at' (by omega)
    refine wp_skip ?_
    refine then_n ?_
    refine wp_seq ?_
    refine wp_block ?_
    refine wp_seq ?_
    refine wp_reg ?_
    refine s_q hs (c_idxS (j := k) un34 ty5 (hs.ev rfl) (hs.ev rfl) (by omega) (by omega)) rfl fun ac hs => ?_
    refine s_q hs (c_loadS un5 rfl (hs.ev rfl) (hs.old hpb id) (seg_get 0 hps (by omega))) rfl fun ac hs => ?_
    refine s_q hs (c_assign (hs.ev rfl)) rfl fun ac hs => ?_
    refine s_end ?_
    refine then_n ?_
    refine wp_region_rg pmix 8 (by kernel_rfl) rfl hs ?_
    simp only [List.take_succ_cons, List.take_zero]
    refine rg_q (fun ac ww h => c_move (h.ev rfl)) rfl ?_
    refine rg_q (fun ac ww h => c_move (h.ev rfl)) rfl ?_
    refine rg_q (fun ac ww h => c_shrB (h.ev rfl) (h.ev rfl) (by decide)) rfl ?_
    refine rg_q (fun ac ww h => c_idxTT (l := digs) (j := (p.getD k 0 >>> 4).toNat) un9 (h.ev rfl) (h.ev rfl) rfl (hi_lt _)) rfl ?_
    refine rg_q (fun ac ww h => c_move (h.ev rfl)) rfl ?_
    refine rg_q (fun ac ww h => c_andB (h.ev rfl) (RC.ev (v := B 15) h rfl)) rfl ?_
    refine rg_q (fun ac ww h => c_idxTT (l := digs) (j := (p.getD k 0 &&& 15).toNat) un9 (h.ev rfl) (h.ev rfl) rfl (lo_lt _)) rfl ?_
    refine rg_bslice un34 ty5 (fun ac ww h => (.cons (h.ev rfl) (.cons (h.ev rfl) .nil))) rfl (by simp [Value.cells]) (by decide) rfl rfl ?_
    refine rg_nil fun ac ww L' hf hfe hs => ?_
    simp only [List.drop_succ_cons, List.drop_zero]
    obtain ⟨v19, L19, M19, h19, e19, rfl, rfl⟩ := hfe
    replace hs := hs.add h19
    obtain ⟨g19, rfl, rfl⟩ := e19
    refine s_appB (i := 1) hs un34 ty5 rfl rfl rfl (RdB.seg (l := [_, _]) (hs.seg (i := 0) rfl) (by show 2 ≤ maxLen; decide)) (by rw [hexs_length, List.length_take]; simp; omega) rfl fun ac ww v20 hf hnil hs => ?_
    refine s_q hs (c_assign (hs.ev rfl)) rfl fun ac hs => ?_
    refine s_end ?_
    refine blk_n ?_
    refine then_n ?_
    refine wp_reg ?_
    refine s_q hs (c_addI (hs.ev rfl) (hs.ev rfl) (by omega) (by omega)) rfl fun ac hs => ?_
    refine s_q hs (c_move (hs.ev rfl)) rfl fun ac hs => ?_
    refine s_end ?_
    refine then_n ?_
    replace hs := hs.pick (L' := [_]) (.cons _ (.refl _))
    exact ⟨p.length - (k + 1), by (try simp only); omega, (k + 1, _), ⟨by (try simp only); omega, rfl⟩, St.next hs ⟨rfl, rfl, rfl, rfl, rfl, trivial⟩ (by rw [hexs_succ p k (by omega)]; rfl)⟩
  · try simp only [decide_eq_true_eq, decide_eq_false_iff_not, Bool.not_eq_true', Bool.not_eq_false', Bool.and_eq_true, Bool.or_eq_true, Bool.or_eq_false_iff] at hc
    obtain rfl : k = p.length := by omega
    rw [List.take_length] at hs
    refine wp_exit ?_
    refine then_e ?_
    refine then_e ?_
    refine blk_hit ?_
    refine then_n ?_
    refine wp_seq ?_
    refine wp_reg ?_
    refine s_q hs (c_move (hs.ev rfl)) rfl fun ac hs => ?_
    refine s_q hs (c_cvST un34 un5 un9 (hs.ev rfl) (RdB.row (hs.get (i := 0) rfl))) rfl fun ac hs => ?_
    refine s_q hs (c_assign (hs.ev rfl)) rfl fun ac hs => ?_
    refine s_end ?_
    replace hs := hs.sub (F' := [(2, _)]) ⟨rfl, trivial⟩
    refine then_n ?_
    refine wp_ret ?_
    refine s_ret hs rfl (.tmp (hs.tmp rfl) .nil) rfl ⟨_, rfl, hs.fr, ?_⟩
    rfl

-- fingerpostlaw04.awake
set_option maxHeartbeats 4000000 in
theorem law04_awake  (w : World)  : Ctr Try.prog 43 [] w (fun _ => False) (fun v _ => v = .bool true) := by
  refine fn_start (N := 8) Try.func43 rfl rfl rfl fun ac hk => ?_
  have hs := St.start hk w
  refine wp_seq ?_
  refine wp_reg ?_
  refine s_q hs (c_assign (hs.ev rfl)) rfl fun ac hs => ?_
  refine s_end ?_
  refine then_n ?_
  refine wp_seq ?_
  refine wp_reg ?_
  refine s_bslice hs un34 ty5 (.cons (hs.ev rfl) (.cons (hs.ev rfl) (.cons (hs.ev rfl) .nil))) rfl (by simp [Value.cells]) (by decide) rfl rfl fun ac ww g2 hs => ?_
  refine s_mark (i := 0) (l := [97, 98, 99]) hs un34 un34 un5 rfl rfl rfl (by decide) rfl fun ac ww hs => ?_
  refine s_call hs fu44 (.cons (hs.ev rfl) .nil) (sha_Sum [97, 98, 99] _ (by decide) _ (hs.get (i := 0) rfl)) rfl fun ac ww v4 hf hp hs => ?_
  obtain rfl := hp
  replace hs := hs [] (.nil _ _)
  refine s_alloc hs ty41 rfl fun ac ww g1 hs => ?_
  refine s_storeW (i := 0) hs ty41 rfl rfl rfl (by simp) (all_map_B _) (by simp) fun ww hs => ?_
  refine s_end ?_
  replace hs := hs.sub (F' := [(0, _), (1, _)]) ⟨rfl, rfl, trivial⟩
  refine then_n ?_
  refine wp_seq ?_
  refine wp_reg ?_
  refine s_q hs (c_sliceA un41 ty5 (hs.ev rfl)) rfl fun ac hs => ?_
  refine s_call hs fu58 (.cons (hs.ev rfl) .nil) (sha_Hex (sum [97, 98, 99]) _ (by decide) _ (RdB.seg (l := sum [97, 98, 99]) (hs.seg (i := 0) rfl) (by rw [sum_length]; decide))) rfl fun ac ww v6 hf hp hs => ?_
  obtain rfl := hp
  replace hs := hs [] (.nil _ _)
  refine s_q hs ((c_eqlTT (m := abcHex) (hs.ev rfl) (hs.ev rfl)).trans (by rw [abc_ok])) rfl fun ac hs => ?_
  refine s_q hs (c_assign (hs.ev rfl)) rfl fun ac hs => ?_
  refine s_end ?_
  replace hs := hs.sub (F' := [(0, _)]) ⟨rfl, trivial⟩
  refine then_n ?_
  refine wp_ret ?_
  refine s_ret hs rfl (.tmp (hs.tmp rfl) .nil) rfl ⟨_, rfl, hs.fr, ?_⟩
  rfl

end Go.Proofs.Ytmgnnclkjkbmdaa
end

/- The sum as the document has it. -/
section
set_option linter.unusedSimpArgs false
set_option linter.unusedVariables false
set_option maxRecDepth 100000
namespace Go.Proofs.Ytmgnnclkjkbmdaa
open Go Go.Fw

open Sha
theorem v_sub32 (n : Nat) (h : n ≤ 32) : V (32 - UInt64.ofNat n) = Value.int .u64 ((32 - n : Nat) : Int) := by
  unfold V
  congr 1
  have h2 : (UInt64.ofNat n) ≤ 32 := by rw [UInt64.le_iff_toNat_le, UInt64.toNat_ofNat']; show n % 2 ^ 64 ≤ 32; omega
  rw [UInt64.toNat_sub_of_le _ _ h2, UInt64.toNat_ofNat']
  have h3 : (32 : UInt64).toNat = 32 := rfl
  rw [h3]
  omega
theorem v_of (n : Nat) (h : n ≤ 32) : V (UInt64.ofNat n) = Value.int .u64 (n : Int) := by
  unfold V
  rw [UInt64.toNat_ofNat']
  congr 2
  omega
theorem word_sum (a b c d : UInt8) : a.toUInt32 * (16777216 : UInt32) + b.toUInt32 * (65536 : UInt32) + c.toUInt32 * (256 : UInt32) + d.toUInt32 = a.toUInt32 <<< 24 ||| b.toUInt32 <<< 16 ||| c.toUInt32 <<< 8 ||| d.toUInt32 := by
  have ha := a.toNat_lt; have hb := b.toNat_lt; have hc := c.toNat_lt; have hd := d.toNat_lt
  apply UInt32.toNat_inj.1
  have e1 : (a.toNat <<< 24 + b.toNat <<< 16) = a.toNat <<< 24 ||| b.toNat <<< 16 := Nat.shiftLeft_add_eq_or_of_lt (by rw [Nat.shiftLeft_eq]; omega) _
  have e2 : ((a.toNat <<< 8 + b.toNat) <<< 16 + c.toNat <<< 8) = (a.toNat <<< 8 + b.toNat) <<< 16 ||| c.toNat <<< 8 := Nat.shiftLeft_add_eq_or_of_lt (by rw [Nat.shiftLeft_eq]; omega) _
  have e3 : (((a.toNat <<< 8 + b.toNat) <<< 8 + c.toNat) <<< 8 + d.toNat) = ((a.toNat <<< 8 + b.toNat) <<< 8 + c.toNat) <<< 8 ||| d.toNat := Nat.shiftLeft_add_eq_or_of_lt (by omega) _
  have f1 : (a.toNat <<< 8 + b.toNat) <<< 16 = a.toNat <<< 24 + b.toNat <<< 16 := by simp only [Nat.shiftLeft_eq]; omega
  have f2 : ((a.toNat <<< 8 + b.toNat) <<< 8 + c.toNat) <<< 8 = (a.toNat <<< 8 + b.toNat) <<< 16 + c.toNat <<< 8 := by simp only [Nat.shiftLeft_eq]; omega
  have g1 : (a.toUInt32 <<< 24).toNat = a.toNat <<< 24 := by simp [UInt32.toNat_shiftLeft]; rw [Nat.shiftLeft_eq]; omega
  have g2 : (b.toUInt32 <<< 16).toNat = b.toNat <<< 16 := by simp [UInt32.toNat_shiftLeft]; rw [Nat.shiftLeft_eq]; omega
  have g3 : (c.toUInt32 <<< 8).toNat = c.toNat <<< 8 := by simp [UInt32.toNat_shiftLeft]; rw [Nat.shiftLeft_eq]; omega
  simp only [UInt32.toNat_or, g1, g2, g3, UInt8.toNat_toUInt32]
  rw [← e1, ← f1, ← e2, ← f2, ← e3]
  simp only [UInt32.toNat_add, UInt32.toNat_mul, UInt8.toNat_toUInt32, Nat.shiftLeft_eq]
  have h1 : (16777216 : UInt32).toNat = 16777216 := rfl
  have h2 : (65536 : UInt32).toNat = 65536 := rfl
  have h3 : (256 : UInt32).toNat = 256 := rfl
  rw [h1, h2, h3]
  omega
theorem add_set (r s : R) : ∀ k, k < 8 → ((r.add s).list.take k ++ r.list.drop k).set k (r.list.getD k 0 + s.list.getD k 0) = (r.add s).list.take (k + 1) ++ r.list.drop (k + 1)
  | 0, _ => rfl | 1, _ => rfl | 2, _ => rfl | 3, _ => rfl | 4, _ => rfl | 5, _ => rfl | 6, _ => rfl | 7, _ => rfl
  | k + 8, h => absurd h (by omega)
theorem add_get (r s : R) : ∀ k, k < 8 → (((r.add s).list.take k ++ r.list.drop k).map U)[0 + k * 1]? = some (U (r.list.getD k 0))
  | 0, _ => rfl | 1, _ => rfl | 2, _ => rfl | 3, _ => rfl | 4, _ => rfl | 5, _ => rfl | 6, _ => rfl | 7, _ => rfl
  | k + 8, h => absurd h (by omega)
theorem add_len (r s : R) (k : Nat) (h : k ≤ 8) : ((r.add s).list.take k ++ r.list.drop k).length = 8 := by simp; omega

theorem add4 (a b c d : UInt32) : a + b + c + d = d + c + b + a := by
  rw [UInt32.add_comm (a + b + c) d, UInt32.add_comm (a + b) c, UInt32.add_comm a b, ← UInt32.add_assoc, ← UInt32.add_assoc]
theorem lo_eq (p : List UInt8) (k : Nat) (hk : k < 16) : sched p (k + 1) = sched p k ++ [(p.getD (4 * k) 0).toUInt32 * (16777216 : UInt32) + (p.getD (4 * k + 1) 0).toUInt32 * (65536 : UInt32) + (p.getD (4 * k + 2) 0).toUInt32 * (256 : UInt32) + (p.getD (4 * k + 3) 0).toUInt32] := by
  rw [sched_lo p k hk, word, word_sum]
theorem hi_eq (p : List UInt8) (k : Nat) (hk : 16 ≤ k) : sched p (k + 1) = sched p k ++ [s1 ((sched p k).getD (k - 2) 0) + (sched p k).getD (k - 7) 0 + s0 ((sched p k).getD (k - 15) 0) + (sched p k).getD (k - 16) 0] := by
  rw [sched_hi p k hk, add4]

-- fingerpostref04.rotr
set_option maxHeartbeats 4000000 in
theorem ref04_rotr (x : UInt32) (n : Nat) (h0 : 0 < n) (h32 : n < 32) (w : World)  : Ctr Try.prog 181 [U x, .int .u64 (n : Int)] w (fun _ => False) (fun v _ => v = U (rotr x n)) := by
  refine fn_start (N := 13) Try.func181 rfl rfl rfl fun ac hk => ?_
  have hs := St.start hk w
  refine wp_seq ?_
  refine wp_reg ?_
  refine s_q hs (c_assign (St.ev (v := U 0) hs rfl)) rfl fun ac hs => ?_
  refine s_end ?_
  refine then_n ?_
  refine wp_seq ?_
  refine wp_reg ?_
  refine s_q hs (c_move (hs.ev rfl)) rfl fun ac hs => ?_
  refine s_q hs (c_move (hs.ev rfl)) rfl fun ac hs => ?_
  refine s_q hs (c_shrU (n := n) (hs.ev rfl) (hs.ev rfl) (by omega)) rfl fun ac hs => ?_
  refine s_q hs (c_move (hs.ev rfl)) rfl fun ac hs => ?_
  refine s_q hs (c_move (hs.ev rfl)) rfl fun ac hs => ?_
  refine s_q hs (c_subV (St.ev (v := V 32) hs rfl) ((hs.ev rfl).trans (v_of n (by omega)).symm)) rfl fun ac hs => ?_
  refine s_q hs (c_shlU (n := 32 - n) (hs.ev rfl) ((hs.ev rfl).trans (v_sub32 n (by omega))) (by omega)) rfl fun ac hs => ?_
  refine s_q hs (c_orU (hs.ev rfl) (hs.ev rfl)) rfl fun ac hs => ?_
  refine s_q hs (c_assign (hs.ev rfl)) rfl fun ac hs => ?_
  refine s_end ?_
  replace hs := hs.sub (F' := [(4, _)]) ⟨rfl, trivial⟩
  refine then_n ?_
  refine wp_ret ?_
  refine s_ret hs rfl (.tmp (hs.tmp rfl) .nil) rfl ⟨_, rfl, hs.fr, ?_⟩
  rfl

-- fingerpostref04.K
set_option maxHeartbeats 4000000 in
theorem ref04_K  (w : World)  : Ctr Try.prog 155 [] w (fun _ => False) (fun v _ => v = .agg (K.map U).toArray) := by
  refine fn_start (N := 2) Try.func155 rfl rfl rfl fun ac hk => ?_
  have hs := St.start hk w
  refine wp_seq ?_
  refine wp_reg ?_
  refine s_alloc hs ty207 rfl fun ac ww g0 hs => ?_
  refine s_end ?_
  refine then_n ?_
  refine wp_seq ?_
  refine wp_reg ?_
  refine s_q hs (c_buildA ty207 un207 ty27 (vs := K.map U) (zc := K.map U) (by repeat (first | exact .nil | refine .cons rfl ?_)) (by decide) (by decide) rfl) rfl fun ac hs => ?_
  refine s_storeW (i := 0) hs ty207 rfl rfl rfl (by simp) (all_map_U _) (by simp) fun ww hs => ?_
  refine s_end ?_
  replace hs := hs.sub (F' := [(0, _)]) ⟨rfl, trivial⟩
  refine then_n ?_
  refine wp_ret ?_
  refine s_ret hs rfl (.cell (hs.tmp rfl) (run_loadA ty207 rfl (hs.seg (i := 0) rfl) (List.take_of_length_le (by simp)) (by simp)) .nil) rfl ⟨_, rfl, hs.fr, ?_⟩
  rfl

-- fingerpostref04.First
set_option maxHeartbeats 4000000 in
theorem ref04_First  (w : World)  : Ctr Try.prog 154 [] w (fun _ => False) (fun v _ => v = .agg (first.list.map U).toArray) := by
  refine fn_start (N := 2) Try.func154 rfl rfl rfl fun ac hk => ?_
  have hs := St.start hk w
  refine wp_seq ?_
  refine wp_reg ?_
  refine s_alloc hs ty205 rfl fun ac ww g0 hs => ?_
  refine s_end ?_
  refine then_n ?_
  refine wp_seq ?_
  refine wp_reg ?_
  refine s_q hs (c_buildA (zc := first.list.map U) ty205 un205 ty27 (.cons (St.ev (v := U 1779033703) hs rfl) (.cons (St.ev (v := U 3144134277) hs rfl) (.cons (St.ev (v := U 1013904242) hs rfl) (.cons (St.ev (v := U 2773480762) hs rfl) (.cons (St.ev (v := U 1359893119) hs rfl) (.cons (St.ev (v := U 2600822924) hs rfl) (.cons (St.ev (v := U 528734635) hs rfl) (.cons (St.ev (v := U 1541459225) hs rfl) .nil)))))))) (by simp [Value.cells]) (by simp [flatCells, Value.cells]) rfl) rfl fun ac hs => ?_
  refine s_storeW (i := 0) hs ty205 rfl rfl rfl (by simp) (all_map_U _) (by simp) fun ww hs => ?_
  refine s_end ?_
  replace hs := hs.sub (F' := [(0, _)]) ⟨rfl, trivial⟩
  refine then_n ?_
  refine wp_ret ?_
  refine s_ret hs rfl (.cell (hs.tmp rfl) (run_loadA ty205 rfl (hs.seg (i := 0) rfl) (List.take_of_length_le (by simp)) (by simp)) .nil) rfl ⟨_, rfl, hs.fr, ?_⟩
  rfl

-- fingerpostref04.Block
set_option maxHeartbeats 4000000 in
theorem ref04_Block (r0 : R) (p : List UInt8) (vp : Value) (h64 : 64 ≤ p.length) (w : World) (hp : RdB w vp p) : Ctr Try.prog 156 [.agg (r0.list.map U).toArray, vp, .agg (K.map U).toArray] w (fun _ => False) (fun v _ => v = .agg ((comp r0 p).list.map U).toArray) := by
  obtain ⟨pb, po, pc, pT, pf, pall, rfl, hpc, hpm, hpb, hps⟩ := RdB.at_ hp (by omega)
  have hpl := hp.le
  refine fn_start (N := 213) Try.func156 rfl rfl rfl fun ac hk => ?_
  have hs := St.start hk w
  refine wp_seq ?_
  refine wp_reg ?_
  refine s_box hs rfl rfl rfl fun ac ww g3 hs => ?_
  refine s_box hs rfl rfl rfl fun ac ww g5 hs => ?_
  refine s_alloc hs ty205 rfl fun ac ww g6 hs => ?_
  refine s_end ?_
  replace hs := hs.sub (F' := [(1, _), (3, _), (5, _), (6, _)]) ⟨rfl, rfl, rfl, rfl, trivial⟩
  refine then_n ?_
  refine wp_seq ?_
  refine wp_reg ?_
  refine s_alloc hs ty207 rfl fun ac ww g7 hs => ?_
  refine s_end ?_
  refine then_n ?_
  refine wp_seq ?_
  refine wp_seq ?_
  refine wp_reg ?_
  refine s_q hs (c_assign (hs.ev rfl)) rfl fun ac hs => ?_
  refine s_end ?_
  refine then_n ?_
  refine wp_block ?_
  refine s_loop hs (X := Nat) (fun k => [(8, I k)]) [(1, _), (3, _), (5, _), (6, _), (7, _)] (fun k => [.seg g7 ((sched p k ++ List.replicate (64 - k) 0).map U) 207, .seg g6 ((List.replicate 8 (0 : UInt32)).map U) 205, .seg g5 (K.map U) 207, .seg g3 (r0.list.map U) 205]) (fun n k => k ≤ 64 ∧ n = 64 - k) (64) (0) (⟨by omega, rfl⟩) ⟨rfl, rfl, rfl, rfl, rfl, rfl, trivial⟩ (by rw [sched_zero]; rfl) ?_
  rintro n k ac ww hok hs
  simp only [List.cons_append, List.nil_append] at hs
  refine wp_seq ?_
  refine wp_seq ?_
  refine wp_reg ?_
  refine s_q hs (c_move (hs.ev rfl)) rfl fun ac hs => ?_
  refine s_q hs (c_lssI (hs.ev rfl) (hs.ev rfl)) rfl fun ac hs => ?_
  refine s_end ?_
  refine then_n ?_
  refine s_cond hs rfl (fun hc => ?_) (fun hc => ?_)
  · try simp only [decide_eq_true_eq, decide_eq_false_iff_not, Bool.not_eq_true', Bool.not_eq_false', Bool.and_eq_true, Bool.or_eq_true, Bool.or_eq_false_iff] at hc
    obtain ⟨hk, rfl⟩ := hok
    refine wp_skip ?_
    refine then_n ?_
    refine wp_seq ?_
    refine wp_block ?_
    refine wp_seq ?_
    refine wp_seq ?_
    refine wp_reg ?_
    refine s_q hs (c_move (hs.ev rfl)) rfl fun ac hs => ?_
    refine s_q hs (c_lssI (hs.ev rfl) (hs.ev rfl)) rfl fun ac hs => ?_
    refine s_end ?_
    refine then_n ?_
    refine s_cond hs rfl (fun hc => ?_) (fun hc => ?_)
    · try simp only [decide_eq_true_eq, decide_eq_false_iff_not, Bool.not_eq_true', Bool.not_eq_false', Bool.and_eq_true, Bool.or_eq_true, Bool.or_eq_false_iff] at hc
      refine wp_seq ?_
      refine wp_region_rg pmix 35 (by kernel_rfl) rfl hs ?_
      simp only [List.take_succ_cons, List.take_zero]
      refine rg_q (fun ac ww h => c_move (h.ev rfl)) rfl ?_
      refine rg_q (fun ac ww h => c_move (h.ev rfl)) rfl ?_
      refine rg_q (fun ac ww h => c_move (h.ev rfl)) rfl ?_
      refine rg_q (fun ac ww h => c_mulI (h.ev rfl) (h.ev rfl) (by omega) (by omega)) rfl ?_
      refine rg_q (fun ac ww h => c_idxS (j := 4 * k) un34 ty5 (h.ev rfl) (h.ev rfl) (by omega) (by omega)) rfl ?_
      refine rg_q (fun ac ww h => c_loadS un5 rfl (h.ev rfl) (h.blk (hs.old hpb id)) (seg_get 0 hps (by omega))) rfl ?_
      refine rg_q (fun ac ww h => c_cvBU un5 un27 (h.ev rfl)) rfl ?_
      refine rg_q (fun ac ww h => c_mulU (h.ev rfl) (RC.ev (v := U 16777216) h rfl)) rfl ?_
      refine rg_q (fun ac ww h => c_move (h.ev rfl)) rfl ?_
      refine rg_q (fun ac ww h => c_move (h.ev rfl)) rfl ?_
      refine rg_q (fun ac ww h => c_mulI (h.ev rfl) (h.ev rfl) (by omega) (by omega)) rfl ?_
      refine rg_q (fun ac ww h => c_addI (h.ev rfl) (h.ev rfl) (by omega) (by omega)) rfl ?_
      refine rg_q (fun ac ww h => c_idxS (j := 4 * k + 1) un34 ty5 (h.ev rfl) (h.ev rfl) (by omega) (by omega)) rfl ?_
      refine rg_q (fun ac ww h => c_loadS un5 rfl (h.ev rfl) (h.blk (hs.old hpb id)) (seg_get 0 hps (by omega))) rfl ?_
      refine rg_q (fun ac ww h => c_cvBU un5 un27 (h.ev rfl)) rfl ?_
      refine rg_q (fun ac ww h => c_mulU (h.ev rfl) (RC.ev (v := U 65536) h rfl)) rfl ?_
      refine rg_q (fun ac ww h => c_addU (h.ev rfl) (h.ev rfl)) rfl ?_
      refine rg_q (fun ac ww h => c_move (h.ev rfl)) rfl ?_
      refine rg_q (fun ac ww h => c_move (h.ev rfl)) rfl ?_
      refine rg_q (fun ac ww h => c_mulI (h.ev rfl) (h.ev rfl) (by omega) (by omega)) rfl ?_
      refine rg_q (fun ac ww h => c_addI (h.ev rfl) (h.ev rfl) (by omega) (by omega)) rfl ?_
      refine rg_q (fun ac ww h => c_idxS (j := 4 * k + 2) un34 ty5 (h.ev rfl) (h.ev rfl) (by omega) (by omega)) rfl ?_
      refine rg_q (fun ac ww h => c_loadS un5 rfl (h.ev rfl) (h.blk (hs.old hpb id)) (seg_get 0 hps (by omega))) rfl ?_
      refine rg_q (fun ac ww h => c_cvBU un5 un27 (h.ev rfl)) rfl ?_
      refine rg_q (fun ac ww h => c_mulU (h.ev rfl) (RC.ev (v := U 256) h rfl)) rfl ?_
      refine rg_q (fun ac ww h => c_addU (h.ev rfl) (h.ev rfl)) rfl ?_
      refine rg_q (fun ac ww h => c_move (h.ev rfl)) rfl ?_
      refine rg_q (fun ac ww h => c_move (h.ev rfl)) rfl ?_
      refine rg_q (fun ac ww h => c_mulI (h.ev rfl) (h.ev rfl) (by omega) (by omega)) rfl ?_
      refine rg_q (fun ac ww h => c_addI (h.ev rfl) (h.ev rfl) (by omega) (by omega)) rfl ?_
      refine rg_q (fun ac ww h => c_idxS (j := 4 * k + 3) un34 ty5 (h.ev rfl) (h.ev rfl) (by omega) (by omega)) rfl ?_
      refine rg_q (fun ac ww h => c_loadS un5 rfl (h.ev rfl) (h.blk (hs.old hpb id)) (seg_get 0 hps (by omega))) rfl ?_
      refine rg_q (fun ac ww h => c_cvBU un5 un27 (h.ev rfl)) rfl ?_
      refine rg_q (fun ac ww h => c_addU (h.ev rfl) (h.ev rfl)) rfl ?_
      refine rg_q (fun ac ww h => c_idxA (j := k) un207 ty27 (h.ev rfl) (h.ev rfl) (by omega) (by omega)) rfl ?_
      refine rg_nil fun ac ww L' hf hfe hs => ?_
      simp only [List.drop_succ_cons, List.drop_zero]
      obtain rfl : L' = [] := hfe
      replace hs := hs.toL (List.nil_append _)
      refine s_store (i := 0) hs ty27 rfl rfl rfl rfl rfl rfl (by rw [List.length_map, sched_len p k (by omega)]; omega) (map_set _ (by rw [sched_len p k (by omega)]; omega)) fun ww hs => ?_
      refine s_end ?_
      refine then_n ?_
      refine wp_exit ?_
      refine then_e ?_
      refine blk_hit ?_
      refine then_n ?_
      refine wp_reg ?_
      refine s_q hs (c_move (hs.ev rfl)) rfl fun ac hs => ?_
      refine s_q hs (c_addI (hs.ev rfl) (hs.ev rfl) (by omega) (by omega)) rfl fun ac hs => ?_
      refine s_q hs (c_assign (hs.ev rfl)) rfl fun ac hs => ?_
      refine s_end ?_
      refine then_n ?_
      exact ⟨64 - (k + 1), by omega, k + 1, ⟨by omega, rfl⟩, St.next hs ⟨rfl, rfl, rfl, rfl, rfl, rfl, trivial⟩ (by first | exact congrArg (fun z => [Ent.seg g7 (List.map U z) 207, _, _, _]) (sched_set p k (by omega) _ (lo_eq p k (by omega))) | exact congrArg (fun z => [Ent.seg g7 (List.map U z) 207, _, _, _]) (sched_set p k (by omega) _ (hi_eq p k (by omega))))⟩
    · try simp only [decide_eq_true_eq, decide_eq_false_iff_not, Bool.not_eq_true', Bool.not_eq_false', Bool.and_eq_true, Bool.or_eq_true, Bool.or_eq_false_iff] at hc
      refine wp_skip ?_
      refine then_n ?_
      refine wp_seq ?_
      refine wp_region_rg pmix 18 (by kernel_rfl) rfl hs ?_
      simp only [List.take_succ_cons, List.take_zero]
      refine rg_q (fun ac ww h => c_move (h.ev rfl)) rfl ?_
      refine rg_q (fun ac ww h => c_subI (h.ev rfl) (h.ev rfl) (by omega) (by omega)) rfl ?_
      refine rg_q (fun ac ww h => c_idxA (j := k - 15) un207 ty27 (h.ev rfl) (h.ev rfl) (by omega) (by omega)) rfl ?_
      refine rg_q (fun ac ww h => c_loadS un27 rfl (h.ev rfl) (h.blk (hs.seg (i := 0) rfl)) (sched_at p k (k - 15) _ (by omega))) rfl ?_
      refine rg_call fu181 (fun ac ww h => (.cons (h.ev rfl) (.cons (h.ev rfl) .nil))) (fun ww hf => ref04_rotr _ 7 (by omega) (by omega) _) rfl ?_
      refine rg_q (fun ac ww h => c_move (h.ev rfl)) rfl ?_
      refine rg_q (fun ac ww h => c_subI (h.ev rfl) (h.ev rfl) (by omega) (by omega)) rfl ?_
      refine rg_q (fun ac ww h => c_idxA (j := k - 15) un207 ty27 (h.ev rfl) (h.ev rfl) (by omega) (by omega)) rfl ?_
      refine rg_q (fun ac ww h => c_loadS un27 rfl (h.ev rfl) (h.blk (hs.seg (i := 0) rfl)) (sched_at p k (k - 15) _ (by omega))) rfl ?_
      refine rg_call fu181 (fun ac ww h => (.cons (h.ev rfl) (.cons (h.ev rfl) .nil))) (fun ww hf => ref04_rotr _ 18 (by omega) (by omega) _) rfl ?_
      refine rg_q (fun ac ww h => c_xorU (h.ev rfl) (h.ev rfl)) rfl ?_
      refine rg_q (fun ac ww h => c_move (h.ev rfl)) rfl ?_
      refine rg_q (fun ac ww h => c_subI (h.ev rfl) (h.ev rfl) (by omega) (by omega)) rfl ?_
      refine rg_q (fun ac ww h => c_idxA (j := k - 15) un207 ty27 (h.ev rfl) (h.ev rfl) (by omega) (by omega)) rfl ?_
      refine rg_q (fun ac ww h => c_loadS un27 rfl (h.ev rfl) (h.blk (hs.seg (i := 0) rfl)) (sched_at p k (k - 15) _ (by omega))) rfl ?_
      refine rg_q (fun ac ww h => c_shrU (h.ev rfl) (h.ev rfl) (by decide)) rfl ?_
      refine rg_q (fun ac ww h => c_xorU (h.ev rfl) (h.ev rfl)) rfl ?_
      refine rg_q (fun ac ww h => c_assign (h.ev rfl)) rfl ?_
      refine rg_nil fun ac ww L' hf hfe hs => ?_
      simp only [List.drop_succ_cons, List.drop_zero]
      obtain rfl : L' = [] := hfe
      replace hs := hs.toL (List.nil_append _)
      refine s_end ?_
      refine then_n ?_
      refine wp_seq ?_
      refine wp_region_rg pmix 18 (by kernel_rfl) rfl hs ?_
      simp only [List.take_succ_cons, List.take_zero]
      refine rg_q (fun ac ww h => c_move (h.ev rfl)) rfl ?_
      refine rg_q (fun ac ww h => c_subI (h.ev rfl) (h.ev rfl) (by omega) (by omega)) rfl ?_
      refine rg_q (fun ac ww h => c_idxA (j := k - 2) un207 ty27 (h.ev rfl) (h.ev rfl) (by omega) (by omega)) rfl ?_
      refine rg_q (fun ac ww h => c_loadS un27 rfl (h.ev rfl) (h.blk (hs.seg (i := 0) rfl)) (sched_at p k (k - 2) _ (by omega))) rfl ?_
      refine rg_call fu181 (fun ac ww h => (.cons (h.ev rfl) (.cons (h.ev rfl) .nil))) (fun ww hf => ref04_rotr _ 17 (by omega) (by omega) _) rfl ?_
      refine rg_q (fun ac ww h => c_move (h.ev rfl)) rfl ?_
      refine rg_q (fun ac ww h => c_subI (h.ev rfl) (h.ev rfl) (by omega) (by omega)) rfl ?_
      refine rg_q (fun ac ww h => c_idxA (j := k - 2) un207 ty27 (h.ev rfl) (h.ev rfl) (by omega) (by omega)) rfl ?_
      refine rg_q (fun ac ww h => c_loadS un27 rfl (h.ev rfl) (h.blk (hs.seg (i := 0) rfl)) (sched_at p k (k - 2) _ (by omega))) rfl ?_
      refine rg_call fu181 (fun ac ww h => (.cons (h.ev rfl) (.cons (h.ev rfl) .nil))) (fun ww hf => ref04_rotr _ 19 (by omega) (by omega) _) rfl ?_
      refine rg_q (fun ac ww h => c_xorU (h.ev rfl) (h.ev rfl)) rfl ?_
      refine rg_q (fun ac ww h => c_move (h.ev rfl)) rfl ?_
      refine rg_q (fun ac ww h => c_subI (h.ev rfl) (h.ev rfl) (by omega) (by omega)) rfl ?_
      refine rg_q (fun ac ww h => c_idxA (j := k - 2) un207 ty27 (h.ev rfl) (h.ev rfl) (by omega) (by omega)) rfl ?_
      refine rg_q (fun ac ww h => c_loadS un27 rfl (h.ev rfl) (h.blk (hs.seg (i := 0) rfl)) (sched_at p k (k - 2) _ (by omega))) rfl ?_
      refine rg_q (fun ac ww h => c_shrU (h.ev rfl) (h.ev rfl) (by decide)) rfl ?_
      refine rg_q (fun ac ww h => c_xorU (h.ev rfl) (h.ev rfl)) rfl ?_
      refine rg_q (fun ac ww h => c_assign (h.ev rfl)) rfl ?_
      refine rg_nil fun ac ww L' hf hfe hs => ?_
      simp only [List.drop_succ_cons, List.drop_zero]
      obtain rfl : L' = [] := hfe
      replace hs := hs.toL (List.nil_append _)
      refine s_end ?_
      refine then_n ?_
      refine wp_region_rg pmix 15 (by kernel_rfl) rfl hs ?_
      simp only [List.take_succ_cons, List.take_zero]
      refine rg_q (fun ac ww h => c_move (h.ev rfl)) rfl ?_
      refine rg_q (fun ac ww h => c_move (h.ev rfl)) rfl ?_
      refine rg_q (fun ac ww h => c_move (h.ev rfl)) rfl ?_
      refine rg_q (fun ac ww h => c_subI (h.ev rfl) (h.ev rfl) (by omega) (by omega)) rfl ?_
      refine rg_q (fun ac ww h => c_idxA (j := k - 7) un207 ty27 (h.ev rfl) (h.ev rfl) (by omega) (by omega)) rfl ?_
      refine rg_q (fun ac ww h => c_loadS un27 rfl (h.ev rfl) (h.blk (hs.seg (i := 0) rfl)) (sched_at p k (k - 7) _ (by omega))) rfl ?_
      refine rg_q (fun ac ww h => c_addU (h.ev rfl) (h.ev rfl)) rfl ?_
      refine rg_q (fun ac ww h => c_move (h.ev rfl)) rfl ?_
      refine rg_q (fun ac ww h => c_addU (h.ev rfl) (h.ev rfl)) rfl ?_
      refine rg_q (fun ac ww h => c_move (h.ev rfl)) rfl ?_
      refine rg_q (fun ac ww h => c_subI (h.ev rfl) (h.ev rfl) (by omega) (by omega)) rfl ?_
      refine rg_q (fun ac ww h => c_idxA (j := k - 16) un207 ty27 (h.ev rfl) (h.ev rfl) (by omega) (by omega)) rfl ?_
      refine rg_q (fun ac ww h => c_loadS un27 rfl (h.ev rfl) (h.blk (hs.seg (i := 0) rfl)) (sched_at p k (k - 16) _ (by omega))) rfl ?_
      refine rg_q (fun ac ww h => c_addU (h.ev rfl) (h.ev rfl)) rfl ?_
      refine rg_q (fun ac ww h => c_idxA (j := k) un207 ty27 (h.ev rfl) (h.ev rfl) (by omega) (by omega)) rfl ?_
      refine rg_nil fun ac ww L' hf hfe hs => ?_
      simp only [List.drop_succ_cons, List.drop_zero]
      obtain rfl : L' = [] := hfe
      replace hs := hs.toL (List.nil_append _)
      refine s_store (i := 0) hs ty27 rfl rfl rfl rfl rfl rfl (by rw [List.length_map, sched_len p k (by omega)]; omega) (map_set _ (by rw [sched_len p k (by omega)]; omega)) fun ww hs => ?_
      refine s_end ?_
      refine blk_n ?_
      refine then_n ?_
      refine wp_reg ?_
      refine s_q hs (c_move (hs.ev rfl)) rfl fun ac hs => ?_
      refine s_q hs (c_addI (hs.ev rfl) (hs.ev rfl) (by omega) (by omega)) rfl fun ac hs => ?_
      refine s_q hs (c_assign (hs.ev rfl)) rfl fun ac hs => ?_
      refine s_end ?_
      refine then_n ?_
      exact ⟨64 - (k + 1), by omega, k + 1, ⟨by omega, rfl⟩, St.next hs ⟨rfl, rfl, rfl, rfl, rfl, rfl, trivial⟩ (by first | exact congrArg (fun z => [Ent.seg g7 (List.map U z) 207, _, _, _]) (sched_set p k (by omega) _ (lo_eq p k (by omega))) | exact congrArg (fun z => [Ent.seg g7 (List.map U z) 207, _, _, _]) (sched_set p k (by omega) _ (hi_eq p k (by omega))))⟩
  · try simp only [decide_eq_true_eq, decide_eq_false_iff_not, Bool.not_eq_true', Bool.not_eq_false', Bool.and_eq_true, Bool.or_eq_true, Bool.or_eq_false_iff] at hc
    obtain ⟨hk, rfl⟩ := hok
    obtain rfl : k = 64 := by omega
    refine wp_exit ?_
    refine then_e ?_
    refine then_e ?_
    refine blk_hit ?_
    refine then_n ?_
    refine wp_seq ?_
    refine wp_reg ?_
    refine s_q hs (c_loadW ty205 rfl (hs.ev rfl) (hs.seg (i := 3) rfl) (by simp)) rfl fun ac hs => ?_
    refine s_alloc hs ty205 rfl fun ac ww g11 hs => ?_
    refine s_storeW (i := 0) hs ty205 rfl rfl rfl (by simp) (all_map_U _) (by simp) fun ww hs => ?_
    refine s_end ?_
    replace hs := hs.sub (F' := [(3, _), (5, _), (6, _), (7, _), (11, _)]) ⟨rfl, rfl, rfl, rfl, rfl, trivial⟩
    refine then_n ?_
    refine wp_seq ?_
    refine wp_seq ?_
    refine wp_reg ?_
    refine s_q hs (c_assign (hs.ev rfl)) rfl fun ac hs => ?_
    refine s_end ?_
    refine then_n ?_
    refine wp_block ?_
    refine s_loop hs (X := Nat) (fun k => [(12, I k)]) [(3, _), (5, _), (6, _), (7, _), (11, _)] (fun k => [.seg g11 ((rounds p r0 k).list.map U) 205, .seg g7 ((sched p 64 ++ List.replicate (64 - 64) 0).map U) 207, .seg g6 ((List.replicate 8 (0 : UInt32)).map U) 205, .seg g5 (K.map U) 207, .seg g3 (r0.list.map U) 205]) (fun n k => k ≤ 64 ∧ n = 64 - k) (64) (0) (⟨by omega, rfl⟩) ⟨rfl, rfl, rfl, rfl, rfl, rfl, trivial⟩ rfl ?_
    rintro n k ac ww hok hs
    simp only [List.cons_append, List.nil_append] at hs
    refine wp_seq ?_
    refine wp_seq ?_
    refine wp_reg ?_
    refine s_q hs (c_move (hs.ev rfl)) rfl fun ac hs => ?_
    refine s_q hs (c_lssI (hs.ev rfl) (hs.ev rfl)) rfl fun ac hs => ?_
    refine s_end ?_
    refine then_n ?_
    refine s_cond hs rfl (fun hc => ?_) (fun hc => ?_)
    · try simp only [decide_eq_true_eq, decide_eq_false_iff_not, Bool.not_eq_true', Bool.not_eq_false', Bool.and_eq_true, Bool.or_eq_true, Bool.or_eq_false_iff] at hc
      obtain ⟨hk, rfl⟩ := hok
      refine wp_skip ?_
      refine then_n ?_
      refine wp_seq ?_
      refine wp_block ?_
      refine wp_seq ?_
      refine wp_reg ?_
      refine s_q hs (c_idxA un205 ty27 (hs.ev rfl) (hs.ev rfl) rfl (by decide)) rfl fun ac hs => ?_
      refine s_q hs (c_loadS un27 rfl (hs.ev rfl) (hs.seg (i := 0) rfl) rfl) rfl fun ac hs => ?_
      refine s_q hs (c_idxA un205 ty27 (hs.ev rfl) (hs.ev rfl) rfl (by decide)) rfl fun ac hs => ?_
      refine s_q hs (c_loadS un27 rfl (hs.ev rfl) (hs.seg (i := 0) rfl) rfl) rfl fun ac hs => ?_
      refine s_q hs (c_andU (hs.ev rfl) (hs.ev rfl)) rfl fun ac hs => ?_
      refine s_q hs (c_idxA un205 ty27 (hs.ev rfl) (hs.ev rfl) rfl (by decide)) rfl fun ac hs => ?_
      refine s_q hs (c_loadS un27 rfl (hs.ev rfl) (hs.seg (i := 0) rfl) rfl) rfl fun ac hs => ?_
      refine s_q hs (c_notU (hs.ev rfl)) rfl fun ac hs => ?_
      refine s_q hs (c_idxA un205 ty27 (hs.ev rfl) (hs.ev rfl) rfl (by decide)) rfl fun ac hs => ?_
      refine s_q hs (c_loadS un27 rfl (hs.ev rfl) (hs.seg (i := 0) rfl) rfl) rfl fun ac hs => ?_
      refine s_q hs (c_andU (hs.ev rfl) (hs.ev rfl)) rfl fun ac hs => ?_
      refine s_q hs (c_xorU (hs.ev rfl) (hs.ev rfl)) rfl fun ac hs => ?_
      refine s_q hs (c_assign (hs.ev rfl)) rfl fun ac hs => ?_
      refine s_end ?_
      refine then_n ?_
      refine wp_seq ?_
      refine wp_reg ?_
      refine s_q hs (c_idxA un205 ty27 (hs.ev rfl) (hs.ev rfl) rfl (by decide)) rfl fun ac hs => ?_
      refine s_q hs (c_loadS un27 rfl (hs.ev rfl) (hs.seg (i := 0) rfl) rfl) rfl fun ac hs => ?_
      refine s_q hs (c_idxA un205 ty27 (hs.ev rfl) (hs.ev rfl) rfl (by decide)) rfl fun ac hs => ?_
      refine s_q hs (c_loadS un27 rfl (hs.ev rfl) (hs.seg (i := 0) rfl) rfl) rfl fun ac hs => ?_
      refine s_q hs (c_andU (hs.ev rfl) (hs.ev rfl)) rfl fun ac hs => ?_
      refine s_q hs (c_idxA un205 ty27 (hs.ev rfl) (hs.ev rfl) rfl (by decide)) rfl fun ac hs => ?_
      refine s_q hs (c_loadS un27 rfl (hs.ev rfl) (hs.seg (i := 0) rfl) rfl) rfl fun ac hs => ?_
      refine s_q hs (c_idxA un205 ty27 (hs.ev rfl) (hs.ev rfl) rfl (by decide)) rfl fun ac hs => ?_
      refine s_q hs (c_loadS un27 rfl (hs.ev rfl) (hs.seg (i := 0) rfl) rfl) rfl fun ac hs => ?_
      refine s_q hs (c_andU (hs.ev rfl) (hs.ev rfl)) rfl fun ac hs => ?_
      refine s_q hs (c_xorU (hs.ev rfl) (hs.ev rfl)) rfl fun ac hs => ?_
      refine s_q hs (c_idxA un205 ty27 (hs.ev rfl) (hs.ev rfl) rfl (by decide)) rfl fun ac hs => ?_
      refine s_q hs (c_loadS un27 rfl (hs.ev rfl) (hs.seg (i := 0) rfl) rfl) rfl fun ac hs => ?_
      refine s_q hs (c_idxA un205 ty27 (hs.ev rfl) (hs.ev rfl) rfl (by decide)) rfl fun ac hs => ?_
      refine s_q hs (c_loadS un27 rfl (hs.ev rfl) (hs.seg (i := 0) rfl) rfl) rfl fun ac hs => ?_
      refine s_q hs (c_andU (hs.ev rfl) (hs.ev rfl)) rfl fun ac hs => ?_
      refine s_q hs (c_xorU (hs.ev rfl) (hs.ev rfl)) rfl fun ac hs => ?_
      refine s_q hs (c_assign (hs.ev rfl)) rfl fun ac hs => ?_
      refine s_end ?_
      refine then_n ?_
      refine wp_seq ?_
      refine wp_region_rg pmix 25 (by kernel_rfl) rfl hs ?_
      simp only [List.take_succ_cons, List.take_zero]
      refine rg_q (fun ac ww h => c_idxA un205 ty27 (h.ev rfl) (h.ev rfl) rfl (by decide)) rfl ?_
      refine rg_q (fun ac ww h => c_loadS un27 rfl (h.ev rfl) (h.blk (hs.seg (i := 0) rfl)) rfl) rfl ?_
      refine rg_q (fun ac ww h => c_idxA un205 ty27 (h.ev rfl) (h.ev rfl) rfl (by decide)) rfl ?_
      refine rg_q (fun ac ww h => c_loadS un27 rfl (h.ev rfl) (h.blk (hs.seg (i := 0) rfl)) rfl) rfl ?_
      refine rg_call fu181 (fun ac ww h => (.cons (h.ev rfl) (.cons (h.ev rfl) .nil))) (fun ww hf => ref04_rotr _ 6 (by omega) (by omega) _) rfl ?_
      refine rg_q (fun ac ww h => c_idxA un205 ty27 (h.ev rfl) (h.ev rfl) rfl (by decide)) rfl ?_
      refine rg_q (fun ac ww h => c_loadS un27 rfl (h.ev rfl) (h.blk (hs.seg (i := 0) rfl)) rfl) rfl ?_
      refine rg_call fu181 (fun ac ww h => (.cons (h.ev rfl) (.cons (h.ev rfl) .nil))) (fun ww hf => ref04_rotr _ 11 (by omega) (by omega) _) rfl ?_
      refine rg_q (fun ac ww h => c_xorU (h.ev rfl) (h.ev rfl)) rfl ?_
      refine rg_q (fun ac ww h => c_idxA un205 ty27 (h.ev rfl) (h.ev rfl) rfl (by decide)) rfl ?_
      refine rg_q (fun ac ww h => c_loadS un27 rfl (h.ev rfl) (h.blk (hs.seg (i := 0) rfl)) rfl) rfl ?_
      refine rg_call fu181 (fun ac ww h => (.cons (h.ev rfl) (.cons (h.ev rfl) .nil))) (fun ww hf => ref04_rotr _ 25 (by omega) (by omega) _) rfl ?_
      refine rg_q (fun ac ww h => c_xorU (h.ev rfl) (h.ev rfl)) rfl ?_
      refine rg_q (fun ac ww h => c_addU (h.ev rfl) (h.ev rfl)) rfl ?_
      refine rg_q (fun ac ww h => c_move (h.ev rfl)) rfl ?_
      refine rg_q (fun ac ww h => c_addU (h.ev rfl) (h.ev rfl)) rfl ?_
      refine rg_q (fun ac ww h => c_move (h.ev rfl)) rfl ?_
      refine rg_q (fun ac ww h => c_idxA (j := k) un207 ty27 (h.ev rfl) (h.ev rfl) (by omega) (by omega)) rfl ?_
      refine rg_q (fun ac ww h => c_loadS un27 rfl (h.ev rfl) (h.blk (hs.seg (i := 3) rfl)) (map_get 0 (by simp; omega))) rfl ?_
      refine rg_q (fun ac ww h => c_addU (h.ev rfl) (h.ev rfl)) rfl ?_
      refine rg_q (fun ac ww h => c_move (h.ev rfl)) rfl ?_
      refine rg_q (fun ac ww h => c_idxA (j := k) un207 ty27 (h.ev rfl) (h.ev rfl) (by omega) (by omega)) rfl ?_
      refine rg_q (fun ac ww h => c_loadS un27 rfl (h.ev rfl) (h.blk (hs.seg (i := 1) rfl)) (sched_at p 64 k _ (by omega))) rfl ?_
      refine rg_q (fun ac ww h => c_addU (h.ev rfl) (h.ev rfl)) rfl ?_
      refine rg_q (fun ac ww h => c_assign (h.ev rfl)) rfl ?_
      refine rg_nil fun ac ww L' hf hfe hs => ?_
      simp only [List.drop_succ_cons, List.drop_zero]
      obtain rfl : L' = [] := hfe
      replace hs := hs.toL (List.nil_append _)
      refine s_end ?_
      refine then_n ?_
      refine wp_seq ?_
      refine wp_region_rg pmix 14 (by kernel_rfl) rfl hs ?_
      simp only [List.take_succ_cons, List.take_zero]
      refine rg_q (fun ac ww h => c_idxA un205 ty27 (h.ev rfl) (h.ev rfl) rfl (by decide)) rfl ?_
      refine rg_q (fun ac ww h => c_loadS un27 rfl (h.ev rfl) (h.blk (hs.seg (i := 0) rfl)) rfl) rfl ?_
      refine rg_call fu181 (fun ac ww h => (.cons (h.ev rfl) (.cons (h.ev rfl) .nil))) (fun ww hf => ref04_rotr _ 2 (by omega) (by omega) _) rfl ?_
      refine rg_q (fun ac ww h => c_idxA un205 ty27 (h.ev rfl) (h.ev rfl) rfl (by decide)) rfl ?_
      refine rg_q (fun ac ww h => c_loadS un27 rfl (h.ev rfl) (h.blk (hs.seg (i := 0) rfl)) rfl) rfl ?_
      refine rg_call fu181 (fun ac ww h => (.cons (h.ev rfl) (.cons (h.ev rfl) .nil))) (fun ww hf => ref04_rotr _ 13 (by omega) (by omega) _) rfl ?_
      refine rg_q (fun ac ww h => c_xorU (h.ev rfl) (h.ev rfl)) rfl ?_
      refine rg_q (fun ac ww h => c_idxA un205 ty27 (h.ev rfl) (h.ev rfl) rfl (by decide)) rfl ?_
      refine rg_q (fun ac ww h => c_loadS un27 rfl (h.ev rfl) (h.blk (hs.seg (i := 0) rfl)) rfl) rfl ?_
      refine rg_call fu181 (fun ac ww h => (.cons (h.ev rfl) (.cons (h.ev rfl) .nil))) (fun ww hf => ref04_rotr _ 22 (by omega) (by omega) _) rfl ?_
      refine rg_q (fun ac ww h => c_xorU (h.ev rfl) (h.ev rfl)) rfl ?_
      refine rg_q (fun ac ww h => c_move (h.ev rfl)) rfl ?_
      refine rg_q (fun ac ww h => c_addU (h.ev rfl) (h.ev rfl)) rfl ?_
      refine rg_q (fun ac ww h => c_assign (h.ev rfl)) rfl ?_
      refine rg_nil fun ac ww L' hf hfe hs => ?_
      simp only [List.drop_succ_cons, List.drop_zero]
      obtain rfl : L' = [] := hfe
      replace hs := hs.toL (List.nil_append _)
      refine s_end ?_
      refine then_n ?_
      refine wp_reg ?_
      refine s_q hs (c_move (hs.ev rfl)) rfl fun ac hs => ?_
      refine s_q hs (c_move (hs.ev rfl)) rfl fun ac hs => ?_
      refine s_q hs (c_addU (hs.ev rfl) (hs.ev rfl)) rfl fun ac hs => ?_
      refine s_q hs (c_idxA un205 ty27 (hs.ev rfl) (hs.ev rfl) rfl (by decide)) rfl fun ac hs => ?_
      refine s_q hs (c_loadS un27 rfl (hs.ev rfl) (hs.seg (i := 0) rfl) rfl) rfl fun ac hs => ?_
      refine s_q hs (c_idxA un205 ty27 (hs.ev rfl) (hs.ev rfl) rfl (by decide)) rfl fun ac hs => ?_
      refine s_q hs (c_loadS un27 rfl (hs.ev rfl) (hs.seg (i := 0) rfl) rfl) rfl fun ac hs => ?_
      refine s_q hs (c_idxA un205 ty27 (hs.ev rfl) (hs.ev rfl) rfl (by decide)) rfl fun ac hs => ?_
      refine s_q hs (c_loadS un27 rfl (hs.ev rfl) (hs.seg (i := 0) rfl) rfl) rfl fun ac hs => ?_
      refine s_q hs (c_idxA un205 ty27 (hs.ev rfl) (hs.ev rfl) rfl (by decide)) rfl fun ac hs => ?_
      refine s_q hs (c_loadS un27 rfl (hs.ev rfl) (hs.seg (i := 0) rfl) rfl) rfl fun ac hs => ?_
      refine s_q hs (c_move (hs.ev rfl)) rfl fun ac hs => ?_
      refine s_q hs (c_addU (hs.ev rfl) (hs.ev rfl)) rfl fun ac hs => ?_
      refine s_q hs (c_idxA un205 ty27 (hs.ev rfl) (hs.ev rfl) rfl (by decide)) rfl fun ac hs => ?_
      refine s_q hs (c_loadS un27 rfl (hs.ev rfl) (hs.seg (i := 0) rfl) rfl) rfl fun ac hs => ?_
      refine s_q hs (c_idxA un205 ty27 (hs.ev rfl) (hs.ev rfl) rfl (by decide)) rfl fun ac hs => ?_
      refine s_q hs (c_loadS un27 rfl (hs.ev rfl) (hs.seg (i := 0) rfl) rfl) rfl fun ac hs => ?_
      refine s_q hs (c_idxA un205 ty27 (hs.ev rfl) (hs.ev rfl) rfl (by decide)) rfl fun ac hs => ?_
      refine s_q hs (c_loadS un27 rfl (hs.ev rfl) (hs.seg (i := 0) rfl) rfl) rfl fun ac hs => ?_
      refine s_q hs (c_buildA (zc := (rounds p r0 (k + 1)).list.map U) ty205 un205 ty27 (.cons (hs.ev rfl) (.cons (hs.ev rfl) (.cons (hs.ev rfl) (.cons (hs.ev rfl) (.cons (hs.ev rfl) (.cons (hs.ev rfl) (.cons (hs.ev rfl) (.cons (hs.ev rfl) .nil)))))))) (by simp [Value.cells]) (by simp [flatCells, Value.cells]) rfl) rfl fun ac hs => ?_
      refine s_storeW (i := 0) hs ty205 rfl rfl rfl (by simp) (all_map_U _) (by simp) fun ww hs => ?_
      refine s_end ?_
      refine blk_n ?_
      refine then_n ?_
      refine wp_reg ?_
      refine s_q hs (c_move (hs.ev rfl)) rfl fun ac hs => ?_
      refine s_q hs (c_addI (hs.ev rfl) (hs.ev rfl) (by omega) (by omega)) rfl fun ac hs => ?_
      refine s_q hs (c_assign (hs.ev rfl)) rfl fun ac hs => ?_
      refine s_end ?_
      refine then_n ?_
      exact ⟨64 - (k + 1), by omega, k + 1, ⟨by omega, rfl⟩, St.next hs ⟨rfl, rfl, rfl, rfl, rfl, rfl, trivial⟩ rfl⟩
    · try simp only [decide_eq_true_eq, decide_eq_false_iff_not, Bool.not_eq_true', Bool.not_eq_false', Bool.and_eq_true, Bool.or_eq_true, Bool.or_eq_false_iff] at hc
      obtain ⟨hk, rfl⟩ := hok
      obtain rfl : k = 64 := by omega
      refine wp_exit ?_
      refine then_e ?_
      refine then_e ?_
      refine blk_hit ?_
      refine then_n ?_
      refine wp_seq ?_
      refine wp_seq ?_
      refine wp_reg ?_
      refine s_q hs (c_assign (hs.ev rfl)) rfl fun ac hs => ?_
      refine s_end ?_
      replace hs := hs.sub (F' := [(3, _), (6, _), (11, _), (17, _)]) ⟨rfl, rfl, rfl, rfl, trivial⟩
      refine then_n ?_
      refine wp_block ?_
      refine s_loop hs (X := Nat) (fun k => [(17, I k)]) [(3, _), (6, _), (11, _)] (fun k => [.seg g11 ((rounds p r0 64).list.map U) 205, .seg g7 ((sched p 64 ++ List.replicate (64 - 64) 0).map U) 207, .seg g6 ((List.replicate 8 (0 : UInt32)).map U) 205, .seg g5 (K.map U) 207, .seg g3 (((r0.add (rounds p r0 64)).list.take k ++ r0.list.drop k).map U) 205]) (fun n k => k ≤ 8 ∧ n = 8 - k) (8) (0) (⟨by omega, rfl⟩) ⟨rfl, rfl, rfl, rfl, trivial⟩ rfl ?_
      rintro n k ac ww hok hs
      simp only [List.cons_append, List.nil_append] at hs
      refine wp_seq ?_
      refine wp_seq ?_
      refine wp_reg ?_
      refine s_q hs (c_move (hs.ev rfl)) rfl fun ac hs => ?_
      refine s_q hs (c_lssI (hs.ev rfl) (hs.ev rfl)) rfl fun ac hs => ?_
      refine s_end ?_
      refine then_n ?_
      refine s_cond hs rfl (fun hc => ?_) (fun hc => ?_)
      · try simp only [decide_eq_true_eq, decide_eq_false_iff_not, Bool.not_eq_true', Bool.not_eq_false', Bool.and_eq_true, Bool.or_eq_true, Bool.or_eq_false_iff] at hc
        obtain ⟨hk, rfl⟩ := hok
        have hzl := add_len r0 (rounds p r0 64) k hk
        refine wp_skip ?_
        refine then_n ?_
        refine wp_seq ?_
        refine wp_block ?_
        refine wp_region_rg pmix 9 (by kernel_rfl) rfl hs ?_
        simp only [List.take_succ_cons, List.take_zero]
        refine rg_q (fun ac ww h => c_move (h.ev rfl)) rfl ?_
        refine rg_q (fun ac ww h => c_move (h.ev rfl)) rfl ?_
        refine rg_q (fun ac ww h => c_idxA (j := k) un205 ty27 (h.ev rfl) (h.ev rfl) (by omega) (by omega)) rfl ?_
        refine rg_q (fun ac ww h => c_loadS un27 rfl (h.ev rfl) (h.blk (hs.seg (i := 4) rfl)) (add_get r0 _ k (by omega))) rfl ?_
        refine rg_q (fun ac ww h => c_move (h.ev rfl)) rfl ?_
        refine rg_q (fun ac ww h => c_idxA (j := k) un205 ty27 (h.ev rfl) (h.ev rfl) (by omega) (by omega)) rfl ?_
        refine rg_q (fun ac ww h => c_loadS un27 rfl (h.ev rfl) (h.blk (hs.seg (i := 0) rfl)) (map_get 0 (by simp; omega))) rfl ?_
        refine rg_q (fun ac ww h => c_addU (h.ev rfl) (h.ev rfl)) rfl ?_
        refine rg_q (fun ac ww h => c_idxA (j := k) un205 ty27 (h.ev rfl) (h.ev rfl) (by omega) (by omega)) rfl ?_
        refine rg_nil fun ac ww L' hf hfe hs => ?_
        simp only [List.drop_succ_cons, List.drop_zero]
        obtain rfl : L' = [] := hfe
        replace hs := hs.toL (List.nil_append _)
        refine s_store (i := 4) hs ty27 rfl rfl rfl rfl rfl rfl (by rw [List.length_map]; omega) (map_set _ (by omega)) fun ww hs => ?_
        refine s_end ?_
        refine blk_n ?_
        refine then_n ?_
        refine wp_reg ?_
        refine s_q hs (c_move (hs.ev rfl)) rfl fun ac hs => ?_
        refine s_q hs (c_addI (hs.ev rfl) (hs.ev rfl) (by omega) (by omega)) rfl fun ac hs => ?_
        refine s_q hs (c_assign (hs.ev rfl)) rfl fun ac hs => ?_
        refine s_end ?_
        refine then_n ?_
        exact ⟨8 - (k + 1), by omega, k + 1, ⟨by omega, rfl⟩, St.next hs ⟨rfl, rfl, rfl, rfl, trivial⟩ (congrArg (fun z => [_, _, _, _, Ent.seg g3 (List.map U z) 205]) (add_set r0 (rounds p r0 64) k (by omega)))⟩
      · try simp only [decide_eq_true_eq, decide_eq_false_iff_not, Bool.not_eq_true', Bool.not_eq_false', Bool.and_eq_true, Bool.or_eq_true, Bool.or_eq_false_iff] at hc
        obtain ⟨hk, rfl⟩ := hok
        obtain rfl : k = 8 := by omega
        refine wp_exit ?_
        refine then_e ?_
        refine then_e ?_
        refine blk_hit ?_
        refine then_n ?_
        refine wp_seq ?_
        refine wp_reg ?_
        refine s_q hs (c_loadW ty205 rfl (hs.ev rfl) (hs.seg (i := 4) rfl) (by simp)) rfl fun ac hs => ?_
        refine s_storeW (i := 2) hs ty205 rfl rfl rfl (by simp) (all_map_U _) (by simp) fun ww hs => ?_
        refine s_end ?_
        replace hs := hs.sub (F' := [(6, _)]) ⟨rfl, trivial⟩
        refine then_n ?_
        refine wp_ret ?_
        refine s_ret hs rfl (.cell (hs.tmp rfl) (run_loadA ty205 rfl (hs.seg (i := 2) rfl) (List.take_of_length_le (by simp)) (by simp)) .nil) rfl ⟨_, rfl, hs.fr, ?_⟩
        rfl

end Go.Proofs.Ytmgnnclkjkbmdaa
end

/- Bytes from behind; digits as the document has them. -/
section
set_option linter.unusedSimpArgs false
set_option linter.unusedVariables false
set_option maxRecDepth 100000
namespace Go.Proofs.Ytmgnnclkjkbmdaa



namespace Sha
def qd (x : UInt64) : Nat → UInt64
  | 0 => x
  | k + 1 => qd x k / 256
def qd32 (x : UInt32) : Nat → UInt32
  | 0 => x
  | k + 1 => qd32 x k / 256
theorem qd_byte (x : UInt64) : ∀ k, k < 8 → (qd x k % 256).toUInt8 = (be64 x).getD (7 - k) 0 := by
  have h256 : (256 : UInt64).toNat = 256 := rfl
  have hx := x.toNat_lt
  have key : ∀ k, (qd x k).toNat = x.toNat / 256 ^ k := by
    intro k
    induction k with
    | zero => simp [qd]
    | succ k ih => rw [qd, UInt64.toNat_div, ih, h256, Nat.div_div_eq_div_mul, Nat.pow_succ]
  intro k hk
  apply UInt8.toNat_inj.1
  rw [UInt64.toNat_toUInt8, UInt64.toNat_mod, key, h256]
  rcases k with _ | _ | _ | _ | _ | _ | _ | _ | k
  · simp [be64, List.getD]
  · simp [be64, List.getD, UInt64.toNat_shiftRight, Nat.shiftRight_eq_div_pow]
  · simp [be64, List.getD, UInt64.toNat_shiftRight, Nat.shiftRight_eq_div_pow]
  · simp [be64, List.getD, UInt64.toNat_shiftRight, Nat.shiftRight_eq_div_pow]
  · simp [be64, List.getD, UInt64.toNat_shiftRight, Nat.shiftRight_eq_div_pow]
  · simp [be64, List.getD, UInt64.toNat_shiftRight, Nat.shiftRight_eq_div_pow]
  · simp [be64, List.getD, UInt64.toNat_shiftRight, Nat.shiftRight_eq_div_pow]
  · simp [be64, List.getD, UInt64.toNat_shiftRight, Nat.shiftRight_eq_div_pow]
  · omega
theorem qd32_byte (x : UInt32) : ∀ k, k < 4 → (qd32 x k % 256).toUInt8 = (be32 x).getD (3 - k) 0 := by
  have h256 : (256 : UInt32).toNat = 256 := rfl
  have hx := x.toNat_lt
  have key : ∀ k, (qd32 x k).toNat = x.toNat / 256 ^ k := by
    intro k
    induction k with
    | zero => simp [qd32]
    | succ k ih => rw [qd32, UInt32.toNat_div, ih, h256, Nat.div_div_eq_div_mul, Nat.pow_succ]
  intro k hk
  apply UInt8.toNat_inj.1
  rw [UInt32.toNat_toUInt8, UInt32.toNat_mod, key, h256]
  rcases k with _ | _ | _ | _ | k
  · simp [be32, List.getD]
  · simp [be32, List.getD, UInt32.toNat_shiftRight, Nat.shiftRight_eq_div_pow]
  · simp [be32, List.getD, UInt32.toNat_shiftRight, Nat.shiftRight_eq_div_pow]
  · simp [be32, List.getD, UInt32.toNat_shiftRight, Nat.shiftRight_eq_div_pow]
  · omega
/-- Bytes from behind. -/
def lo64 (x : UInt64) (k : Nat) : List UInt8 := List.replicate (8 - k) 0 ++ (be64 x).drop (8 - k)
theorem lo64_set (x : UInt64) : ∀ k, k < 8 → (lo64 x k).set (7 - k) ((be64 x).getD (7 - k) 0) = lo64 x (k + 1)
  | 0, _ => rfl | 1, _ => rfl | 2, _ => rfl | 3, _ => rfl | 4, _ => rfl | 5, _ => rfl | 6, _ => rfl | 7, _ => rfl
  | k + 8, h => absurd h (by omega)
theorem lo64_len (x : UInt64) (k : Nat) (h : k ≤ 8) : (lo64 x k).length = 8 := by simp [lo64]
def lo32 (x : UInt32) (k : Nat) : List UInt8 := List.replicate (4 - k) 0 ++ (be32 x).drop (4 - k)
theorem lo32_set (x : UInt32) : ∀ k, k < 4 → (lo32 x k).set (3 - k) ((be32 x).getD (3 - k) 0) = lo32 x (k + 1)
  | 0, _ => rfl | 1, _ => rfl | 2, _ => rfl | 3, _ => rfl
  | k + 4, h => absurd h (by omega)
theorem lo32_len (x : UInt32) (k : Nat) (h : k ≤ 4) : (lo32 x k).length = 4 := by simp [lo32]
/-- A digit as the document has it. -/
def dig2 (n : UInt8) : UInt8 := if n < 10 then 48 + n else 97 + n - 10
theorem dig2_eq : ∀ i, i < 16 → dig2 (UInt8.ofNat i) = hexd (UInt8.ofNat i) := by decide
theorem dig2_hexd (n : UInt8) (h : n.toNat < 16) : dig2 n = hexd n := by
  have := dig2_eq n.toNat h
  rwa [UInt8.ofNat_toNat] at this
theorem hi_eq8 (x : UInt8) : x / (16 : UInt8) = x >>> (4 : UInt8) := by
  apply UInt8.toNat_inj.1
  rw [UInt8.toNat_div, UInt8.toNat_shiftRight]
  simp [Nat.shiftRight_eq_div_pow]
theorem lo_eq8 (x : UInt8) : x % (16 : UInt8) = x &&& (15 : UInt8) := by
  apply UInt8.toNat_inj.1
  rw [UInt8.toNat_mod, UInt8.toNat_and]
  have h : (15 : UInt8).toNat = 2 ^ 4 - 1 := rfl
  rw [h, Nat.and_two_pow_sub_one_eq_mod]
  rfl
end Sha

end Go.Proofs.Ytmgnnclkjkbmdaa
end

/- Padding, counts and digits as the document has them. -/
section
set_option linter.unusedSimpArgs false
set_option linter.unusedVariables false
set_option maxRecDepth 100000
namespace Go.Proofs.Ytmgnnclkjkbmdaa
open Go Go.Fw

open Sha
theorem i64_nat (n : Nat) (h : n < 18446744073709551616) : i64 (n : Int) = UInt64.ofNat n := by
  apply UInt64.toNat_inj.1
  have h1 := i64_toNat (n : Int)
  rw [UInt64.toNat_ofNat']
  omega

-- fingerpostref04.Pad
set_option maxHeartbeats 4000000 in
theorem ref04_Pad (p : List UInt8) (pv : Value) (hle : p.length ≤ 140737488355200) (w : World) (hq : RdB w pv p) : Ctr Try.prog 46 [pv] w (fun _ => False) (fun v w' => ∃ v', v = v' ∧ Has w.heap.size w' [.row v' (pad p).length ((pad p).map B) 5 1]) := by
  obtain ⟨pad_, pcap, rfl, hpc, hpm⟩ := Rd.sl hq
  refine fn_start (N := 38) Try.func46 rfl rfl rfl fun ac hk => ?_
  have hs := St.start hk w
  refine wp_seq ?_
  refine wp_reg ?_
  refine s_q hs (c_assign (hs.ev rfl)) rfl fun ac hs => ?_
  refine s_end ?_
  refine then_n ?_
  refine wp_seq ?_
  refine wp_reg ?_
  refine s_bslice hs un34 ty5 .nil rfl (by simp [Value.cells]) (by decide) rfl rfl fun ac ww g7 hs => ?_
  refine s_q hs (c_move (hs.ev rfl)) rfl fun ac hs => ?_
  replace hs := hs.segrow (i := 0) (n := 0) (sz := 1) rfl rfl (by decide)
  refine s_appB (i := 0) (l := []) hs un34 ty5 rfl rfl rfl (hq.fr0 hs.fr) (by simp; omega) rfl fun ac ww v9 hf hnil hs => ?_
  refine s_q hs (c_assign (hs.ev rfl)) rfl fun ac hs => ?_
  refine s_end ?_
  replace hs := hs.sub (F' := [(0, _), (2, _), (3, _)]) ⟨rfl, rfl, rfl, trivial⟩
  refine then_n ?_
  refine wp_seq ?_
  refine wp_reg ?_
  refine s_q hs (c_move (hs.ev rfl)) rfl fun ac hs => ?_
  refine s_bslice hs un34 ty5 (.cons (hs.ev rfl) .nil) rfl (by simp [Value.cells]) (by decide) rfl rfl fun ac ww g11 hs => ?_
  refine s_appB (i := 1) hs un34 ty5 rfl rfl rfl (RdB.seg (l := [0x80]) (hs.seg (i := 0) rfl) (by decide)) (by simp; omega) rfl fun ac ww v12 hf hnil hs => ?_
  refine s_q hs (c_assign (hs.ev rfl)) rfl fun ac hs => ?_
  refine s_end ?_
  replace hs := hs.pick (L' := [_]) (.cons _ (.refl _))
  replace hs := hs.sub (F' := [(0, _), (2, _), (3, _)]) ⟨rfl, rfl, rfl, trivial⟩
  refine then_n ?_
  refine wp_seq ?_
  refine wp_block ?_
  refine s_loop hs (X := Nat × Value) (fun x => [(3, x.2)]) [(0, _), (2, _)] (fun x => [.row x.2 ((p ++ [0x80]) ++ List.replicate x.1 0).length (((p ++ [0x80]) ++ List.replicate x.1 0).map B) 5 1]) (fun n x => x.1 ≤ zc p.length ∧ n = zc p.length - x.1) (_) ((0, _)) (⟨Nat.zero_le _, rfl⟩) ⟨rfl, rfl, rfl, trivial⟩ (by simp only [List.replicate_zero, List.append_nil]; try rfl) ?_
  rintro n ⟨j, v⟩ ac ww hok hs
  simp only [List.cons_append, List.nil_append] at hs
  obtain ⟨hj, rfl⟩ := hok
  simp only at hj hs
  obtain ⟨ad, cap, rfl, _, _⟩ := Rd.sl (RdB.row (hs.get (i := 0) rfl))
  have hll : ((p ++ [0x80]) ++ List.replicate j (0 : UInt8)).length = p.length + 1 + j := by simp; omega
  simp only [zc] at hj
  refine wp_seq ?_
  refine wp_seq ?_
  refine wp_reg ?_
  refine s_q hs (c_move (hs.ev rfl)) rfl fun ac hs => ?_
  refine s_q hs (c_lenS un34 (hs.ev rfl)) rfl fun ac hs => ?_
  refine s_q hs (c_remI (hs.ev rfl) (hs.ev rfl) (by omega) (by omega)) rfl fun ac hs => ?_
  refine s_q hs (c_neqI (hs.ev rfl) (hs.ev rfl)) rfl fun ac hs => ?_
  refine s_end ?_
  refine then_n ?_
  refine s_cond hs rfl (fun hc => ?_) (fun hc => ?_)
  · try simp only [decide_eq_true_eq, decide_eq_false_iff_not, Bool.not_eq_true', Bool.not_eq_false', Bool.and_eq_true, Bool.or_eq_true, Bool.or_eq_false_iff] at hc
    refine wp_skip ?_
    refine then_n ?_
    refine wp_block ?_
    refine wp_reg ?_
    refine s_q hs (c_move (hs.ev rfl)) rfl fun ac hs => ?_
    refine s_bslice hs un34 ty5 (.cons (hs.ev rfl) .nil) rfl (by simp [Value.cells]) (by decide) rfl rfl fun ac ww g18 hs => ?_
    refine s_appB (i := 1) hs un34 ty5 rfl rfl rfl (RdB.seg (l := [0]) (hs.seg (i := 0) rfl) (by decide)) (by rw [hll]; simp; omega) rfl fun ac ww v19 hf hnil hs => ?_
    refine s_q hs (c_assign (hs.ev rfl)) rfl fun ac hs => ?_
    refine s_end ?_
    refine blk_n ?_
    refine then_n ?_
    replace hs := hs.pick (L' := [_]) (.cons _ (.refl _))
    exact ⟨zc p.length - (j + 1), by rw [hll] at hc; simp only [zc]; omega, (j + 1, _), ⟨by rw [hll] at hc; simp only [zc]; omega, rfl⟩, St.next hs ⟨rfl, rfl, rfl, trivial⟩ (by simp [List.replicate_succ', ← List.append_assoc])⟩
  · try simp only [decide_eq_true_eq, decide_eq_false_iff_not, Bool.not_eq_true', Bool.not_eq_false', Bool.and_eq_true, Bool.or_eq_true, Bool.or_eq_false_iff] at hc
    have hjj : j = zc p.length := by rw [hll] at hc; simp only [zc]; omega
    subst hjj
    have hi := i64_nat p.length (by omega)
    refine wp_exit ?_
    refine then_e ?_
    refine then_e ?_
    refine blk_hit ?_
    refine then_n ?_
    refine wp_seq ?_
    refine wp_reg ?_
    refine s_q hs (c_move (hs.ev rfl)) rfl fun ac hs => ?_
    refine s_q hs (c_lenS un34 (hs.ev rfl)) rfl fun ac hs => ?_
    refine s_q hs (c_cvIV un3 un210 (hs.ev rfl)) rfl fun ac hs => ?_
    refine s_q hs (c_mulV (hs.ev rfl) (St.ev (v := V 8) hs rfl)) rfl fun ac hs => ?_
    refine s_q hs (c_assign (hs.ev rfl)) rfl fun ac hs => ?_
    refine s_end ?_
    replace hs := hs.sub (F' := [(2, _), (3, _), (4, _)]) ⟨rfl, rfl, rfl, trivial⟩
    refine then_n ?_
    refine wp_seq ?_
    refine wp_reg ?_
    refine s_alloc hs ty211 rfl fun ac ww g5 hs => ?_
    refine s_end ?_
    refine then_n ?_
    refine wp_seq ?_
    refine wp_seq ?_
    refine wp_reg ?_
    refine s_q hs (c_assign (hs.ev rfl)) rfl fun ac hs => ?_
    refine s_end ?_
    refine then_n ?_
    refine wp_block ?_
    refine s_loop hs (X := Nat) (fun k => [(4, V (qd (UInt64.ofNat p.length * 8) k)), (6, I (7 - (k : Int)))]) [(2, _), (3, _), (5, _)] (fun k => [.seg g5 ((lo64 (UInt64.ofNat p.length * 8) k).map B) 211, .row _ ((p ++ [0x80]) ++ List.replicate (zc p.length) 0).length (((p ++ [0x80]) ++ List.replicate (zc p.length) 0).map B) 5 1]) (fun n k => k ≤ 8 ∧ n = 8 - k) (8) (0) (⟨by omega, rfl⟩) ⟨(by rw [hi]; rfl), rfl, rfl, rfl, rfl, trivial⟩ rfl ?_
    rintro n k ac ww hok hs
    simp only [List.cons_append, List.nil_append] at hs
    obtain ⟨hk, rfl⟩ := hok
    have hzl := lo64_len (UInt64.ofNat p.length * 8) k hk
    refine wp_seq ?_
    refine wp_seq ?_
    refine wp_reg ?_
    refine s_q hs (c_move (hs.ev rfl)) rfl fun ac hs => ?_
    refine s_q hs (c_geqI (hs.ev rfl) (hs.ev rfl)) rfl fun ac hs => ?_
    refine s_end ?_
    refine then_n ?_
    refine s_cond hs rfl (fun hc => ?_) (fun hc => ?_)
    · try simp only [decide_eq_true_eq, decide_eq_false_iff_not, Bool.not_eq_true', Bool.not_eq_false', Bool.and_eq_true, Bool.or_eq_true, Bool.or_eq_false_iff] at hc
      refine wp_skip ?_
      refine then_n ?_
      refine wp_seq ?_
      refine wp_block ?_
      refine wp_seq ?_
      refine wp_reg ?_
      refine s_q hs (c_move (hs.ev rfl)) rfl fun ac hs => ?_
      refine s_q hs (c_move (hs.ev rfl)) rfl fun ac hs => ?_
      refine s_q hs (c_remV (hs.ev rfl) (St.ev (v := V 256) hs rfl) (by decide)) rfl fun ac hs => ?_
      refine s_q hs (c_cvVB un210 un5 (hs.ev rfl)) rfl fun ac hs => ?_
      refine s_q hs (c_idxA (j := 7 - k) un211 ty5 (hs.ev rfl) (hs.ev rfl) (by omega) (by omega)) rfl fun ac hs => ?_
      refine s_store (i := 0) hs ty5 rfl rfl rfl rfl rfl rfl (by rw [List.length_map]; omega) ((map_set _ (by omega)).trans (congrArg (List.map B) ((congrArg (fun z => List.set _ _ z) (qd_byte _ k (by omega))).trans (lo64_set _ k (by omega))))) fun ww hs => ?_
      refine s_end ?_
      refine then_n ?_
      refine wp_reg ?_
      refine s_q hs (c_move (hs.ev rfl)) rfl fun ac hs => ?_
      refine s_q hs (c_quoV (hs.ev rfl) (St.ev (v := V 256) hs rfl) (by decide)) rfl fun ac hs => ?_
      refine s_q hs (c_assign (hs.ev rfl)) rfl fun ac hs => ?_
      refine s_end ?_
      refine blk_n ?_
      refine then_n ?_
      refine wp_reg ?_
      refine s_q hs (c_move (hs.ev rfl)) rfl fun ac hs => ?_
      refine s_q hs (c_subI (hs.ev rfl) (hs.ev rfl) (by omega) (by omega)) rfl fun ac hs => ?_
      refine s_q hs (c_assign (hs.ev rfl)) rfl fun ac hs => ?_
      refine s_end ?_
      refine then_n ?_
      exact ⟨8 - (k + 1), by omega, k + 1, ⟨by omega, rfl⟩, St.next hs ⟨rfl, (congrArg (fun z => some (I z)) (by omega)), rfl, rfl, rfl, trivial⟩ rfl⟩
    · try simp only [decide_eq_true_eq, decide_eq_false_iff_not, Bool.not_eq_true', Bool.not_eq_false', Bool.and_eq_true, Bool.or_eq_true, Bool.or_eq_false_iff] at hc
      obtain rfl : k = 8 := by omega
      refine wp_exit ?_
      refine then_e ?_
      refine then_e ?_
      refine blk_hit ?_
      refine then_n ?_
      refine wp_seq ?_
      refine wp_reg ?_
      refine s_q hs (c_move (hs.ev rfl)) rfl fun ac hs => ?_
      refine s_q hs (c_sliceA un211 ty5 (hs.ev rfl)) rfl fun ac hs => ?_
      refine s_appB (i := 1) hs un34 ty5 rfl rfl rfl (RdB.seg (l := be64 (UInt64.ofNat p.length * 8)) (hs.seg (i := 0) rfl) (by rw [be64_length]; decide)) (by simp only [List.length_append, List.length_replicate, List.length_cons, List.length_nil, be64_length, zc]; omega) rfl fun ac ww v37 hf hnil hs => ?_
      refine s_q hs (c_assign (hs.ev rfl)) rfl fun ac hs => ?_
      refine s_end ?_
      replace hs := hs.sub (F' := [(2, _)]) ⟨rfl, trivial⟩
      refine then_n ?_
      refine wp_ret ?_
      refine s_ret hs rfl (.tmp (hs.tmp rfl) .nil) rfl ⟨_, rfl, hs.fr, ?_⟩
      exact ⟨_, rfl, (hs.pick (L' := [_]) (.cons _ (.refl _))).made⟩

-- fingerpostref04.Blocks
set_option maxHeartbeats 4000000 in
theorem ref04_Blocks (n : Int) (h0 : -9223372036854775808 ≤ n) (h1 : n ≤ 9223372036854775807) (w : World)  : Ctr Try.prog 47 [I n] w (fun _ => False) (fun v _ => v = I (blI n)) := by
  refine fn_start (N := 14) Try.func47 rfl rfl rfl fun ac hk => ?_
  have hs := St.start hk w
  refine wp_seq ?_
  refine wp_reg ?_
  refine s_q hs (c_assign (hs.ev rfl)) rfl fun ac hs => ?_
  refine s_end ?_
  refine then_n ?_
  refine wp_seq ?_
  refine wp_seq ?_
  refine wp_reg ?_
  refine s_q hs (c_move (hs.ev rfl)) rfl fun ac hs => ?_
  refine s_q hs (c_lssI (hs.ev rfl) (hs.ev rfl)) rfl fun ac hs => ?_
  refine s_end ?_
  replace hs := hs.sub (F' := [(0, _), (2, _), (4, _)]) ⟨rfl, rfl, rfl, trivial⟩
  refine then_n ?_
  refine s_cond hs rfl (fun hc => ?_) (fun hc => ?_)
  · try simp only [decide_eq_true_eq, decide_eq_false_iff_not, Bool.not_eq_true', Bool.not_eq_false', Bool.and_eq_true, Bool.or_eq_true, Bool.or_eq_false_iff] at hc
    refine wp_seq ?_
    refine wp_reg ?_
    refine s_q hs (c_assign (hs.ev rfl)) rfl fun ac hs => ?_
    refine s_end ?_
    replace hs := hs.sub (F' := [(0, _), (2, _)]) ⟨rfl, rfl, trivial⟩
    refine then_n ?_
    refine wp_ret ?_
    refine then_r ?_
    refine s_ret hs rfl (.tmp (hs.tmp rfl) .nil) rfl ⟨_, rfl, hs.fr, ?_⟩
    show _ = _
    refine congrArg I ?_
    unfold blI
    by_cases hn : n < 0
    · rw [if_pos hn]; try omega
    · rw [if_neg hn]
      split <;> omega
  · try simp only [decide_eq_true_eq, decide_eq_false_iff_not, Bool.not_eq_true', Bool.not_eq_false', Bool.and_eq_true, Bool.or_eq_true, Bool.or_eq_false_iff] at hc
    refine wp_skip ?_
    refine then_n ?_
    refine wp_seq ?_
    refine wp_seq ?_
    refine wp_reg ?_
    refine s_q hs (c_move (hs.ev rfl)) rfl fun ac hs => ?_
    refine s_q hs (c_remI (hs.ev rfl) (hs.ev rfl) (by omega) (by omega)) rfl fun ac hs => ?_
    refine s_q hs (c_gtrI (hs.ev rfl) (hs.ev rfl)) rfl fun ac hs => ?_
    refine s_end ?_
    replace hs := hs.sub (F' := [(0, _), (2, _), (7, _)]) ⟨rfl, rfl, rfl, trivial⟩
    refine then_n ?_
    refine s_cond hs rfl (fun hc => ?_) (fun hc => ?_)
    · try simp only [decide_eq_true_eq, decide_eq_false_iff_not, Bool.not_eq_true', Bool.not_eq_false', Bool.and_eq_true, Bool.or_eq_true, Bool.or_eq_false_iff] at hc
      refine wp_seq ?_
      refine wp_reg ?_
      refine s_q hs (c_move (hs.ev rfl)) rfl fun ac hs => ?_
      refine s_q hs (c_quoI (hs.ev rfl) (hs.ev rfl) (by omega) (by omega) (by omega)) rfl fun ac hs => ?_
      refine s_q hs (c_addI (hs.ev rfl) (hs.ev rfl) (by omega) (by omega)) rfl fun ac hs => ?_
      refine s_q hs (c_assign (hs.ev rfl)) rfl fun ac hs => ?_
      refine s_end ?_
      replace hs := hs.sub (F' := [(0, _), (2, _)]) ⟨rfl, rfl, trivial⟩
      refine then_n ?_
      refine wp_ret ?_
      refine then_r ?_
      refine s_ret hs rfl (.tmp (hs.tmp rfl) .nil) rfl ⟨_, rfl, hs.fr, ?_⟩
      show _ = _
      refine congrArg I ?_
      unfold blI
      by_cases hn : n < 0
      · rw [if_pos hn]; try omega
      · rw [if_neg hn]
        split <;> omega
    · try simp only [decide_eq_true_eq, decide_eq_false_iff_not, Bool.not_eq_true', Bool.not_eq_false', Bool.and_eq_true, Bool.or_eq_true, Bool.or_eq_false_iff] at hc
      refine wp_skip ?_
      refine then_n ?_
      refine wp_seq ?_
      refine wp_reg ?_
      refine s_q hs (c_move (hs.ev rfl)) rfl fun ac hs => ?_
      refine s_q hs (c_quoI (hs.ev rfl) (hs.ev rfl) (by omega) (by omega) (by omega)) rfl fun ac hs => ?_
      refine s_q hs (c_addI (hs.ev rfl) (hs.ev rfl) (by omega) (by omega)) rfl fun ac hs => ?_
      refine s_q hs (c_assign (hs.ev rfl)) rfl fun ac hs => ?_
      refine s_end ?_
      replace hs := hs.sub (F' := [(2, _)]) ⟨rfl, trivial⟩
      refine then_n ?_
      refine wp_ret ?_
      refine s_ret hs rfl (.tmp (hs.tmp rfl) .nil) rfl ⟨_, rfl, hs.fr, ?_⟩
      show _ = _
      refine congrArg I ?_
      unfold blI
      by_cases hn : n < 0
      · rw [if_pos hn]; try omega
      · rw [if_neg hn]
        split <;> omega

-- fingerpostref04.Digit
set_option maxHeartbeats 4000000 in
theorem ref04_Digit (n : UInt8) (w : World)  : Ctr Try.prog 161 [B n] w (fun _ => False) (fun v _ => v = B (dig2 n)) := by
  refine fn_start (N := 10) Try.func161 rfl rfl rfl fun ac hk => ?_
  have hs := St.start hk w
  refine wp_seq ?_
  refine wp_reg ?_
  refine s_q hs (c_assign (St.ev (v := B 0) hs rfl)) rfl fun ac hs => ?_
  refine s_end ?_
  refine then_n ?_
  refine wp_seq ?_
  refine wp_seq ?_
  refine wp_reg ?_
  refine s_q hs (c_move (hs.ev rfl)) rfl fun ac hs => ?_
  refine s_q hs (c_lssB (hs.ev rfl) (St.ev (v := B 10) hs rfl)) rfl fun ac hs => ?_
  refine s_end ?_
  replace hs := hs.sub (F' := [(0, _), (2, _), (4, _)]) ⟨rfl, rfl, rfl, trivial⟩
  refine then_n ?_
  refine s_cond hs rfl (fun hc => ?_) (fun hc => ?_)
  · try simp only [decide_eq_true_eq, decide_eq_false_iff_not, Bool.not_eq_true', Bool.not_eq_false', Bool.and_eq_true, Bool.or_eq_true, Bool.or_eq_false_iff] at hc
    refine wp_seq ?_
    refine wp_reg ?_
    refine s_q hs (c_move (hs.ev rfl)) rfl fun ac hs => ?_
    refine s_q hs (c_addB (St.ev (v := B 48) hs rfl) (hs.ev rfl)) rfl fun ac hs => ?_
    refine s_q hs (c_assign (hs.ev rfl)) rfl fun ac hs => ?_
    refine s_end ?_
    replace hs := hs.sub (F' := [(0, _), (2, _)]) ⟨rfl, rfl, trivial⟩
    refine then_n ?_
    refine wp_ret ?_
    refine then_r ?_
    refine s_ret hs rfl (.tmp (hs.tmp rfl) .nil) rfl ⟨_, rfl, hs.fr, ?_⟩
    show B (48 + n) = B (dig2 n)
    rw [dig2, if_pos (UInt8.lt_iff_toNat_lt.2 (by simpa using hc))]
  · try simp only [decide_eq_true_eq, decide_eq_false_iff_not, Bool.not_eq_true', Bool.not_eq_false', Bool.and_eq_true, Bool.or_eq_true, Bool.or_eq_false_iff] at hc
    refine wp_skip ?_
    refine then_n ?_
    refine wp_seq ?_
    refine wp_reg ?_
    refine s_q hs (c_move (hs.ev rfl)) rfl fun ac hs => ?_
    refine s_q hs (c_addB (St.ev (v := B 97) hs rfl) (hs.ev rfl)) rfl fun ac hs => ?_
    refine s_q hs (c_subB (hs.ev rfl) (St.ev (v := B 10) hs rfl)) rfl fun ac hs => ?_
    refine s_q hs (c_assign (hs.ev rfl)) rfl fun ac hs => ?_
    refine s_end ?_
    replace hs := hs.sub (F' := [(2, _)]) ⟨rfl, trivial⟩
    refine then_n ?_
    refine wp_ret ?_
    refine s_ret hs rfl (.tmp (hs.tmp rfl) .nil) rfl ⟨_, rfl, hs.fr, ?_⟩
    show B (97 + n - 10) = B (dig2 n)
    rw [dig2, if_neg (fun h => absurd (UInt8.lt_iff_toNat_lt.1 h) (by simpa using hc))]

-- fingerpostref04.Hex
set_option maxHeartbeats 4000000 in
theorem ref04_Hex (p : List UInt8) (pv : Value) (hle : p.length ≤ 70368744177664) (w : World) (hq : RdB w pv p) : Ctr Try.prog 59 [pv] w (fun _ => False) (fun v _ => v = T (hexs p)) := by
  obtain ⟨pad_, pcap, rfl, hpc, hpm⟩ := Rd.sl hq
  refine fn_start (N := 28) Try.func59 rfl rfl rfl fun ac hk => ?_
  have hs := St.start hk w
  refine wp_seq ?_
  refine wp_reg ?_
  refine s_q hs (c_assign (hs.ev rfl)) rfl fun ac hs => ?_
  refine s_end ?_
  refine then_n ?_
  refine wp_seq ?_
  refine wp_reg ?_
  refine s_q hs (c_assign (hs.ev rfl)) rfl fun ac hs => ?_
  refine s_end ?_
  refine then_n ?_
  refine wp_seq ?_
  refine wp_seq ?_
  refine wp_reg ?_
  refine s_q hs (c_assign (hs.ev rfl)) rfl fun ac hs => ?_
  refine s_end ?_
  replace hs := hs.nilrow 5 1
  refine then_n ?_
  refine wp_block ?_
  refine s_loop hs (X := Nat × Value) (fun x => [(3, x.2), (4, I x.1)]) [(0, _), (2, _)] (fun x => [.row x.2 (hexs (p.take x.1)).length ((hexs (p.take x.1)).map B) 5 1]) (fun n x => x.1 ≤ p.length ∧ n = p.length - x.1) (p.length) ((0, _)) (⟨Nat.zero_le _, rfl⟩) ⟨rfl, rfl, rfl, rfl, trivial⟩ rfl ?_
  rintro n ⟨k, v⟩ ac ww hok hs
  simp only [List.cons_append, List.nil_append] at hs
  obtain ⟨hk, rfl⟩ := hok
  simp only at hk hs
  refine wp_seq ?_
  refine wp_seq ?_
  refine wp_reg ?_
  refine s_q hs (c_move (hs.ev rfl)) rfl fun ac hs => ?_
  refine s_q hs (c_move (hs.ev rfl)) rfl fun ac hs => ?_
  refine s_q hs (c_lenS un34 (hs.ev rfl)) rfl fun ac hs => ?_
  refine s_q hs (c_lssI (hs.ev rfl) (hs.ev rfl)) rfl fun ac hs => ?_
  refine s_end ?_
  refine then_n ?_
  refine s_cond hs rfl (fun hc => ?_) (fun hc => ?_)
  · try simp only [decide_eq_true_eq, decide_eq_false_iff_not, Bool.not_eq_true', Bool.not_eq_false', Bool.and_eq_true, Bool.or_eq_true, Bool.or_eq_false_iff] at hc
    obtain ⟨pb, po, pT, pf, pall, rfl, hpb, hps⟩ := hq.at' (by omega)
    refine wp_skip ?_
    refine then_n ?_
    refine wp_seq ?_
    refine wp_block ?_
    refine wp_region_rg pmix 14 (by kernel_rfl) rfl hs ?_
    simp only [List.take_succ_cons, List.take_zero]
    refine rg_q (fun ac ww h => c_move (h.ev rfl)) rfl ?_
    refine rg_q (fun ac ww h => c_move (h.ev rfl)) rfl ?_
    refine rg_q (fun ac ww h => c_move (h.ev rfl)) rfl ?_
    refine rg_q (fun ac ww h => c_idxS (j := k) un34 ty5 (h.ev rfl) (h.ev rfl) (by omega) (by omega)) rfl ?_
    refine rg_q (fun ac ww h => c_loadS un5 rfl (h.ev rfl) (h.blk (hs.old hpb id)) (seg_get 0 hps (by omega))) rfl ?_
    refine rg_q (fun ac ww h => c_quoB (h.ev rfl) (RC.ev (v := B 16) h rfl) (by decide)) rfl ?_
    refine rg_call fu161 (fun ac ww h => (.cons (h.ev rfl) .nil)) (fun ww hf => ref04_Digit _ _) rfl ?_
    refine rg_q (fun ac ww h => c_move (h.ev rfl)) rfl ?_
    refine rg_q (fun ac ww h => c_move (h.ev rfl)) rfl ?_
    refine rg_q (fun ac ww h => c_idxS (j := k) un34 ty5 (h.ev rfl) (h.ev rfl) (by omega) (by omega)) rfl ?_
    refine rg_q (fun ac ww h => c_loadS un5 rfl (h.ev rfl) (h.blk (hs.old hpb id)) (seg_get 0 hps (by omega))) rfl ?_
    refine rg_q (fun ac ww h => c_remB (h.ev rfl) (RC.ev (v := B 16) h rfl) (by decide)) rfl ?_
    refine rg_call fu161 (fun ac ww h => (.cons (h.ev rfl) .nil)) (fun ww hf => ref04_Digit _ _) rfl ?_
    refine rg_bslice un34 ty5 (fun ac ww h => (.cons (h.ev rfl) (.cons (h.ev rfl) .nil))) rfl (by simp [Value.cells]) (by decide) rfl rfl ?_
    refine rg_nil fun ac ww L' hf hfe hs => ?_
    simp only [List.drop_succ_cons, List.drop_zero]
    obtain ⟨v24, L24, M24, h24, e24, rfl, rfl⟩ := hfe
    replace hs := hs.add h24
    obtain ⟨g24, rfl, rfl⟩ := e24
    refine s_appB (i := 1) hs un34 ty5 rfl rfl rfl (RdB.seg (l := [_, _]) (hs.seg (i := 0) rfl) (by show 2 ≤ maxLen; decide)) (by rw [hexs_length, List.length_take]; simp; omega) rfl fun ac ww v25 hf hnil hs => ?_
    refine s_q hs (c_assign (hs.ev rfl)) rfl fun ac hs => ?_
    refine s_end ?_
    refine blk_n ?_
    refine then_n ?_
    refine wp_reg ?_
    refine s_q hs (c_move (hs.ev rfl)) rfl fun ac hs => ?_
    refine s_q hs (c_addI (hs.ev rfl) (hs.ev rfl) (by omega) (by omega)) rfl fun ac hs => ?_
    refine s_q hs (c_assign (hs.ev rfl)) rfl fun ac hs => ?_
    refine s_end ?_
    refine then_n ?_
    replace hs := hs.pick (L' := [_]) (.cons _ (.refl _))
    exact ⟨p.length - (k + 1), by (try simp only); omega, (k + 1, _), ⟨by (try simp only); omega, rfl⟩, St.next hs ⟨rfl, rfl, rfl, rfl, trivial⟩ (by rw [hexs_succ p k (by omega), ← dig2_hexd _ (hi_lt _), ← dig2_hexd _ (lo_lt _), ← hi_eq8, ← lo_eq8]; try rfl)⟩
  · try simp only [decide_eq_true_eq, decide_eq_false_iff_not, Bool.not_eq_true', Bool.not_eq_false', Bool.and_eq_true, Bool.or_eq_true, Bool.or_eq_false_iff] at hc
    obtain rfl : k = p.length := by omega
    rw [List.take_length] at hs
    refine wp_exit ?_
    refine then_e ?_
    refine then_e ?_
    refine blk_hit ?_
    refine then_n ?_
    refine wp_seq ?_
    refine wp_reg ?_
    refine s_q hs (c_move (hs.ev rfl)) rfl fun ac hs => ?_
    refine s_q hs (c_cvST un34 un5 un9 (hs.ev rfl) (RdB.row (hs.get (i := 0) rfl))) rfl fun ac hs => ?_
    refine s_q hs (c_assign (hs.ev rfl)) rfl fun ac hs => ?_
    refine s_end ?_
    replace hs := hs.sub (F' := [(2, _)]) ⟨rfl, trivial⟩
    refine then_n ?_
    refine wp_ret ?_
    refine s_ret hs rfl (.tmp (hs.tmp rfl) .nil) rfl ⟨_, rfl, hs.fr, ?_⟩
    rfl

end Go.Proofs.Ytmgnnclkjkbmdaa
end

/- The sum as the document has it. -/
section
set_option linter.unusedSimpArgs false
set_option linter.unusedVariables false
set_option maxRecDepth 100000
namespace Go.Proofs.Ytmgnnclkjkbmdaa
open Go Go.Fw

open Sha
theorem comp_take (r : R) (l : List UInt8) : comp r (l.take 64) = comp r l := comp_congr (fun j hj => by simp [List.getD, List.getElem?_take_of_lt hj]) r
def mid (r : R) (k j : Nat) : List UInt8 := (out r).take (4 * k) ++ lo32 (r.list.getD k 0) j ++ List.replicate (32 - 4 * (k + 1)) 0
theorem mid_len (r : R) (k j : Nat) (h : k < 8) (hj : j ≤ 4) : (mid r k j).length = 32 := by simp only [mid, List.length_append, List.length_take, out_length, lo32_len _ _ hj, List.length_replicate]; omega
theorem mid_set (r : R) (k j : Nat) (h : k < 8) (hj : j < 4) : (mid r k j).set (4 * k + (3 - j)) ((be32 (r.list.getD k 0)).getD (3 - j) 0) = mid r k (j + 1) := by
  have e : ((out r).take (4 * k)).length = 4 * k := by simp; omega
  rw [mid, mid, List.append_assoc, List.append_assoc, List.set_append_right _ _ (by omega), e, Nat.add_sub_cancel_left, List.set_append_left _ _ (by rw [lo32_len _ _ (by omega)]; omega), lo32_set _ _ hj]
theorem mid_zero (r : R) (k : Nat) (h : k < 8) : outZ r k = mid r k 0 := by
  rw [outZ, mid, List.append_assoc]
  congr 1
  rw [show lo32 (r.list.getD k 0) 0 = List.replicate 4 0 from rfl, List.replicate_append_replicate]
  congr 1
  omega
theorem mid_full (r : R) (k : Nat) (h : k < 8) : mid r k 4 = outZ r (k + 1) := by
  rw [outZ, mid, out_take r k h]
  rfl

-- fingerpostref04.Sum
set_option maxHeartbeats 4000000 in
theorem ref04_Sum (p : List UInt8) (pv : Value) (hle : p.length ≤ 140737488355200) (w : World) (hq : RdB w pv p) : Ctr Try.prog 45 [pv] w (fun _ => False) (fun v _ => v = .agg ((sum p).map B).toArray) := by
  refine fn_start (N := 51) Try.func45 rfl rfl rfl fun ac hk => ?_
  have hs := St.start hk w
  refine wp_seq ?_
  refine wp_reg ?_
  refine s_alloc hs ty40 rfl fun ac ww g2 hs => ?_
  refine s_end ?_
  refine then_n ?_
  refine wp_seq ?_
  refine wp_reg ?_
  refine s_q hs (c_move (hs.ev rfl)) rfl fun ac hs => ?_
  refine s_call hs fu46 (.cons (hs.ev rfl) .nil) (ref04_Pad p _ hle _ (hq.fr0 hs.fr)) rfl fun ac ww v12 hf hp hs => ?_
  obtain ⟨qv, rfl, hh⟩ := hp
  replace hs := hs _ hh
  obtain ⟨qad, qcap, rfl, hqc, hqm⟩ := Rd.sl (RdB.row (hs.get (i := 0) rfl))
  have hpl := pad_length p
  refine s_q hs (c_assign (hs.ev rfl)) rfl fun ac hs => ?_
  refine s_end ?_
  replace hs := hs.sub (F' := [(2, _), (3, _)]) ⟨rfl, rfl, trivial⟩
  refine then_n ?_
  refine wp_seq ?_
  refine wp_reg ?_
  refine s_call hs fu154 .nil (ref04_First _) rfl fun ac ww v13 hf hp hs => ?_
  obtain rfl := hp
  replace hs := hs [] (.nil _ _)
  refine s_alloc hs ty205 rfl fun ac ww g4 hs => ?_
  refine s_storeW (i := 0) hs ty205 rfl rfl rfl (by simp) (all_map_U _) (by simp) fun ww hs => ?_
  refine s_end ?_
  replace hs := hs.sub (F' := [(2, _), (3, _), (4, _)]) ⟨rfl, rfl, rfl, trivial⟩
  refine then_n ?_
  refine wp_seq ?_
  refine wp_reg ?_
  refine s_call hs fu155 .nil (ref04_K _) rfl fun ac ww v14 hf hp hs => ?_
  obtain rfl := hp
  replace hs := hs [] (.nil _ _)
  refine s_alloc hs ty207 rfl fun ac ww g5 hs => ?_
  refine s_storeW (i := 0) hs ty207 rfl rfl rfl (by simp) (all_map_U _) (by simp) fun ww hs => ?_
  refine s_end ?_
  replace hs := hs.sub (F' := [(2, _), (3, _), (4, _), (5, _)]) ⟨rfl, rfl, rfl, rfl, trivial⟩
  refine then_n ?_
  refine wp_seq ?_
  refine wp_seq ?_
  refine wp_reg ?_
  refine s_q hs (c_assign (hs.ev rfl)) rfl fun ac hs => ?_
  refine s_end ?_
  refine then_n ?_
  refine wp_block ?_
  refine s_loop hs (X := Nat) (fun k => [(6, I (64 * (k : Int)))]) [(2, _), (3, _), (4, _), (5, _)] (fun k => [.seg g5 (K.map U) 207, .seg g4 ((foldB first (pad p) k).list.map U) 205, .row _ (pad p).length ((pad p).map B) 5 1, .seg g2 ((List.replicate 32 (0 : UInt8)).map B) 40]) (fun n k => k ≤ blocks p.length ∧ n = blocks p.length - k) (_) (0) (⟨Nat.zero_le _, rfl⟩) ⟨rfl, rfl, rfl, rfl, rfl, trivial⟩ rfl ?_
  rintro n k ac ww hok hs
  simp only [List.cons_append, List.nil_append] at hs
  obtain ⟨hk, rfl⟩ := hok
  have hbl : blocks p.length ≤ p.length + 2 := by simp only [blocks]; split <;> omega
  refine wp_seq ?_
  refine wp_seq ?_
  refine wp_reg ?_
  refine s_q hs (c_move (hs.ev rfl)) rfl fun ac hs => ?_
  refine s_q hs (c_move (hs.ev rfl)) rfl fun ac hs => ?_
  refine s_q hs (c_lenS un34 (hs.ev rfl)) rfl fun ac hs => ?_
  refine s_q hs (c_lssI (hs.ev rfl) (hs.ev rfl)) rfl fun ac hs => ?_
  refine s_end ?_
  refine then_n ?_
  refine s_cond hs rfl (fun hc => ?_) (fun hc => ?_)
  · try simp only [decide_eq_true_eq, decide_eq_false_iff_not, Bool.not_eq_true', Bool.not_eq_false', Bool.and_eq_true, Bool.or_eq_true, Bool.or_eq_false_iff] at hc
    have hk2 : k < blocks p.length := by omega
    refine wp_skip ?_
    refine then_n ?_
    refine wp_seq ?_
    refine wp_block ?_
    refine wp_region_rg pmix 8 (by kernel_rfl) rfl hs ?_
    simp only [List.take_succ_cons, List.take_zero]
    refine rg_q (fun ac ww h => c_loadW ty205 rfl (h.ev rfl) (h.blk (hs.seg (i := 1) rfl)) (by simp)) rfl ?_
    refine rg_q (fun ac ww h => c_move (h.ev rfl)) rfl ?_
    refine rg_q (fun ac ww h => c_move (h.ev rfl)) rfl ?_
    refine rg_q (fun ac ww h => c_move (h.ev rfl)) rfl ?_
    refine rg_q (fun ac ww h => c_addI (h.ev rfl) (h.ev rfl) (by omega) (by omega)) rfl ?_
    refine rg_q (fun ac ww h => c_sliceS (i := 64 * k) (j := 64 * k + 64) un34 ty5 (h.ev rfl) (h.ev rfl) (h.ev rfl) (by omega) (by omega) (by omega) (by omega)) rfl ?_
    refine rg_q (fun ac ww h => c_loadW ty207 rfl (h.ev rfl) (h.blk (hs.seg (i := 0) rfl)) (by simp)) rfl ?_
    refine rg_call fu156 (fun ac ww h => (.cons (h.ev rfl) (.cons (h.ev rfl) (.cons (h.ev rfl) .nil)))) (fun ww hf => ref04_Block _ (((pad p).drop (64 * k)).take (64 * k + 64 - 64 * k)) _ (by rw [List.length_take, List.length_drop]; omega) ww ((RdB.mid (RdB.row (hs.get (i := 2) rfl)) (by omega) (by omega)).fr0 hf)) rfl ?_
    refine rg_nil fun ac ww L' hf hfe hs => ?_
    simp only [List.drop_succ_cons, List.drop_zero]
    obtain rfl : L' = [] := hfe
    replace hs := hs.toL (List.nil_append _)
    refine s_storeW (i := 1) hs ty205 rfl rfl rfl (by simp) (all_map_U _) (by simp) fun ww hs => ?_
    rw [show 64 * k + 64 - 64 * k = 64 from by omega, comp_take] at hs
    refine s_end ?_
    refine blk_n ?_
    refine then_n ?_
    refine wp_reg ?_
    refine s_q hs (c_move (hs.ev rfl)) rfl fun ac hs => ?_
    refine s_q hs (c_addI (hs.ev rfl) (hs.ev rfl) (by omega) (by omega)) rfl fun ac hs => ?_
    refine s_q hs (c_assign (hs.ev rfl)) rfl fun ac hs => ?_
    refine s_end ?_
    refine then_n ?_
    exact ⟨blocks p.length - (k + 1), by omega, k + 1, ⟨by omega, rfl⟩, St.next hs ⟨(congrArg (fun z => some (I z)) (by omega)), rfl, rfl, rfl, rfl, trivial⟩ rfl⟩
  · try simp only [decide_eq_true_eq, decide_eq_false_iff_not, Bool.not_eq_true', Bool.not_eq_false', Bool.and_eq_true, Bool.or_eq_true, Bool.or_eq_false_iff] at hc
    obtain rfl : k = blocks p.length := by omega
    refine wp_exit ?_
    refine then_e ?_
    refine then_e ?_
    refine blk_hit ?_
    refine then_n ?_
    refine wp_seq ?_
    refine wp_reg ?_
    refine s_alloc hs ty40 rfl fun ac ww g7 hs => ?_
    refine s_end ?_
    replace hs := hs.sub (F' := [(2, _), (4, _), (7, _)]) ⟨rfl, rfl, rfl, trivial⟩
    refine then_n ?_
    refine wp_seq ?_
    refine wp_seq ?_
    refine wp_reg ?_
    refine s_q hs (c_assign (hs.ev rfl)) rfl fun ac hs => ?_
    refine s_end ?_
    refine then_n ?_
    refine wp_block ?_
    refine s_loop hs (X := Nat) (fun k => [(8, I k)]) [(2, _), (4, _), (7, _)] (fun k => [.seg g7 ((outZ (foldB first (pad p) (blocks p.length)) k).map B) 40, .seg g5 (K.map U) 207, .seg g4 ((foldB first (pad p) (blocks p.length)).list.map U) 205, .row _ (pad p).length ((pad p).map B) 5 1, .seg g2 ((List.replicate 32 (0 : UInt8)).map B) 40]) (fun n k => k ≤ 8 ∧ n = 8 - k) (8) (0) (⟨Nat.zero_le _, rfl⟩) ⟨rfl, rfl, rfl, rfl, trivial⟩ rfl ?_
    rintro n k ac ww hok hs
    simp only [List.cons_append, List.nil_append] at hs
    obtain ⟨hk, rfl⟩ := hok
    have hzl := outZ_len (foldB first (pad p) (blocks p.length)) k hk
    refine wp_seq ?_
    refine wp_seq ?_
    refine wp_reg ?_
    refine s_q hs (c_move (hs.ev rfl)) rfl fun ac hs => ?_
    refine s_q hs (c_lssI (hs.ev rfl) (hs.ev rfl)) rfl fun ac hs => ?_
    refine s_end ?_
    refine then_n ?_
    refine s_cond hs rfl (fun hc => ?_) (fun hc => ?_)
    · try simp only [decide_eq_true_eq, decide_eq_false_iff_not, Bool.not_eq_true', Bool.not_eq_false', Bool.and_eq_true, Bool.or_eq_true, Bool.or_eq_false_iff] at hc
      have hk8 : k < 8 := by omega
      refine wp_skip ?_
      refine then_n ?_
      refine wp_seq ?_
      refine wp_block ?_
      refine wp_seq ?_
      refine wp_reg ?_
      refine s_q hs (c_move (hs.ev rfl)) rfl fun ac hs => ?_
      refine s_q hs (c_idxA (j := k) un205 ty27 (hs.ev rfl) (hs.ev rfl) (by omega) (by omega)) rfl fun ac hs => ?_
      refine s_q hs (c_loadS un27 rfl (hs.ev rfl) (hs.seg (i := 2) rfl) (map_get 0 (by simp; omega))) rfl fun ac hs => ?_
      refine s_q hs (c_assign (hs.ev rfl)) rfl fun ac hs => ?_
      refine s_end ?_
      refine then_n ?_
      refine wp_seq ?_
      refine wp_reg ?_
      refine s_q hs (c_assign (hs.ev rfl)) rfl fun ac hs => ?_
      refine s_end ?_
      refine then_n ?_
      refine wp_block ?_
      refine s_loop hs (X := Nat) (fun j => [(9, U (qd32 ((foldB first (pad p) (blocks p.length)).list.getD k 0) j)), (10, I (3 - (j : Int)))]) [(2, _), (4, _), (7, _), (8, _), (29, _), (30, _), (33, _), (34, _), (35, _)] (fun j => [.seg g7 ((mid (foldB first (pad p) (blocks p.length)) k j).map B) 40, .seg g5 (K.map U) 207, .seg g4 ((foldB first (pad p) (blocks p.length)).list.map U) 205, .row _ (pad p).length ((pad p).map B) 5 1, .seg g2 ((List.replicate 32 (0 : UInt8)).map B) 40]) (fun n j => j ≤ 4 ∧ n = 4 - j) (4) (0) (⟨Nat.zero_le _, rfl⟩) ⟨rfl, rfl, rfl, rfl, rfl, rfl, rfl, rfl, rfl, rfl, rfl, trivial⟩ (by rw [mid_zero _ k hk8]) ?_
      rintro n j ac ww hok hs
      simp only [List.cons_append, List.nil_append] at hs
      obtain ⟨hj, rfl⟩ := hok
      have hml := mid_len (foldB first (pad p) (blocks p.length)) k j hk8 hj
      refine wp_seq ?_
      refine wp_seq ?_
      refine wp_reg ?_
      refine s_q hs (c_move (hs.ev rfl)) rfl fun ac hs => ?_
      refine s_q hs (c_geqI (hs.ev rfl) (hs.ev rfl)) rfl fun ac hs => ?_
      refine s_end ?_
      refine then_n ?_
      refine s_cond hs rfl (fun hc => ?_) (fun hc => ?_)
      · try simp only [decide_eq_true_eq, decide_eq_false_iff_not, Bool.not_eq_true', Bool.not_eq_false', Bool.and_eq_true, Bool.or_eq_true, Bool.or_eq_false_iff] at hc
        have hj4 : j < 4 := by omega
        refine wp_skip ?_
        refine then_n ?_
        refine wp_seq ?_
        refine wp_block ?_
        refine wp_seq ?_
        refine wp_reg ?_
        refine s_q hs (c_move (hs.ev rfl)) rfl fun ac hs => ?_
        refine s_q hs (c_mulI (hs.ev rfl) (hs.ev rfl) (by omega) (by omega)) rfl fun ac hs => ?_
        refine s_q hs (c_move (hs.ev rfl)) rfl fun ac hs => ?_
        refine s_q hs (c_addI (hs.ev rfl) (hs.ev rfl) (by omega) (by omega)) rfl fun ac hs => ?_
        refine s_q hs (c_move (hs.ev rfl)) rfl fun ac hs => ?_
        refine s_q hs (c_remU (hs.ev rfl) (St.ev (v := U 256) hs rfl) (by decide)) rfl fun ac hs => ?_
        refine s_q hs (c_cvUB un27 un5 (hs.ev rfl)) rfl fun ac hs => ?_
        refine s_q hs (c_idxA (j := 4 * k + (3 - j)) un40 ty5 (hs.ev rfl) (hs.ev rfl) (by omega) (by omega)) rfl fun ac hs => ?_
        refine s_store (i := 0) hs ty5 rfl rfl rfl rfl rfl rfl (by rw [List.length_map]; omega) ((map_set _ (by omega)).trans (congrArg (List.map B) ((congrArg (fun z => List.set _ _ z) (qd32_byte _ j (by omega))).trans (mid_set _ k j hk8 hj4)))) fun ww hs => ?_
        refine s_end ?_
        refine then_n ?_
        refine wp_reg ?_
        refine s_q hs (c_move (hs.ev rfl)) rfl fun ac hs => ?_
        refine s_q hs (c_quoU (hs.ev rfl) (St.ev (v := U 256) hs rfl) (by decide)) rfl fun ac hs => ?_
        refine s_q hs (c_assign (hs.ev rfl)) rfl fun ac hs => ?_
        refine s_end ?_
        refine blk_n ?_
        refine then_n ?_
        refine wp_reg ?_
        refine s_q hs (c_move (hs.ev rfl)) rfl fun ac hs => ?_
        refine s_q hs (c_subI (hs.ev rfl) (hs.ev rfl) (by omega) (by omega)) rfl fun ac hs => ?_
        refine s_q hs (c_assign (hs.ev rfl)) rfl fun ac hs => ?_
        refine s_end ?_
        refine then_n ?_
        exact ⟨4 - (j + 1), by omega, j + 1, ⟨by omega, rfl⟩, St.next hs ⟨rfl, (congrArg (fun z => some (I z)) (by omega)), rfl, rfl, rfl, rfl, rfl, rfl, rfl, rfl, rfl, trivial⟩ rfl⟩
      · try simp only [decide_eq_true_eq, decide_eq_false_iff_not, Bool.not_eq_true', Bool.not_eq_false', Bool.and_eq_true, Bool.or_eq_true, Bool.or_eq_false_iff] at hc
        obtain rfl : j = 4 := by omega
        refine wp_exit ?_
        refine then_e ?_
        refine then_e ?_
        refine blk_hit ?_
        refine blk_n ?_
        refine then_n ?_
        refine wp_reg ?_
        refine s_q hs (c_move (hs.ev rfl)) rfl fun ac hs => ?_
        refine s_q hs (c_addI (hs.ev rfl) (hs.ev rfl) (by omega) (by omega)) rfl fun ac hs => ?_
        refine s_q hs (c_assign (hs.ev rfl)) rfl fun ac hs => ?_
        refine s_end ?_
        refine then_n ?_
        exact ⟨8 - (k + 1), by omega, k + 1, ⟨by omega, rfl⟩, St.next hs ⟨rfl, rfl, rfl, rfl, trivial⟩ (by rw [← mid_full _ k (by omega)]; try rfl)⟩
    · try simp only [decide_eq_true_eq, decide_eq_false_iff_not, Bool.not_eq_true', Bool.not_eq_false', Bool.and_eq_true, Bool.or_eq_true, Bool.or_eq_false_iff] at hc
      obtain rfl : k = 8 := by omega
      refine wp_exit ?_
      refine then_e ?_
      refine then_e ?_
      refine blk_hit ?_
      refine then_n ?_
      refine wp_seq ?_
      refine wp_reg ?_
      refine s_q hs (c_loadW ty40 rfl (hs.ev rfl) (hs.seg (i := 0) rfl) (by simpa using hzl)) rfl fun ac hs => ?_
      refine s_storeW (i := 4) hs ty40 rfl rfl rfl (by simpa using hzl) (all_map_B _) rfl fun ww hs => ?_
      refine s_end ?_
      replace hs := hs.sub (F' := [(2, _)]) ⟨rfl, trivial⟩
      refine then_n ?_
      refine wp_ret ?_
      refine s_ret hs rfl (.cell (hs.tmp rfl) (run_loadA ty40 rfl (hs.seg (i := 4) rfl) (List.take_of_length_le (by simp [hzl])) (by simpa using hzl)) .nil) rfl ⟨_, rfl, hs.fr, ?_⟩
      show _ = _
      rw [sum_eq]
      rfl

end Go.Proofs.Ytmgnnclkjkbmdaa
end

/- The laws of the sums, walked. -/
section
set_option linter.unusedSimpArgs false
set_option linter.unusedVariables false
set_option maxRecDepth 100000
namespace Go.Proofs.Ytmgnnclkjkbmdaa
open Go Go.Fw

open Sha
-- fingerpostlaw04.ShaSums
set_option maxHeartbeats 4000000 in
theorem law_ShaSums (p : List UInt8) (pv : Value) (hle : p.length ≤ 140737488351232) (w : World) (hq : RdB w pv p) : Ctr Try.prog 5 [pv] w (fun _ => False) (fun v _ => v = .bool true) := by
  refine fn_start (N := 11) Try.func5 rfl rfl rfl fun ac hk => ?_
  have hs := St.start hk w
  refine wp_seq ?_
  refine wp_reg ?_
  refine s_q hs (c_assign (hs.ev rfl)) rfl fun ac hs => ?_
  refine s_end ?_
  refine then_n ?_
  refine wp_seq ?_
  refine wp_reg ?_
  refine s_call hs fu43 .nil (law04_awake _) rfl fun ac ww v3 hf hp hs => ?_
  obtain rfl := hp
  replace hs := hs [] (.nil _ _)
  refine s_q hs (c_move (hs.ev rfl)) rfl fun ac hs => ?_
  refine s_yes hs rfl rfl ?_
  refine s_q hs (c_move (hs.ev rfl)) rfl fun ac hs => ?_
  refine s_yes hs rfl rfl ?_
  refine s_call hs fu44 (.cons (hs.ev rfl) .nil) (sha_Sum p _ (by omega) _ (hq.fr0 hs.fr)) rfl fun ac ww v6 hf hp hs => ?_
  obtain rfl := hp
  replace hs := hs [] (.nil _ _)
  refine s_yes hs rfl rfl ?_
  refine s_q hs (c_move (hs.ev rfl)) rfl fun ac hs => ?_
  refine s_yes hs rfl rfl ?_
  refine s_call hs fu45 (.cons (hs.ev rfl) .nil) (ref04_Sum p _ (by omega) _ (hq.fr0 hs.fr)) rfl fun ac ww v8 hf hp hs => ?_
  obtain rfl := hp
  replace hs := hs [] (.nil _ _)
  refine s_yes hs rfl rfl ?_
  refine s_q hs (c_tt (c_eqlAB un41 ty5 eg41 (hs.ev rfl) (hs.ev rfl) (sum_length _) (sum_length _)) (by simp)) rfl fun ac hs => ?_
  refine s_q hs (c_pick (hs.ev rfl) (hs.ev rfl) (hs.ev rfl)) rfl fun ac hs => ?_
  refine s_q hs (c_assign (hs.ev rfl)) rfl fun ac hs => ?_
  refine s_end ?_
  replace hs := hs.sub (F' := [(2, _)]) ⟨rfl, trivial⟩
  refine then_n ?_
  refine wp_ret ?_
  refine s_ret hs rfl (.tmp (hs.tmp rfl) .nil) rfl ⟨_, rfl, hs.fr, ?_⟩
  rfl

-- fingerpostlaw04.ShaBlocks
set_option maxHeartbeats 4000000 in
theorem law_ShaBlocks (n : Int) (h0 : -9223372036854775808 ≤ n) (h1 : n ≤ 9223372036854775807) (w : World)  : Ctr Try.prog 7 [I n] w (fun _ => False) (fun v _ => v = .bool true) := by
  refine fn_start (N := 11) Try.func7 rfl rfl rfl fun ac hk => ?_
  have hs := St.start hk w
  refine wp_seq ?_
  refine wp_reg ?_
  refine s_q hs (c_assign (hs.ev rfl)) rfl fun ac hs => ?_
  refine s_end ?_
  refine then_n ?_
  refine wp_seq ?_
  refine wp_reg ?_
  refine s_call hs fu43 .nil (law04_awake _) rfl fun ac ww v3 hf hp hs => ?_
  obtain rfl := hp
  replace hs := hs [] (.nil _ _)
  refine s_q hs (c_move (hs.ev rfl)) rfl fun ac hs => ?_
  refine s_yes hs rfl rfl ?_
  refine s_q hs (c_move (hs.ev rfl)) rfl fun ac hs => ?_
  refine s_yes hs rfl rfl ?_
  refine s_call hs fu39 (.cons (hs.ev rfl) .nil) (sha_Blocks n h0 h1 _) rfl fun ac ww v6 hf hp hs => ?_
  obtain rfl := hp
  replace hs := hs [] (.nil _ _)
  refine s_yes hs rfl rfl ?_
  refine s_q hs (c_move (hs.ev rfl)) rfl fun ac hs => ?_
  refine s_yes hs rfl rfl ?_
  refine s_call hs fu47 (.cons (hs.ev rfl) .nil) (ref04_Blocks n h0 h1 _) rfl fun ac ww v8 hf hp hs => ?_
  obtain rfl := hp
  replace hs := hs [] (.nil _ _)
  refine s_yes hs rfl rfl ?_
  refine s_q hs (c_tt (c_eqlI (hs.ev rfl) (hs.ev rfl)) (by simp)) rfl fun ac hs => ?_
  refine s_q hs (c_pick (hs.ev rfl) (hs.ev rfl) (hs.ev rfl)) rfl fun ac hs => ?_
  refine s_q hs (c_assign (hs.ev rfl)) rfl fun ac hs => ?_
  refine s_end ?_
  replace hs := hs.sub (F' := [(2, _)]) ⟨rfl, trivial⟩
  refine then_n ?_
  refine wp_ret ?_
  refine s_ret hs rfl (.tmp (hs.tmp rfl) .nil) rfl ⟨_, rfl, hs.fr, ?_⟩
  rfl

/-- Bytes that go on by a step. -/
def steps (a b : UInt8) : Nat → List UInt8
  | 0 => []
  | k + 1 => steps a b k ++ [a + UInt8.ofNat k * b]
theorem steps_len (a b : UInt8) (k : Nat) : (steps a b k).length = k := by
  induction k with
  | zero => rfl
  | succ k ih => simp [steps, ih]
theorem step_next (a b : UInt8) (k : Nat) : a + UInt8.ofNat k * b + b = a + UInt8.ofNat (k + 1) * b := by
  rw [UInt8.ofNat_add, UInt8.add_mul, ← UInt8.add_assoc]
  simp
def stepZ (a b : UInt8) (n k : Nat) : List UInt8 := steps a b k ++ List.replicate (n - k) 0
theorem stepZ_len (a b : UInt8) (n k : Nat) (h : k ≤ n) : (stepZ a b n k).length = n := by simp [stepZ, steps_len]; omega
theorem stepZ_set (a b : UInt8) (n k : Nat) (h : k < n) : (stepZ a b n k).set k (a + UInt8.ofNat k * b) = stepZ a b n (k + 1) := by
  have h2 := Sha.set_rep (steps a b k) (n - (k + 1)) (0 : UInt8) (a + UInt8.ofNat k * b)
  rw [steps_len, show n - (k + 1) + 1 = n - k from by omega] at h2
  exact h2

theorem flat1 (n : Nat) : (List.replicate n [B 0]).flatten = (List.replicate n (0 : UInt8)).map B := by
  induction n with
  | zero => rfl
  | succ n ih => rw [List.replicate_succ, List.flatten_cons, ih, List.replicate_succ]; rfl
theorem RdB.segn {w : World} {g n : Nat} {T : TypeId} {l : List UInt8} (h : w.heap[g]? = some (.cells (l.map B).toArray T (0, 0))) (hl : l.length = n) (hn : n ≤ maxLen) : RdB w (.slice (some ⟨g, 0, none⟩) n n) l := by
  subst hl; exact RdB.seg h hn

-- fingerpostlaw04.ShaEdges
set_option maxHeartbeats 4000000 in
theorem law_ShaEdges (n a b : UInt8) (w : World)  : Ctr Try.prog 6 [B n, B a, B b] w (fun _ => False) (fun v _ => v = .bool true) := by
  refine fn_start (N := 44) Try.func6 rfl rfl rfl fun ac hk => ?_
  have hs := St.start hk w
  refine wp_seq ?_
  refine wp_reg ?_
  refine s_q hs (c_assign (hs.ev rfl)) rfl fun ac hs => ?_
  refine s_end ?_
  refine then_n ?_
  refine wp_seq ?_
  refine wp_reg ?_
  refine s_q hs (c_move (hs.ev rfl)) rfl fun ac hs => ?_
  refine s_q hs (c_cvBI un5 un3 (hs.ev rfl)) rfl fun ac hs => ?_
  refine s_q hs (c_remI (hs.ev rfl) (hs.ev rfl) (by omega) (by omega)) rfl fun ac hs => ?_
  refine s_make (n := (n.toNat % 201)) hs un34 ty5 rfl rfl (by rw [Int.natCast_emod]; rfl) (by rw [Int.natCast_emod]; rfl) (by omega) (by unfold maxLen; omega) rfl fun ac ww g12 hs => ?_
  refine s_q hs (c_assign (hs.ev rfl)) rfl fun ac hs => ?_
  refine s_end ?_
  replace hs := hs.sub (F' := [(1, _), (2, _), (6, _), (7, _)]) ⟨rfl, rfl, rfl, rfl, trivial⟩
  refine then_n ?_
  refine wp_seq ?_
  refine wp_seq ?_
  refine wp_reg ?_
  refine s_q hs (c_move (hs.ev rfl)) rfl fun ac hs => ?_
  refine s_q hs (c_lenS un34 (hs.ev rfl)) rfl fun ac hs => ?_
  refine s_q hs (c_move (hs.ev rfl)) rfl fun ac hs => ?_
  refine s_end ?_
  replace hs := hs.sub (F' := [(1, _), (2, _), (6, _), (7, _), (14, _), (15, _)]) ⟨rfl, rfl, rfl, rfl, rfl, rfl, trivial⟩
  refine then_n ?_
  refine wp_block ?_
  refine s_loop hs (X := Nat) (fun k => [(1, B (a + UInt8.ofNat k * b)), (15, I k)]) [(2, _), (6, _), (7, _), (14, _)] (fun k => [.seg g12 ((stepZ a b (n.toNat % 201) k).map B) 5]) (fun m k => k ≤ (n.toNat % 201) ∧ m = (n.toNat % 201) - k) (_) (0) (⟨Nat.zero_le _, rfl⟩) ⟨(by simp; rfl), rfl, rfl, rfl, rfl, rfl, trivial⟩ (by rw [flat1]; rfl) ?_
  rintro n k ac ww hok hs
  simp only [List.cons_append, List.nil_append] at hs
  obtain ⟨hk, rfl⟩ := hok
  have hzl := stepZ_len a b (n.toNat % 201) k hk
  refine wp_seq ?_
  refine wp_reg ?_
  refine s_q hs (c_lssI (hs.ev rfl) (hs.ev rfl)) rfl fun ac hs => ?_
  refine s_end ?_
  refine then_n ?_
  refine wp_seq ?_
  refine s_cond hs rfl (fun hc => ?_) (fun hc => ?_)
  · try simp only [decide_eq_true_eq, decide_eq_false_iff_not, Bool.not_eq_true', Bool.not_eq_false', Bool.and_eq_true, Bool.or_eq_true, Bool.or_eq_false_iff] at hc
    refine wp_skip ?_
    refine then_n ?_
    refine wp_seq ?_
    refine wp_block ?_
    refine wp_seq ?_
    refine wp_reg ?_
    refine s_q hs (c_move (hs.ev rfl)) rfl fun ac hs => ?_
    refine s_q hs (c_assign (hs.ev rfl)) rfl fun ac hs => ?_
    refine s_end ?_
    refine then_n ?_
    refine wp_seq ?_
    refine wp_reg ?_
    refine s_q hs (c_move (hs.ev rfl)) rfl fun ac hs => ?_
    refine s_q hs (c_move (hs.ev rfl)) rfl fun ac hs => ?_
    refine s_q hs (c_move (hs.ev rfl)) rfl fun ac hs => ?_
    refine s_q hs (c_idxS (j := k) un34 ty5 (hs.ev rfl) (hs.ev rfl) (by omega) (by omega)) rfl fun ac hs => ?_
    refine s_store (i := 0) hs ty5 rfl rfl rfl rfl rfl rfl (by rw [List.length_map]; omega) ((map_set _ (by omega)).trans (congrArg (List.map B) (stepZ_set a b _ k (by omega)))) fun ww hs => ?_
    refine s_end ?_
    refine then_n ?_
    refine wp_reg ?_
    refine s_q hs (c_move (hs.ev rfl)) rfl fun ac hs => ?_
    refine s_q hs (c_move (hs.ev rfl)) rfl fun ac hs => ?_
    refine s_q hs (c_addB (hs.ev rfl) (hs.ev rfl)) rfl fun ac hs => ?_
    refine s_q hs (c_assign (hs.ev rfl)) rfl fun ac hs => ?_
    refine s_end ?_
    refine blk_n ?_
    refine then_n ?_
    refine wp_reg ?_
    refine s_q hs (c_addI (hs.ev rfl) (hs.ev rfl) (by omega) (by omega)) rfl fun ac hs => ?_
    refine s_q hs (c_move (hs.ev rfl)) rfl fun ac hs => ?_
    refine s_end ?_
    refine then_n ?_
    exact ⟨(n.toNat % 201) - (k + 1), by omega, k + 1, ⟨by omega, rfl⟩, St.next hs ⟨(by rw [← step_next]; rfl), rfl, rfl, rfl, rfl, rfl, trivial⟩ rfl⟩
  · try simp only [decide_eq_true_eq, decide_eq_false_iff_not, Bool.not_eq_true', Bool.not_eq_false', Bool.and_eq_true, Bool.or_eq_true, Bool.or_eq_false_iff] at hc
    obtain rfl : k = (n.toNat % 201) := by omega
    refine wp_exit ?_
    refine then_e ?_
    refine then_e ?_
    refine blk_hit ?_
    refine then_n ?_
    refine wp_seq ?_
    refine wp_reg ?_
    refine s_call hs fu43 .nil (law04_awake _) rfl fun ac ww v26 hf hp hs => ?_
    obtain rfl := hp
    replace hs := hs [] (.nil _ _)
    refine s_q hs (c_move (hs.ev rfl)) rfl fun ac hs => ?_
    refine s_yes hs rfl rfl ?_
    refine s_q hs (c_move (hs.ev rfl)) rfl fun ac hs => ?_
    refine s_yes hs rfl rfl ?_
    refine s_call hs fu44 (.cons (hs.ev rfl) .nil) (sha_Sum (stepZ a b (n.toNat % 201) (n.toNat % 201)) _ (by omega) _ (RdB.segn (l := (stepZ a b (n.toNat % 201) (n.toNat % 201))) (hs.seg (i := 0) rfl) hzl (by unfold maxLen; omega))) rfl fun ac ww v29 hf hp hs => ?_
    obtain rfl := hp
    replace hs := hs [] (.nil _ _)
    refine s_yes hs rfl rfl ?_
    refine s_q hs (c_move (hs.ev rfl)) rfl fun ac hs => ?_
    refine s_yes hs rfl rfl ?_
    refine s_call hs fu45 (.cons (hs.ev rfl) .nil) (ref04_Sum (stepZ a b (n.toNat % 201) (n.toNat % 201)) _ (by omega) _ (RdB.segn (l := (stepZ a b (n.toNat % 201) (n.toNat % 201))) (hs.seg (i := 0) rfl) hzl (by unfold maxLen; omega))) rfl fun ac ww v31 hf hp hs => ?_
    obtain rfl := hp
    replace hs := hs [] (.nil _ _)
    refine s_yes hs rfl rfl ?_
    refine s_q hs (c_tt (c_eqlAB un41 ty5 eg41 (hs.ev rfl) (hs.ev rfl) (sum_length _) (sum_length _)) (by simp)) rfl fun ac hs => ?_
    refine s_q hs (c_pick (hs.ev rfl) (hs.ev rfl) (hs.ev rfl)) rfl fun ac hs => ?_
    refine s_q hs (c_move (hs.ev rfl)) rfl fun ac hs => ?_
    refine s_yes hs rfl rfl ?_
    refine s_q hs (c_move (hs.ev rfl)) rfl fun ac hs => ?_
    refine s_yes hs rfl rfl ?_
    refine s_q hs (c_lenS un34 (hs.ev rfl)) rfl fun ac hs => ?_
    refine s_yes hs rfl rfl ?_
    refine s_call hs fu39 (.cons (hs.ev rfl) .nil) (sha_Blocks _ (by omega) (by omega) _) rfl fun ac ww v37 hf hp hs => ?_
    obtain rfl := hp
    replace hs := hs [] (.nil _ _)
    refine s_yes hs rfl rfl ?_
    refine s_q hs (c_move (hs.ev rfl)) rfl fun ac hs => ?_
    refine s_yes hs rfl rfl ?_
    refine s_call hs fu46 (.cons (hs.ev rfl) .nil) (ref04_Pad (stepZ a b (n.toNat % 201) (n.toNat % 201)) _ (by omega) _ (RdB.segn (l := (stepZ a b (n.toNat % 201) (n.toNat % 201))) (hs.seg (i := 0) rfl) hzl (by unfold maxLen; omega))) rfl fun ac ww v39 hf hp hs => ?_
    obtain ⟨qv, rfl, hh⟩ := hp
    replace hs := hs _ hh
    obtain ⟨qad, qcap, rfl, hqc, hqm⟩ := Rd.sl (RdB.row (hs.get (i := 0) rfl))
    have hpl := pad_length (stepZ a b (n.toNat % 201) (n.toNat % 201))
    have hbl : blocks (stepZ a b (n.toNat % 201) (n.toNat % 201)).length ≤ 202 := by rw [hzl]; simp only [blocks]; split <;> omega
    refine s_yes hs rfl rfl ?_
    refine s_q hs (c_lenS un34 (hs.ev rfl)) rfl fun ac hs => ?_
    refine s_yes hs rfl rfl ?_
    refine s_q hs (c_quoI (hs.ev rfl) (hs.ev rfl) (by omega) (by omega) (by omega)) rfl fun ac hs => ?_
    refine s_yes hs rfl rfl ?_
    refine s_q hs (c_tt (c_eqlI (hs.ev rfl) (hs.ev rfl)) (by rw [blI_nat, hpl, hzl]; simp)) rfl fun ac hs => ?_
    refine s_q hs (c_pick (hs.ev rfl) (hs.ev rfl) (hs.ev rfl)) rfl fun ac hs => ?_
    refine s_q hs (c_assign (hs.ev rfl)) rfl fun ac hs => ?_
    refine s_end ?_
    replace hs := hs.sub (F' := [(6, _)]) ⟨rfl, trivial⟩
    refine then_n ?_
    refine wp_ret ?_
    refine s_ret hs rfl (.tmp (hs.tmp rfl) .nil) rfl ⟨_, rfl, hs.fr, ?_⟩
    rfl

end Go.Proofs.Ytmgnnclkjkbmdaa
end
