/- Own texts of this seat, laid together: MacSpec, RowsSpec, MacA, Ref05Spec, Ref05A, OtsSpec, OtsA, OtsB, OtsC. -/
import Derived.Test.YtmgnnclkjkbmdaaGa
import Derived.Test.YtmgnnclkjkbmdaaGb
import Derived.Test.YtmgnnclkjkbmdaaHa
/- Keyed sums and short sums, as plain Lean. -/
section
set_option linter.unusedSimpArgs false
set_option linter.unusedVariables false
set_option maxRecDepth 100000
namespace Go.Proofs.Ytmgnnclkjkbmdaa



namespace Sha
def short (k : UInt8) (p : List UInt8) : List UInt8 := (sum (k :: p)).take 16
@[simp] theorem short_length (k : UInt8) (p : List UInt8) : (short k p).length = 16 := rfl
def keyB (k : List UInt8) : List UInt8 := if k.length > 64 then sum k ++ List.replicate 32 0 else k ++ List.replicate (64 - k.length) 0
theorem keyB_length (k : List UInt8) : (keyB k).length = 64 := by
  unfold keyB
  split
  · rw [List.length_append, sum_length, List.length_replicate]
  · simp; omega
def hmac (k p : List UInt8) : List UInt8 := sum ((keyB k).map (· ^^^ 0x5c) ++ sum ((keyB k).map (· ^^^ 0x36) ++ p))
@[simp] theorem hmac_length (k p : List UInt8) : (hmac k p).length = 32 := rfl
def tag (k p : List UInt8) : List UInt8 := (hmac k p).take 16
@[simp] theorem tag_length (k p : List UInt8) : (tag k p).length = 16 := rfl
def prf (seed : List UInt8) (kind : UInt8) (nums : List UInt64) : List UInt8 := tag seed (kind :: UInt8.ofNat nums.length :: nums.flatMap be64)
@[simp] theorem prf_length (seed : List UInt8) (kind : UInt8) (nums : List UInt64) : (prf seed kind nums).length = 16 := rfl
/-- Each of the first k bytes is turned. -/
def xorZ (c : UInt8) (l : List UInt8) (k : Nat) : List UInt8 := (l.take k).map (· ^^^ c) ++ l.drop k
theorem xorZ_length (c : UInt8) (l : List UInt8) (k : Nat) : (xorZ c l k).length = l.length := by simp [xorZ]; omega
theorem xorZ_zero (c : UInt8) (l : List UInt8) : xorZ c l 0 = l := by simp [xorZ]
theorem xorZ_full (c : UInt8) (l : List UInt8) (k : Nat) (h : k = l.length) : xorZ c l k = l.map (· ^^^ c) := by subst h; simp [xorZ]
theorem xorZ_get (c : UInt8) (l : List UInt8) (k : Nat) (h : k < l.length) : (xorZ c l k).getD k 0 = l.getD k 0 := by
  have h1 : ((l.take k).map (· ^^^ c)).length = k := by simp; omega
  rw [xorZ, List.getD, List.getElem?_append_right (by omega), h1, Nat.sub_self, List.getElem?_drop]
  rfl
theorem xorZ_set (c : UInt8) (l : List UInt8) (k : Nat) (h : k < l.length) : (xorZ c l k).set k (l.getD k 0 ^^^ c) = xorZ c l (k + 1) := by
  have h1 : ((l.take k).map (· ^^^ c)).length = k := by simp; omega
  rw [xorZ, xorZ, List.set_append_right _ _ (by omega), h1, Nat.sub_self, List.take_succ_eq_append_getElem h, List.drop_eq_getElem_cons h, List.set_cons_zero, List.map_append, List.append_assoc]
  have h2 : l.getD k 0 = l[k] := by simp [List.getD, h]
  rw [h2]
  rfl
/-- The first k bytes of l in n places. -/
def upto (l : List UInt8) (n k : Nat) : List UInt8 := l.take k ++ List.replicate (n - k) 0
theorem upto_len (l : List UInt8) (n k : Nat) (h : k ≤ n) (hl : k ≤ l.length) : (upto l n k).length = n := by simp [upto]; omega
theorem upto_set (l : List UInt8) (n k : Nat) (h : k < n) (hl : k < l.length) : (upto l n k).set k (l.getD k 0) = upto l n (k + 1) := by
  have h2 := set_rep (l.take k) (n - (k + 1)) (0 : UInt8) (l.getD k 0)
  rw [List.length_take, Nat.min_eq_left (by omega), show n - (k + 1) + 1 = n - k from by omega] at h2
  rw [upto, upto, h2, List.take_succ_eq_append_getElem hl]
  simp [List.getD, hl]
theorem keyB_long (k : List UInt8) (h : 64 < k.length) : (sum k).take 64 ++ (List.replicate 64 (0 : UInt8)).drop (sum k).length = keyB k := by rw [keyB, if_pos h]; rfl
theorem keyB_small (k : List UInt8) (h : ¬ 64 < k.length) : k.take 64 ++ (List.replicate 64 (0 : UInt8)).drop k.length = keyB k := by
  rw [keyB, if_neg h, List.take_of_length_le (by omega), List.drop_replicate]
end Sha

end Go.Proofs.Ytmgnnclkjkbmdaa
end

/- Rows of short sums; texts that have one short sum. -/
section
set_option linter.unusedSimpArgs false
set_option linter.unusedVariables false
set_option maxRecDepth 100000
namespace Go.Proofs.Ytmgnnclkjkbmdaa


open Sha
/-- The short sum of a text with its kind. -/
def ofT (t : List UInt8) : List UInt8 := short (t.getD 0 0) t.tail
@[simp] theorem ofT_length (t : List UInt8) : (ofT t).length = 16 := rfl
def clash (a b : List (List UInt8)) : Bool := a.any fun x => b.any fun y => decide (ofT x = ofT y) && decide (x ≠ y)
theorem clash_not {a b : List (List UInt8)} (h : clash a b = false) {x y : List UInt8} (hx : x ∈ a) (hy : y ∈ b) (e : ofT x = ofT y) : x = y := by
  apply Classical.byContradiction
  intro hne
  have : clash a b = true := List.any_eq_true.2 ⟨x, hx, List.any_eq_true.2 ⟨y, hy, by simp [e, hne]⟩⟩
  rw [h] at this
  cases this
/-- One of some rows of 16 bytes. -/
def chunk (s : List UInt8) (c : Nat) : List UInt8 := (s.drop (16 * c)).take 16
theorem chunk_len {s : List UInt8} {c : Nat} (h : 16 * c + 16 ≤ s.length) : (chunk s c).length = 16 := by rw [chunk, List.length_take, List.length_drop]; omega
/-- Rows of 16 bytes each, one behind the other. -/
def rows (f : Nat → List UInt8) (n : Nat) : List UInt8 := (List.range n).flatMap f
theorem rows_succ (f : Nat → List UInt8) (n : Nat) : rows f (n + 1) = rows f n ++ f n := by simp [rows, List.range_succ]
theorem rows_length {f : Nat → List UInt8} {N : Nat} (hf : ∀ c, c < N → (f c).length = 16) : ∀ n, n ≤ N → (rows f n).length = 16 * n
  | 0, _ => rfl
  | n + 1, h => by rw [rows_succ, List.length_append, rows_length hf n (by omega), hf n (by omega)]; omega
theorem rows_chunk {f : Nat → List UInt8} {N : Nat} (hf : ∀ c, c < N → (f c).length = 16) : ∀ n, n ≤ N → ∀ c, c < n → chunk (rows f n) c = f c
  | 0, _, c, hc => by omega
  | n + 1, h, c, hc => by
    have hl := rows_length hf n (by omega)
    rw [rows_succ]
    by_cases e : c = n
    · subst e
      rw [chunk, List.drop_append_of_le_length (by omega), List.drop_of_length_le (by omega), List.nil_append, List.take_of_length_le (by rw [hf c (by omega)]; omega)]
    · rw [chunk, List.drop_append_of_le_length (by omega), List.take_append_of_le_length (by rw [List.length_drop]; omega)]
      exact rows_chunk hf n (by omega) c (by omega)
theorem rows_congr {f g : Nat → List UInt8} : ∀ n, (∀ c, c < n → f c = g c) → rows f n = rows g n
  | 0, _ => rfl
  | n + 1, h => by rw [rows_succ, rows_succ, rows_congr n (fun c hc => h c (by omega)), h n (by omega)]

end Go.Proofs.Ytmgnnclkjkbmdaa
end

/- Keyed sums and short sums. -/
section
set_option linter.unusedSimpArgs false
set_option linter.unusedVariables false
set_option maxRecDepth 100000
namespace Go.Proofs.Ytmgnnclkjkbmdaa
open Go Go.Fw

open Sha
-- mac.key
set_option maxHeartbeats 4000000 in
theorem mac_key (k : List UInt8) (kv : Value) (hle : k.length ≤ 140737488355328) (w : World) (hq : RdB w kv k) : Ctr Try.prog 169 [kv] w (fun _ => False) (fun v _ => v = .agg ((keyB k).map B).toArray) := by
  obtain ⟨kad, kcap, rfl, hkc, hkm⟩ := Rd.sl hq
  refine fn_start (N := 17) Try.func169 rfl rfl rfl fun ac hk => ?_
  have hs := St.start hk w
  refine wp_seq ?_
  refine wp_reg ?_
  refine s_alloc hs ty226 rfl fun ac ww g2 hs => ?_
  refine s_end ?_
  refine then_n ?_
  refine wp_seq ?_
  refine wp_reg ?_
  refine s_alloc hs ty226 rfl fun ac ww g3 hs => ?_
  refine s_end ?_
  refine then_n ?_
  refine wp_seq ?_
  refine wp_seq ?_
  refine wp_reg ?_
  refine s_q hs (c_move (hs.ev rfl)) rfl fun ac hs => ?_
  refine s_q hs (c_lenS un34 (hs.ev rfl)) rfl fun ac hs => ?_
  refine s_q hs (c_gtrI (hs.ev rfl) (hs.ev rfl)) rfl fun ac hs => ?_
  refine s_end ?_
  replace hs := hs.sub (F' := [(0, _), (2, _), (3, _), (7, _)]) ⟨rfl, rfl, rfl, rfl, trivial⟩
  refine then_n ?_
  refine s_cond hs rfl (fun hc => ?_) (fun hc => ?_)
  · try simp only [decide_eq_true_eq, decide_eq_false_iff_not, Bool.not_eq_true', Bool.not_eq_false', Bool.and_eq_true, Bool.or_eq_true, Bool.or_eq_false_iff] at hc
    refine wp_seq ?_
    refine wp_reg ?_
    refine s_q hs (c_move (hs.ev rfl)) rfl fun ac hs => ?_
    refine s_call hs fu44 (.cons (hs.ev rfl) .nil) (sha_Sum k _ hle _ (hq.fr0 hs.fr)) rfl fun ac ww v9 hf hp hs => ?_
    obtain rfl := hp
    replace hs := hs [] (.nil _ _)
    refine s_alloc hs ty41 rfl fun ac ww g4 hs => ?_
    refine s_storeW (i := 0) hs ty41 rfl rfl rfl (by simp) (all_map_B _) (by simp) fun ww hs => ?_
    refine s_end ?_
    replace hs := hs.sub (F' := [(0, _), (2, _), (3, _), (4, _)]) ⟨rfl, rfl, rfl, rfl, trivial⟩
    refine then_n ?_
    refine wp_region_rg pmix 2 (by kernel_rfl) rfl hs ?_
    simp only [List.take_succ_cons, List.take_zero]
    refine rg_q (fun ac ww h => c_sliceA un226 ty5 (h.ev rfl)) rfl ?_
    refine rg_q (fun ac ww h => c_sliceA un41 ty5 (h.ev rfl)) rfl ?_
    refine rg_nil fun ac ww L' hf hfe hs => ?_
    simp only [List.drop_succ_cons, List.drop_zero]
    obtain rfl : L' = [] := hfe
    replace hs := hs.toL (List.nil_append _)
    refine s_copy (i := 1) (n := 64) hs un34 ty5 rfl (by simp) rfl rfl (RdB.seg (l := sum k) (hs.seg (i := 0) rfl) (by rw [sum_length]; decide)) rfl fun ac ww hs => ?_
    rw [keyB_long k (by omega)] at hs
    refine s_end ?_
    replace hs := hs.sub (F' := [(0, _), (2, _), (3, _)]) ⟨rfl, rfl, rfl, trivial⟩
    refine then_n ?_
    refine wp_seq ?_
    refine wp_reg ?_
    refine s_q hs (c_loadW ty226 rfl (hs.ev rfl) (hs.seg (i := 1) rfl) (by rw [List.length_map, keyB_length])) rfl fun ac hs => ?_
    refine s_storeW (i := 2) hs ty226 rfl rfl rfl (by rw [List.length_map, keyB_length]) (all_map_B _) rfl fun ww hs => ?_
    refine s_end ?_
    replace hs := hs.sub (F' := [(2, _)]) ⟨rfl, trivial⟩
    refine then_n ?_
    refine wp_ret ?_
    refine s_ret hs rfl (.cell (hs.tmp rfl) (run_loadA ty226 rfl (hs.seg (i := 2) rfl) (List.take_of_length_le (by simp [keyB_length])) (by simp [keyB_length])) .nil) rfl ⟨_, rfl, hs.fr, ?_⟩
    rfl
  · try simp only [decide_eq_true_eq, decide_eq_false_iff_not, Bool.not_eq_true', Bool.not_eq_false', Bool.and_eq_true, Bool.or_eq_true, Bool.or_eq_false_iff] at hc
    refine wp_reg ?_
    refine s_q hs (c_sliceA un226 ty5 (hs.ev rfl)) rfl fun ac hs => ?_
    refine s_q hs (c_move (hs.ev rfl)) rfl fun ac hs => ?_
    refine s_copy (i := 0) (n := 64) hs un34 ty5 rfl (by simp) rfl rfl (hq.fr0 hs.fr) rfl fun ac ww hs => ?_
    rw [keyB_small k (by omega)] at hs
    refine s_end ?_
    replace hs := hs.sub (F' := [(2, _), (3, _)]) ⟨rfl, rfl, trivial⟩
    refine then_n ?_
    refine wp_seq ?_
    refine wp_reg ?_
    refine s_q hs (c_loadW ty226 rfl (hs.ev rfl) (hs.seg (i := 0) rfl) (by rw [List.length_map, keyB_length])) rfl fun ac hs => ?_
    refine s_storeW (i := 1) hs ty226 rfl rfl rfl (by rw [List.length_map, keyB_length]) (all_map_B _) rfl fun ww hs => ?_
    refine s_end ?_
    replace hs := hs.sub (F' := [(2, _)]) ⟨rfl, trivial⟩
    refine then_n ?_
    refine wp_ret ?_
    refine s_ret hs rfl (.cell (hs.tmp rfl) (run_loadA ty226 rfl (hs.seg (i := 1) rfl) (List.take_of_length_le (by simp [keyB_length])) (by simp [keyB_length])) .nil) rfl ⟨_, rfl, hs.fr, ?_⟩
    rfl

-- mac.first
set_option maxHeartbeats 4000000 in
theorem mac_first (d : List UInt8) (hd : d.length = 32) (w : World)  : Ctr Try.prog 170 [.agg (d.map B).toArray] w (fun _ => False) (fun v _ => v = .agg ((d.take 16).map B).toArray) := by
  refine fn_start (N := 8) Try.func170 rfl rfl rfl fun ac hk => ?_
  have hs := St.start hk w
  refine wp_seq ?_
  refine wp_reg ?_
  refine s_box hs rfl rfl rfl fun ac ww g1 hs => ?_
  refine s_alloc hs ty54 rfl fun ac ww g2 hs => ?_
  refine s_end ?_
  replace hs := hs.sub (F' := [(1, _), (2, _)]) ⟨rfl, rfl, trivial⟩
  refine then_n ?_
  refine wp_seq ?_
  refine wp_reg ?_
  refine s_alloc hs ty54 rfl fun ac ww g3 hs => ?_
  refine s_end ?_
  refine then_n ?_
  refine wp_seq ?_
  refine wp_region_rg pmix 2 (by kernel_rfl) rfl hs ?_
  simp only [List.take_succ_cons, List.take_zero]
  refine rg_q (fun ac ww h => c_sliceA un54 ty5 (h.ev rfl)) rfl ?_
  refine rg_q (fun ac ww h => c_sliceA un41 ty5 (h.ev rfl)) rfl ?_
  refine rg_nil fun ac ww L' hf hfe hs => ?_
  simp only [List.drop_succ_cons, List.drop_zero]
  obtain rfl : L' = [] := hfe
  replace hs := hs.toL (List.nil_append _)
  refine s_copy (i := 0) (n := 16) hs un34 ty5 rfl (by simp) rfl rfl (RdB.segn (l := d) (hs.seg (i := 2) rfl) hd (by decide)) rfl fun ac ww hs => ?_
  rw [show d.take 16 ++ (List.replicate 16 (0 : UInt8)).drop d.length = d.take 16 from by rw [hd]; simp] at hs
  refine s_end ?_
  replace hs := hs.sub (F' := [(2, _), (3, _)]) ⟨rfl, rfl, trivial⟩
  refine then_n ?_
  refine wp_seq ?_
  refine wp_reg ?_
  refine s_q hs (c_loadW ty54 rfl (hs.ev rfl) (hs.seg (i := 0) rfl) (by simp [hd])) rfl fun ac hs => ?_
  refine s_storeW (i := 1) hs ty54 rfl rfl rfl (by simp [hd]) (all_map_B _) rfl fun ww hs => ?_
  refine s_end ?_
  replace hs := hs.sub (F' := [(2, _)]) ⟨rfl, trivial⟩
  refine then_n ?_
  refine wp_ret ?_
  refine s_ret hs rfl (.cell (hs.tmp rfl) (run_loadA ty54 rfl (hs.seg (i := 1) rfl) (List.take_of_length_le (by simp [hd])) (by simp [hd])) .nil) rfl ⟨_, rfl, hs.fr, ?_⟩
  rfl

-- mac.Mac
set_option maxHeartbeats 4000000 in
theorem mac_Mac (k p : List UInt8) (kv pv : Value) (hkl : k.length ≤ 140737488355328) (hle : p.length ≤ 140737488355200) (w : World) (hqk : RdB w kv k) (hqp : RdB w pv p) : Ctr Try.prog 78 [kv, pv] w (fun _ => False) (fun v _ => v = .agg ((hmac k p).map B).toArray) := by
  refine fn_start (N := 46) Try.func78 rfl rfl rfl fun ac hk => ?_
  have hs := St.start hk w
  refine wp_seq ?_
  refine wp_reg ?_
  refine s_alloc hs ty41 rfl fun ac ww g4 hs => ?_
  refine s_end ?_
  refine then_n ?_
  refine wp_seq ?_
  refine wp_reg ?_
  refine s_q hs (c_move (hs.ev rfl)) rfl fun ac hs => ?_
  refine s_call hs fu169 (.cons (hs.ev rfl) .nil) (mac_key k _ hkl _ (hqk.fr0 hs.fr)) rfl fun ac ww v11 hf hp hs => ?_
  obtain rfl := hp
  replace hs := hs [] (.nil _ _)
  refine s_q hs (c_move (hs.ev rfl)) rfl fun ac hs => ?_
  refine s_call hs fu169 (.cons (hs.ev rfl) .nil) (mac_key k _ hkl _ (hqk.fr0 hs.fr)) rfl fun ac ww v13 hf hp hs => ?_
  obtain rfl := hp
  replace hs := hs [] (.nil _ _)
  refine s_alloc hs ty226 rfl fun ac ww g5 hs => ?_
  refine s_alloc hs ty226 rfl fun ac ww g6 hs => ?_
  refine s_storeW (i := 1) hs ty226 rfl rfl rfl (by rw [List.length_map, keyB_length]) (all_map_B _) rfl fun ww hs => ?_
  refine s_storeW (i := 0) hs ty226 rfl rfl rfl (by rw [List.length_map, keyB_length]) (all_map_B _) rfl fun ww hs => ?_
  refine s_end ?_
  replace hs := hs.sub (F' := [(1, _), (4, _), (5, _), (6, _)]) ⟨rfl, rfl, rfl, rfl, trivial⟩
  refine then_n ?_
  refine wp_seq ?_
  refine wp_seq ?_
  refine wp_reg ?_
  refine s_q hs (c_move (hs.ev rfl)) rfl fun ac hs => ?_
  refine s_end ?_
  refine then_n ?_
  refine wp_block ?_
  refine s_loop hs (X := Nat) (fun i => [(14, I i)]) [(1, _), (4, _), (5, _), (6, _)] (fun i => [.seg g6 ((xorZ 0x5c (keyB k) i).map B) 226, .seg g5 ((xorZ 0x36 (keyB k) i).map B) 226, .seg g4 ((List.replicate 32 (0 : UInt8)).map B) 41]) (fun n i => i ≤ 64 ∧ n = 64 - i) (64) (0) (⟨Nat.zero_le _, rfl⟩) ⟨rfl, rfl, rfl, rfl, rfl, trivial⟩ (by rw [xorZ_zero, xorZ_zero]; rfl) ?_
  rintro n i ac ww hok hs
  simp only [List.cons_append, List.nil_append] at hs
  obtain ⟨hi, rfl⟩ := hok
  have hz1 := (xorZ_length 0x36 (keyB k) i).trans (keyB_length k)
  have hz2 := (xorZ_length 0x5c (keyB k) i).trans (keyB_length k)
  have hkb := keyB_length k
  refine wp_seq ?_
  refine wp_reg ?_
  refine s_q hs (c_lssI (hs.ev rfl) (hs.ev rfl)) rfl fun ac hs => ?_
  refine s_end ?_
  refine then_n ?_
  refine wp_seq ?_
  refine s_cond hs rfl (fun hc => ?_) (fun hc => ?_)
  · try simp only [decide_eq_true_eq, decide_eq_false_iff_not, Bool.not_eq_true', Bool.not_eq_false', Bool.and_eq_true, Bool.or_eq_true, Bool.or_eq_false_iff] at hc
    refine wp_skip ?_
    refine then_n ?_
    refine wp_seq ?_
    refine wp_block ?_
    refine wp_seq ?_
    refine wp_reg ?_
    refine s_q hs (c_move (hs.ev rfl)) rfl fun ac hs => ?_
    refine s_q hs (c_assign (hs.ev rfl)) rfl fun ac hs => ?_
    refine s_end ?_
    refine then_n ?_
    refine wp_seq ?_
    refine wp_reg ?_
    refine s_q hs (c_move (hs.ev rfl)) rfl fun ac hs => ?_
    refine s_q hs (c_idxA (j := i) un226 ty5 (hs.ev rfl) (hs.ev rfl) (by omega) (by omega)) rfl fun ac hs => ?_
    refine s_q hs (c_loadS un5 rfl (hs.ev rfl) (hs.seg (i := 1) rfl) ((map_get 0 (by omega)).trans (by rw [xorZ_get _ _ _ (by omega)]))) rfl fun ac hs => ?_
    refine s_q hs (c_xorB (hs.ev rfl) (St.ev (v := B 54) hs rfl)) rfl fun ac hs => ?_
    refine s_q hs (c_idxA (j := i) un226 ty5 (hs.ev rfl) (hs.ev rfl) (by omega) (by omega)) rfl fun ac hs => ?_
    refine s_store (i := 1) hs ty5 rfl rfl rfl rfl rfl rfl (by rw [List.length_map]; omega) ((map_set _ (by omega)).trans (congrArg (List.map B) (xorZ_set _ _ i (by omega)))) fun ww hs => ?_
    refine s_end ?_
    refine then_n ?_
    refine wp_reg ?_
    refine s_q hs (c_move (hs.ev rfl)) rfl fun ac hs => ?_
    refine s_q hs (c_idxA (j := i) un226 ty5 (hs.ev rfl) (hs.ev rfl) (by omega) (by omega)) rfl fun ac hs => ?_
    refine s_q hs (c_loadS un5 rfl (hs.ev rfl) (hs.seg (i := 0) rfl) ((map_get 0 (by omega)).trans (by rw [xorZ_get _ _ _ (by omega)]))) rfl fun ac hs => ?_
    refine s_q hs (c_xorB (hs.ev rfl) (St.ev (v := B 92) hs rfl)) rfl fun ac hs => ?_
    refine s_q hs (c_idxA (j := i) un226 ty5 (hs.ev rfl) (hs.ev rfl) (by omega) (by omega)) rfl fun ac hs => ?_
    refine s_store (i := 0) hs ty5 rfl rfl rfl rfl rfl rfl (by rw [List.length_map]; omega) ((map_set _ (by omega)).trans (congrArg (List.map B) (xorZ_set _ _ i (by omega)))) fun ww hs => ?_
    refine s_end ?_
    refine blk_n ?_
    refine then_n ?_
    refine wp_reg ?_
    refine s_q hs (c_addI (hs.ev rfl) (hs.ev rfl) (by omega) (by omega)) rfl fun ac hs => ?_
    refine s_q hs (c_move (hs.ev rfl)) rfl fun ac hs => ?_
    refine s_end ?_
    refine then_n ?_
    exact ⟨64 - (i + 1), by omega, i + 1, ⟨by omega, rfl⟩, St.next hs ⟨rfl, rfl, rfl, rfl, rfl, trivial⟩ rfl⟩
  · try simp only [decide_eq_true_eq, decide_eq_false_iff_not, Bool.not_eq_true', Bool.not_eq_false', Bool.and_eq_true, Bool.or_eq_true, Bool.or_eq_false_iff] at hc
    obtain rfl : i = 64 := by omega
    refine wp_exit ?_
    refine then_e ?_
    refine then_e ?_
    refine blk_hit ?_
    refine then_n ?_
    refine wp_seq ?_
    refine wp_reg ?_
    refine s_call hs fu48 .nil (sha_New _) rfl fun ac ww v28 hf hp hs => ?_
    obtain ⟨ga, rfl, hh⟩ := hp
    replace hs := hs _ (Has.grp' hh)
    refine s_q hs (c_assign (hs.ev rfl)) rfl fun ac hs => ?_
    refine s_end ?_
    replace hs := hs.sub (F' := [(1, _), (4, _), (5, _), (6, _), (8, _)]) ⟨rfl, rfl, rfl, rfl, rfl, trivial⟩
    refine then_n ?_
    refine wp_seq ?_
    refine wp_reg ?_
    refine s_q hs (c_move (hs.ev rfl)) rfl fun ac hs => ?_
    refine s_q hs (c_sliceA un226 ty5 (hs.ev rfl)) rfl fun ac hs => ?_
    refine s_callM (i := 0) hs fu49 (.cons (hs.ev rfl) (.cons (hs.ev rfl) .nil)) rfl (sha_Write ([]) (xorZ 0x36 (keyB k) 64) ga _ _ (by rw [hz1]; decide) _ (hs.get (i := 0) rfl) (RdB.segn (hs.seg (i := 2) rfl) hz1 (by decide)) (fun _ => hs.apart_seg (i := 0) (j := 2) rfl rfl (by decide))) rfl fun ac ww v31 hf hp hs => ?_
    obtain ⟨rv, h1, h2⟩ := hp
    replace hs := hs (Ent.grp (hash ga rv (([]) ++ (xorZ 0x36 (keyB k) 64)))) h1 (fun k hk => ⟨h2 k hk, grp_lt h1 k hk⟩)
    refine s_end ?_
    replace hs := hs.sub (F' := [(1, _), (4, _), (6, _), (8, _)]) ⟨rfl, rfl, rfl, rfl, trivial⟩
    refine then_n ?_
    refine wp_seq ?_
    refine wp_reg ?_
    refine s_q hs (c_move (hs.ev rfl)) rfl fun ac hs => ?_
    refine s_q hs (c_move (hs.ev rfl)) rfl fun ac hs => ?_
    refine s_callM (i := 0) hs fu49 (.cons (hs.ev rfl) (.cons (hs.ev rfl) .nil)) rfl (sha_Write ([] ++ xorZ 0x36 (keyB k) 64) (p) ga rv _ (by rw [List.nil_append, hz1]; omega) _ (hs.get (i := 0) rfl) (hqp.fr0 hs.fr) (hs.far (i := 0) rfl hqp)) rfl fun ac ww v34 hf hp hs => ?_
    obtain ⟨rv, h1, h2⟩ := hp
    replace hs := hs (Ent.grp (hash ga rv (([] ++ xorZ 0x36 (keyB k) 64) ++ (p)))) h1 (fun k hk => ⟨h2 k hk, grp_lt h1 k hk⟩)
    refine s_end ?_
    replace hs := hs.sub (F' := [(4, _), (6, _), (8, _)]) ⟨rfl, rfl, rfl, trivial⟩
    refine then_n ?_
    refine wp_seq ?_
    refine wp_reg ?_
    refine s_q hs (c_move (hs.ev rfl)) rfl fun ac hs => ?_
    refine s_call hs fu50 (.cons (hs.ev rfl) .nil) (sha_HSum ([] ++ xorZ 0x36 (keyB k) 64 ++ p) ga rv (by rw [List.nil_append, List.length_append, hz1]; omega) _ (hash_get (hs.get (i := 0) rfl)).1 (hash_get (hs.get (i := 0) rfl)).2) rfl fun ac ww v36 hf hp hs => ?_
    obtain rfl := hp
    replace hs := hs [] (.nil _ _)
    refine s_alloc hs ty41 rfl fun ac ww g9 hs => ?_
    refine s_storeW (i := 0) hs ty41 rfl rfl rfl (by simp) (all_map_B _) (by simp) fun ww hs => ?_
    refine s_end ?_
    replace hs := hs.sub (F' := [(4, _), (6, _), (8, _), (9, _)]) ⟨rfl, rfl, rfl, rfl, trivial⟩
    refine then_n ?_
    refine wp_seq ?_
    refine wp_reg ?_
    refine s_call hs fu48 .nil (sha_New _) rfl fun ac ww v37 hf hp hs => ?_
    obtain ⟨gb, rfl, hh⟩ := hp
    replace hs := hs _ (Has.grp' hh)
    refine s_q hs (c_assign (hs.ev rfl)) rfl fun ac hs => ?_
    refine s_end ?_
    replace hs := hs.sub (F' := [(4, _), (6, _), (8, _), (9, _)]) ⟨rfl, rfl, rfl, rfl, trivial⟩
    refine then_n ?_
    refine wp_seq ?_
    refine wp_reg ?_
    refine s_q hs (c_move (hs.ev rfl)) rfl fun ac hs => ?_
    refine s_q hs (c_sliceA un226 ty5 (hs.ev rfl)) rfl fun ac hs => ?_
    refine s_callM (i := 0) hs fu49 (.cons (hs.ev rfl) (.cons (hs.ev rfl) .nil)) rfl (sha_Write ([]) (xorZ 0x5c (keyB k) 64) gb _ _ (by rw [hz2]; decide) _ (hs.get (i := 0) rfl) (RdB.segn (hs.seg (i := 3) rfl) hz2 (by decide)) (fun _ => hs.apart_seg (i := 0) (j := 3) rfl rfl (by decide))) rfl fun ac ww v40 hf hp hs => ?_
    obtain ⟨rv, h1, h2⟩ := hp
    replace hs := hs (Ent.grp (hash gb rv (([]) ++ (xorZ 0x5c (keyB k) 64)))) h1 (fun k hk => ⟨h2 k hk, grp_lt h1 k hk⟩)
    refine s_end ?_
    replace hs := hs.sub (F' := [(4, _), (8, _), (9, _)]) ⟨rfl, rfl, rfl, trivial⟩
    refine then_n ?_
    refine wp_seq ?_
    refine wp_reg ?_
    refine s_q hs (c_move (hs.ev rfl)) rfl fun ac hs => ?_
    refine s_q hs (c_sliceA un41 ty5 (hs.ev rfl)) rfl fun ac hs => ?_
    refine s_callM (i := 0) hs fu49 (.cons (hs.ev rfl) (.cons (hs.ev rfl) .nil)) rfl (sha_Write ([] ++ xorZ 0x5c (keyB k) 64) (sum ([] ++ xorZ 0x36 (keyB k) 64 ++ p)) gb rv _ (by rw [List.nil_append, hz2, sum_length]; decide) _ (hs.get (i := 0) rfl) (RdB.segn (hs.seg (i := 1) rfl) (sum_length _) (by decide)) (fun _ => hs.apart_seg (i := 0) (j := 1) rfl rfl (by decide))) rfl fun ac ww v43 hf hp hs => ?_
    obtain ⟨rv, h1, h2⟩ := hp
    replace hs := hs (Ent.grp (hash gb rv (([] ++ xorZ 0x5c (keyB k) 64) ++ (sum ([] ++ xorZ 0x36 (keyB k) 64 ++ p))))) h1 (fun k hk => ⟨h2 k hk, grp_lt h1 k hk⟩)
    refine s_end ?_
    replace hs := hs.sub (F' := [(4, _), (8, _)]) ⟨rfl, rfl, trivial⟩
    refine then_n ?_
    refine wp_seq ?_
    refine wp_reg ?_
    refine s_q hs (c_move (hs.ev rfl)) rfl fun ac hs => ?_
    refine s_call hs fu50 (.cons (hs.ev rfl) .nil) (sha_HSum ([] ++ xorZ 0x5c (keyB k) 64 ++ sum ([] ++ xorZ 0x36 (keyB k) 64 ++ p)) gb rv (by rw [List.nil_append, List.length_append, hz2, sum_length]; decide) _ (hash_get (hs.get (i := 0) rfl)).1 (hash_get (hs.get (i := 0) rfl)).2) rfl fun ac ww v45 hf hp hs => ?_
    obtain rfl := hp
    replace hs := hs [] (.nil _ _)
    refine s_storeW (i := 5) hs ty41 rfl rfl rfl (by simp) (all_map_B _) (by simp) fun ww hs => ?_
    refine s_end ?_
    replace hs := hs.sub (F' := [(4, _)]) ⟨rfl, trivial⟩
    refine then_n ?_
    refine wp_ret ?_
    refine s_ret hs rfl (.cell (hs.tmp rfl) (run_loadA ty41 rfl (hs.seg (i := 5) rfl) (List.take_of_length_le (by simp)) (by simp)) .nil) rfl ⟨_, rfl, hs.fr, ?_⟩
    show _ = _
    rw [List.nil_append, List.nil_append, xorZ_full _ _ _ hkb.symm, xorZ_full _ _ _ hkb.symm]
    rfl

-- mac.Tag
set_option maxHeartbeats 4000000 in
theorem mac_Tag (k p : List UInt8) (kv pv : Value) (hkl : k.length ≤ 140737488355328) (hle : p.length ≤ 140737488355200) (w : World) (hqk : RdB w kv k) (hqp : RdB w pv p) : Ctr Try.prog 80 [kv, pv] w (fun _ => False) (fun v _ => v = .agg ((tag k p).map B).toArray) := by
  refine fn_start (N := 9) Try.func80 rfl rfl rfl fun ac hk => ?_
  have hs := St.start hk w
  refine wp_seq ?_
  refine wp_reg ?_
  refine s_alloc hs ty54 rfl fun ac ww g4 hs => ?_
  refine s_end ?_
  refine then_n ?_
  refine wp_seq ?_
  refine wp_reg ?_
  refine s_q hs (c_move (hs.ev rfl)) rfl fun ac hs => ?_
  refine s_q hs (c_move (hs.ev rfl)) rfl fun ac hs => ?_
  refine s_call hs fu78 (.cons (hs.ev rfl) (.cons (hs.ev rfl) .nil)) (mac_Mac k p _ _ hkl hle _ (hqk.fr0 hs.fr) (hqp.fr0 hs.fr)) rfl fun ac ww v7 hf hp hs => ?_
  obtain rfl := hp
  replace hs := hs [] (.nil _ _)
  refine s_call hs fu170 (.cons (hs.ev rfl) .nil) (mac_first (hmac k p) (hmac_length k p) _) rfl fun ac ww v8 hf hp hs => ?_
  obtain rfl := hp
  replace hs := hs [] (.nil _ _)
  refine s_storeW (i := 0) hs ty54 rfl rfl rfl (by simp) (all_map_B _) (by simp) fun ww hs => ?_
  refine s_end ?_
  replace hs := hs.sub (F' := [(4, _)]) ⟨rfl, trivial⟩
  refine then_n ?_
  refine wp_ret ?_
  refine s_ret hs rfl (.cell (hs.tmp rfl) (run_loadA ty54 rfl (hs.seg (i := 0) rfl) (List.take_of_length_le (by simp)) (by simp)) .nil) rfl ⟨_, rfl, hs.fr, ?_⟩
  rfl

-- mac.Short
set_option maxHeartbeats 4000000 in
theorem mac_Short (k : UInt8) (ps : List (Value × List UInt8)) (pv : Value) (hle : (flat ps).length ≤ 140737488355200) (w : World) (hq : RdP w pv ps) : Ctr Try.prog 91 [B k, pv] w (fun _ => False) (fun v _ => v = .agg ((short k (flat ps)).map B).toArray) := by
  have hpl := hq.1.le
  obtain ⟨pad_, pcap, rfl, hpc, hpm⟩ := hq.sl
  refine fn_start (N := 26) Try.func91 rfl rfl rfl fun ac hk => ?_
  have hs := St.start hk w
  refine wp_seq ?_
  refine wp_reg ?_
  refine s_alloc hs ty54 rfl fun ac ww g4 hs => ?_
  refine s_end ?_
  refine then_n ?_
  refine wp_seq ?_
  refine wp_reg ?_
  refine s_call hs fu48 .nil (sha_New _) rfl fun ac ww v8 hf hp hs => ?_
  obtain ⟨ga, rfl, hh⟩ := hp
  replace hs := hs _ (Has.grp' hh)
  refine s_q hs (c_assign (hs.ev rfl)) rfl fun ac hs => ?_
  refine s_end ?_
  replace hs := hs.sub (F' := [(0, _), (1, _), (4, _), (5, _)]) ⟨rfl, rfl, rfl, rfl, trivial⟩
  refine then_n ?_
  refine wp_seq ?_
  refine wp_reg ?_
  refine s_q hs (c_move (hs.ev rfl)) rfl fun ac hs => ?_
  refine s_q hs (c_move (hs.ev rfl)) rfl fun ac hs => ?_
  refine s_bslice hs un34 ty5 (.cons (hs.ev rfl) .nil) rfl (by simp [Value.cells]) (by decide) rfl rfl fun ac ww g11 hs => ?_
  refine s_callM (i := 1) hs fu49 (.cons (hs.ev rfl) (.cons (hs.ev rfl) .nil)) rfl (sha_Write ([]) ([k]) ga _ _ (by simp) _ (hs.get (i := 1) rfl) (RdB.seg (l := [k]) (hs.seg (i := 0) rfl) (by show 1 ≤ maxLen; decide)) (fun _ => hs.seg_apart (i := 0) (j := 1) rfl rfl (by decide))) rfl fun ac ww v12 hf hp hs => ?_
  obtain ⟨rv, h1, h2⟩ := hp
  replace hs := hs (Ent.grp (hash ga rv (([]) ++ ([k])))) h1 (fun k hk => ⟨h2 k hk, grp_lt h1 k hk⟩)
  refine s_end ?_
  replace hs := hs.pick (L' := [_, _]) (.cons _ (.refl _))
  replace hs := hs.sub (F' := [(1, _), (4, _), (5, _)]) ⟨rfl, rfl, rfl, trivial⟩
  refine then_n ?_
  refine wp_seq ?_
  refine wp_seq ?_
  refine wp_reg ?_
  refine s_q hs (c_move (hs.ev rfl)) rfl fun ac hs => ?_
  refine s_q hs (c_lenS un30 (hs.ev rfl)) rfl fun ac hs => ?_
  refine s_q hs (c_move (hs.ev rfl)) rfl fun ac hs => ?_
  refine s_end ?_
  replace hs := hs.sub (F' := [(4, _), (5, _), (13, _), (14, _), (15, _)]) ⟨rfl, rfl, rfl, rfl, rfl, trivial⟩
  refine then_n ?_
  refine wp_block ?_
  refine s_loop hs (X := Nat × Value) (fun x => [(15, I x.1)]) [(4, _), (5, _), (13, _), (14, _)] (fun x => [Ent.grp (hash ga x.2 (k :: flat (ps.take x.1))), .seg g4 ((List.replicate 16 (0 : UInt8)).map B) 54]) (fun n x => x.1 ≤ ps.length ∧ n = ps.length - x.1) (ps.length) ((0, rv)) (⟨Nat.zero_le _, rfl⟩) ⟨rfl, rfl, rfl, rfl, rfl, trivial⟩ rfl ?_
  rintro n ⟨i, rv⟩ ac ww hok hs
  simp only [List.cons_append, List.nil_append] at hs
  obtain ⟨hi, rfl⟩ := hok
  simp only at hi hs
  refine wp_seq ?_
  refine wp_reg ?_
  refine s_q hs (c_lssI (hs.ev rfl) (hs.ev rfl)) rfl fun ac hs => ?_
  refine s_end ?_
  refine then_n ?_
  refine wp_seq ?_
  refine s_cond hs rfl (fun hc => ?_) (fun hc => ?_)
  · try simp only [decide_eq_true_eq, decide_eq_false_iff_not, Bool.not_eq_true', Bool.not_eq_false', Bool.and_eq_true, Bool.or_eq_true, Bool.or_eq_false_iff] at hc
    have hips : i < ps.length := by omega
    obtain ⟨pb, po, pT, pf, pall, rfl, hpb, hps⟩ := hq.at' (by omega)
    have hfl := flat_take_le ps i hips
    refine wp_skip ?_
    refine then_n ?_
    refine wp_seq ?_
    refine wp_block ?_
    refine wp_seq ?_
    refine wp_reg ?_
    refine s_q hs (c_idxS (j := i) un30 ty34 (hs.ev rfl) (hs.ev rfl) (by omega) (by omega)) rfl fun ac hs => ?_
    refine s_q hs (c_loadS un34 rfl (hs.ev rfl) (hs.old hpb id) (seg_get (.nilIface, []) hps (by omega))) rfl fun ac hs => ?_
    refine s_q hs (c_assign (hs.ev rfl)) rfl fun ac hs => ?_
    refine s_end ?_
    refine then_n ?_
    refine wp_reg ?_
    refine s_q hs (c_move (hs.ev rfl)) rfl fun ac hs => ?_
    refine s_q hs (c_move (hs.ev rfl)) rfl fun ac hs => ?_
    refine s_callM (i := 0) hs fu49 (.cons (hs.ev rfl) (.cons (hs.ev rfl) .nil)) rfl (sha_Write (k :: flat (ps.take i)) ((ps.getD i (.nilIface, [])).2) ga rv _ (by simp only [List.length_cons]; omega) _ (hs.get (i := 0) rfl) ((hq.get hips).fr0 hs.fr) (hs.far (i := 0) rfl (hq.get hips))) rfl fun ac ww v21 hf hp hs => ?_
    obtain ⟨rv, h1, h2⟩ := hp
    replace hs := hs (Ent.grp (hash ga rv ((k :: flat (ps.take i)) ++ ((ps.getD i (.nilIface, [])).2)))) h1 (fun k hk => ⟨h2 k hk, grp_lt h1 k hk⟩)
    refine s_end ?_
    replace hs := hs.sub (F' := [(4, _), (5, _), (7, _), (13, _), (14, _), (15, _), (16, _), (17, _), (18, _), (19, _), (20, _)]) ⟨rfl, rfl, rfl, rfl, rfl, rfl, rfl, rfl, rfl, rfl, rfl, trivial⟩
    refine blk_n ?_
    refine then_n ?_
    refine wp_reg ?_
    refine s_q hs (c_addI (hs.ev rfl) (hs.ev rfl) (by omega) (by omega)) rfl fun ac hs => ?_
    refine s_q hs (c_move (hs.ev rfl)) rfl fun ac hs => ?_
    refine s_end ?_
    refine then_n ?_
    exact ⟨ps.length - (i + 1), by (try simp only); omega, (i + 1, rv), ⟨by (try simp only); omega, rfl⟩, St.next hs ⟨rfl, rfl, rfl, rfl, rfl, trivial⟩ (by rw [flat_take ps i (by omega)]; rfl)⟩
  · try simp only [decide_eq_true_eq, decide_eq_false_iff_not, Bool.not_eq_true', Bool.not_eq_false', Bool.and_eq_true, Bool.or_eq_true, Bool.or_eq_false_iff] at hc
    obtain rfl : i = ps.length := by omega
    rw [flat_full] at hs
    refine wp_exit ?_
    refine then_e ?_
    refine then_e ?_
    refine blk_hit ?_
    refine then_n ?_
    refine wp_seq ?_
    refine wp_reg ?_
    refine s_q hs (c_move (hs.ev rfl)) rfl fun ac hs => ?_
    refine s_call hs fu50 (.cons (hs.ev rfl) .nil) (sha_HSum (k :: flat ps) ga rv (by simp only [List.length_cons]; omega) _ (hash_get (hs.get (i := 0) rfl)).1 (hash_get (hs.get (i := 0) rfl)).2) rfl fun ac ww v24 hf hp hs => ?_
    obtain rfl := hp
    replace hs := hs [] (.nil _ _)
    refine s_call hs fu170 (.cons (hs.ev rfl) .nil) (mac_first _ (sum_length _) _) rfl fun ac ww v25 hf hp hs => ?_
    obtain rfl := hp
    replace hs := hs [] (.nil _ _)
    refine s_storeW (i := 1) hs ty54 rfl rfl rfl (by simp) (all_map_B _) (by simp) fun ww hs => ?_
    refine s_end ?_
    replace hs := hs.sub (F' := [(4, _)]) ⟨rfl, trivial⟩
    refine then_n ?_
    refine wp_ret ?_
    refine s_ret hs rfl (.cell (hs.tmp rfl) (run_loadA ty54 rfl (hs.seg (i := 1) rfl) (List.take_of_length_le (by simp)) (by simp)) .nil) rfl ⟨_, rfl, hs.fr, ?_⟩
    rfl

end Go.Proofs.Ytmgnnclkjkbmdaa
end

/- Numbers as bytes. -/
section
set_option linter.unusedSimpArgs false
set_option linter.unusedVariables false
set_option maxRecDepth 100000
namespace Go.Proofs.Ytmgnnclkjkbmdaa



namespace Sha
def num (x : UInt64) (s k : Nat) : List UInt8 := List.replicate (s - k) 0 ++ (be64 x).drop (8 - k)
theorem num_len (x : UInt64) (s k : Nat) (h : k ≤ s) (hs : s ≤ 8) : (num x s k).length = s := by simp [num]; omega
theorem drop_back (x : UInt64) : ∀ k, k < 8 → (be64 x).drop (8 - (k + 1)) = (be64 x).getD (7 - k) 0 :: (be64 x).drop (8 - k)
  | 0, _ => rfl | 1, _ => rfl | 2, _ => rfl | 3, _ => rfl | 4, _ => rfl | 5, _ => rfl | 6, _ => rfl | 7, _ => rfl
  | k + 8, h => absurd h (by omega)
theorem num_set (x : UInt64) (s k : Nat) (h : k < s) (hs : s ≤ 8) : (num x s k).set (s - 1 - k) ((be64 x).getD (7 - k) 0) = num x s (k + 1) := by
  have e : List.replicate (s - k) (0 : UInt8) = List.replicate (s - 1 - k) 0 ++ [0] := by
    rw [show s - k = (s - 1 - k) + 1 from by omega, List.replicate_succ']
  rw [num, num, e, List.append_assoc, List.set_append_right _ _ (by simp), List.length_replicate, Nat.sub_self, drop_back x k (by omega), show s - (k + 1) = s - 1 - k from by omega]
  rfl
theorem num_zero (x : UInt64) (s : Nat) (hs : s ≤ 8) : num x s 0 = List.replicate s 0 := by rw [num, List.drop_of_length_le (by simp)]; simp
theorem num_8 (x : UInt64) : num x 8 8 = be64 x := rfl
theorem take_xor (c : UInt8) (l : List UInt8) (i : Nat) (h : i < l.length) : (l.take (i + 1)).map (· ^^^ c) = (l.take i).map (· ^^^ c) ++ [l.getD i 0 ^^^ c] := by
  rw [List.take_succ_eq_append_getElem h, List.map_append]
  have h2 : l.getD i 0 = l[i] := by simp [List.getD, h]
  rw [h2]
  rfl
theorem upto_zero (l : List UInt8) (n : Nat) : upto l n 0 = List.replicate n 0 := by simp [upto]
theorem upto_long (k : List UInt8) (h : 64 < k.length) : upto (sum k) 64 32 = keyB k := by rw [keyB, if_pos h]; rfl
theorem upto_small (k : List UInt8) (h : ¬ 64 < k.length) : upto k 64 k.length = keyB k := by rw [keyB, if_neg h, upto, List.take_length]
theorem upto_half (d : List UInt8) : upto d 16 16 = d.take 16 := by simp [upto]
end Sha

end Go.Proofs.Ytmgnnclkjkbmdaa
end

/- Short sums and numbers as the document has them. -/
section
set_option linter.unusedSimpArgs false
set_option linter.unusedVariables false
set_option maxRecDepth 100000
namespace Go.Proofs.Ytmgnnclkjkbmdaa
open Go Go.Fw

open Sha
theorem flat1' (n : Nat) : (List.replicate n [B 0]).flatten = (List.replicate n (0 : UInt8)).map B := by
  induction n with
  | zero => rfl
  | succ n ih => rw [List.replicate_succ, List.flatten_cons, ih, List.replicate_succ]; rfl

-- fingerpostref05.Half
set_option maxHeartbeats 4000000 in
theorem ref05_Half (d : List UInt8) (hd : d.length = 32) (w : World)  : Ctr Try.prog 171 [.agg (d.map B).toArray] w (fun _ => False) (fun v _ => v = .agg ((d.take 16).map B).toArray) := by
  refine fn_start (N := 15) Try.func171 rfl rfl rfl fun ac hk => ?_
  have hs := St.start hk w
  refine wp_seq ?_
  refine wp_reg ?_
  refine s_box hs rfl rfl rfl fun ac ww g1 hs => ?_
  refine s_alloc hs ty22 rfl fun ac ww g2 hs => ?_
  refine s_end ?_
  replace hs := hs.sub (F' := [(1, _), (2, _)]) ⟨rfl, rfl, trivial⟩
  refine then_n ?_
  refine wp_seq ?_
  refine wp_reg ?_
  refine s_alloc hs ty22 rfl fun ac ww g3 hs => ?_
  refine s_end ?_
  refine then_n ?_
  refine wp_seq ?_
  refine wp_seq ?_
  refine wp_reg ?_
  refine s_q hs (c_assign (hs.ev rfl)) rfl fun ac hs => ?_
  refine s_end ?_
  refine then_n ?_
  refine wp_block ?_
  refine s_loop hs (X := Nat) (fun k => [(4, I k)]) [(1, _), (2, _), (3, _)] (fun k => [.seg g3 ((upto d 16 k).map B) 22, .seg g2 ((List.replicate 16 (0 : UInt8)).map B) 22, .seg g1 (d.map B) 40]) (fun n k => k ≤ 16 ∧ n = 16 - k) (16) (0) (⟨Nat.zero_le _, rfl⟩) ⟨rfl, rfl, rfl, rfl, trivial⟩ (by rw [upto_zero]; try rfl) ?_
  rintro n k ac ww hok hs
  simp only [List.cons_append, List.nil_append] at hs
  obtain ⟨hk, rfl⟩ := hok
  have hz := upto_len d 16 k hk (by omega)
  refine wp_seq ?_
  refine wp_seq ?_
  refine wp_reg ?_
  refine s_q hs (c_move (hs.ev rfl)) rfl fun ac hs => ?_
  refine s_q hs (c_lssI (hs.ev rfl) (hs.ev rfl)) rfl fun ac hs => ?_
  refine s_end ?_
  refine then_n ?_
  refine s_cond hs rfl (fun hc => ?_) (fun hc => ?_)
  · try simp only [decide_eq_true_eq, decide_eq_false_iff_not, Bool.not_eq_true', Bool.not_eq_false', Bool.and_eq_true, Bool.or_eq_true, Bool.or_eq_false_iff] at hc
    refine wp_skip ?_
    refine then_n ?_
    refine wp_seq ?_
    refine wp_block ?_
    refine wp_reg ?_
    refine s_q hs (c_move (hs.ev rfl)) rfl fun ac hs => ?_
    refine s_q hs (c_move (hs.ev rfl)) rfl fun ac hs => ?_
    refine s_q hs (c_idxA (j := k) un40 ty5 (hs.ev rfl) (hs.ev rfl) (by omega) (by omega)) rfl fun ac hs => ?_
    refine s_q hs (c_loadS un5 rfl (hs.ev rfl) (hs.seg (i := 2) rfl) (map_get 0 (by omega))) rfl fun ac hs => ?_
    refine s_q hs (c_idxA (j := k) un22 ty5 (hs.ev rfl) (hs.ev rfl) (by omega) (by omega)) rfl fun ac hs => ?_
    refine s_store (i := 0) hs ty5 rfl rfl rfl rfl rfl rfl (by rw [List.length_map]; omega) ((map_set _ (by omega)).trans (congrArg (List.map B) (upto_set _ _ k (by omega) (by omega)))) fun ww hs => ?_
    refine s_end ?_
    refine blk_n ?_
    refine then_n ?_
    refine wp_reg ?_
    refine s_q hs (c_move (hs.ev rfl)) rfl fun ac hs => ?_
    refine s_q hs (c_addI (hs.ev rfl) (hs.ev rfl) (by omega) (by omega)) rfl fun ac hs => ?_
    refine s_q hs (c_assign (hs.ev rfl)) rfl fun ac hs => ?_
    refine s_end ?_
    refine then_n ?_
    exact ⟨16 - (k + 1), by omega, k + 1, ⟨by omega, rfl⟩, St.next hs ⟨rfl, rfl, rfl, rfl, trivial⟩ rfl⟩
  · try simp only [decide_eq_true_eq, decide_eq_false_iff_not, Bool.not_eq_true', Bool.not_eq_false', Bool.and_eq_true, Bool.or_eq_true, Bool.or_eq_false_iff] at hc
    obtain rfl : k = 16 := by omega
    rw [upto_half] at hs
    refine wp_exit ?_
    refine then_e ?_
    refine then_e ?_
    refine blk_hit ?_
    refine then_n ?_
    refine wp_seq ?_
    refine wp_reg ?_
    refine s_q hs (c_loadW ty22 rfl (hs.ev rfl) (hs.seg (i := 0) rfl) (by simp [hd])) rfl fun ac hs => ?_
    refine s_storeW (i := 1) hs ty22 rfl rfl rfl (by simp [hd]) (all_map_B _) rfl fun ww hs => ?_
    refine s_end ?_
    replace hs := hs.sub (F' := [(2, _)]) ⟨rfl, trivial⟩
    refine then_n ?_
    refine wp_ret ?_
    refine s_ret hs rfl (.cell (hs.tmp rfl) (run_loadA ty22 rfl (hs.seg (i := 1) rfl) (List.take_of_length_le (by simp [hd])) (by simp [hd])) .nil) rfl ⟨_, rfl, hs.fr, ?_⟩
    rfl

-- fingerpostref05.Text
set_option maxHeartbeats 4000000 in
theorem ref05_Text (k : UInt8) (ps : List (Value × List UInt8)) (pv : Value) (hle : (flat ps).length ≤ 140737488355200) (w : World) (hq : RdP w pv ps) : Ctr Try.prog 159 [B k, pv] w (fun _ => False) (fun v w' => ∃ v', v = v' ∧ Has w.heap.size w' [.row v' (k :: flat ps).length ((k :: flat ps).map B) 5 1]) := by
  have hpl := hq.1.le
  obtain ⟨pad_, pcap, rfl, hpc, hpm⟩ := hq.sl
  refine fn_start (N := 22) Try.func159 rfl rfl rfl fun ac hk => ?_
  have hs := St.start hk w
  refine wp_seq ?_
  refine wp_reg ?_
  refine s_q hs (c_assign (hs.ev rfl)) rfl fun ac hs => ?_
  refine s_end ?_
  refine then_n ?_
  refine wp_seq ?_
  refine wp_reg ?_
  refine s_q hs (c_move (hs.ev rfl)) rfl fun ac hs => ?_
  refine s_bslice hs un34 ty5 (.cons (hs.ev rfl) .nil) rfl (by simp [Value.cells]) (by decide) rfl rfl fun ac ww g8 hs => ?_
  refine s_q hs (c_assign (hs.ev rfl)) rfl fun ac hs => ?_
  refine s_end ?_
  replace hs := hs.segrow (i := 0) (n := 1) (sz := 1) rfl rfl (by decide)
  replace hs := hs.sub (F' := [(1, _), (4, _), (5, _)]) ⟨rfl, rfl, rfl, trivial⟩
  refine then_n ?_
  refine wp_seq ?_
  refine wp_seq ?_
  refine wp_reg ?_
  refine s_q hs (c_assign (hs.ev rfl)) rfl fun ac hs => ?_
  refine s_end ?_
  refine then_n ?_
  refine wp_block ?_
  refine s_loop hs (X := Nat × Value) (fun x => [(5, x.2), (6, I x.1)]) [(1, _), (4, _)] (fun x => [.row x.2 (k :: flat (ps.take x.1)).length ((k :: flat (ps.take x.1)).map B) 5 1]) (fun n x => x.1 ≤ ps.length ∧ n = ps.length - x.1) (ps.length) ((0, _)) (⟨Nat.zero_le _, rfl⟩) ⟨rfl, rfl, rfl, rfl, trivial⟩ rfl ?_
  rintro n ⟨i, v⟩ ac ww hok hs
  simp only [List.cons_append, List.nil_append] at hs
  obtain ⟨hi, rfl⟩ := hok
  simp only at hi hs
  refine wp_seq ?_
  refine wp_seq ?_
  refine wp_reg ?_
  refine s_q hs (c_move (hs.ev rfl)) rfl fun ac hs => ?_
  refine s_q hs (c_move (hs.ev rfl)) rfl fun ac hs => ?_
  refine s_q hs (c_lenS un30 (hs.ev rfl)) rfl fun ac hs => ?_
  refine s_q hs (c_lssI (hs.ev rfl) (hs.ev rfl)) rfl fun ac hs => ?_
  refine s_end ?_
  refine then_n ?_
  refine s_cond hs rfl (fun hc => ?_) (fun hc => ?_)
  · try simp only [decide_eq_true_eq, decide_eq_false_iff_not, Bool.not_eq_true', Bool.not_eq_false', Bool.and_eq_true, Bool.or_eq_true, Bool.or_eq_false_iff] at hc
    have hips : i < ps.length := by omega
    obtain ⟨pb, po, pT, pf, pall, rfl, hpb, hps⟩ := hq.at' (by omega)
    have hfl := flat_take_le ps i hips
    refine wp_skip ?_
    refine then_n ?_
    refine wp_seq ?_
    refine wp_block ?_
    refine wp_reg ?_
    refine s_q hs (c_move (hs.ev rfl)) rfl fun ac hs => ?_
    refine s_q hs (c_move (hs.ev rfl)) rfl fun ac hs => ?_
    refine s_q hs (c_move (hs.ev rfl)) rfl fun ac hs => ?_
    refine s_q hs (c_idxS (j := i) un30 ty34 (hs.ev rfl) (hs.ev rfl) (by omega) (by omega)) rfl fun ac hs => ?_
    refine s_q hs (c_loadS un34 rfl (hs.ev rfl) (hs.old hpb id) (seg_get (.nilIface, []) hps (by omega))) rfl fun ac hs => ?_
    refine s_appB (i := 0) hs un34 ty5 rfl rfl rfl ((hq.get hips).fr0 hs.fr) (by simp only [List.length_cons]; omega) rfl fun ac ww v20 hf hnil hs => ?_
    refine s_q hs (c_assign (hs.ev rfl)) rfl fun ac hs => ?_
    refine s_end ?_
    refine blk_n ?_
    refine then_n ?_
    refine wp_reg ?_
    refine s_q hs (c_move (hs.ev rfl)) rfl fun ac hs => ?_
    refine s_q hs (c_addI (hs.ev rfl) (hs.ev rfl) (by omega) (by omega)) rfl fun ac hs => ?_
    refine s_q hs (c_assign (hs.ev rfl)) rfl fun ac hs => ?_
    refine s_end ?_
    refine then_n ?_
    exact ⟨ps.length - (i + 1), by (try simp only); omega, (i + 1, _), ⟨by (try simp only); omega, rfl⟩, St.next hs ⟨rfl, rfl, rfl, rfl, trivial⟩ (by rw [flat_take ps i (by omega)]; rfl)⟩
  · try simp only [decide_eq_true_eq, decide_eq_false_iff_not, Bool.not_eq_true', Bool.not_eq_false', Bool.and_eq_true, Bool.or_eq_true, Bool.or_eq_false_iff] at hc
    obtain rfl : i = ps.length := by omega
    rw [flat_full] at hs
    refine wp_exit ?_
    refine then_e ?_
    refine then_e ?_
    refine blk_hit ?_
    refine then_n ?_
    refine wp_seq ?_
    refine wp_reg ?_
    refine s_q hs (c_move (hs.ev rfl)) rfl fun ac hs => ?_
    refine s_q hs (c_assign (hs.ev rfl)) rfl fun ac hs => ?_
    refine s_end ?_
    replace hs := hs.sub (F' := [(4, _)]) ⟨rfl, trivial⟩
    refine then_n ?_
    refine wp_ret ?_
    refine s_ret hs rfl (.tmp (hs.tmp rfl) .nil) rfl ⟨_, rfl, hs.fr, ?_⟩
    exact ⟨_, rfl, hs.made⟩

-- fingerpostref05.Short
set_option maxHeartbeats 4000000 in
theorem ref05_Short (k : UInt8) (ps : List (Value × List UInt8)) (pv : Value) (hle : (flat ps).length ≤ 140737488355199) (w : World) (hq : RdP w pv ps) : Ctr Try.prog 92 [B k, pv] w (fun _ => False) (fun v _ => v = .agg ((short k (flat ps)).map B).toArray) := by
  refine fn_start (N := 10) Try.func92 rfl rfl rfl fun ac hk => ?_
  have hs := St.start hk w
  refine wp_seq ?_
  refine wp_reg ?_
  refine s_alloc hs ty22 rfl fun ac ww g4 hs => ?_
  refine s_end ?_
  refine then_n ?_
  refine wp_seq ?_
  refine wp_reg ?_
  refine s_q hs (c_move (hs.ev rfl)) rfl fun ac hs => ?_
  refine s_q hs (c_move (hs.ev rfl)) rfl fun ac hs => ?_
  refine s_call hs fu159 (.cons (hs.ev rfl) (.cons (hs.ev rfl) .nil)) (ref05_Text k ps _ (by omega) _ (hq.fr0 hs.fr)) rfl fun ac ww v7 hf hp hs => ?_
  obtain ⟨qv, rfl, hh⟩ := hp
  replace hs := hs _ hh
  refine s_call hs fu45 (.cons (hs.ev rfl) .nil) (ref04_Sum (k :: flat ps) _ (by simp only [List.length_cons]; omega) _ (RdB.row (hs.get (i := 0) rfl))) rfl fun ac ww v8 hf hp hs => ?_
  obtain rfl := hp
  replace hs := hs [] (.nil _ _)
  refine s_call hs fu171 (.cons (hs.ev rfl) .nil) (ref05_Half _ (sum_length _) _) rfl fun ac ww v9 hf hp hs => ?_
  obtain rfl := hp
  replace hs := hs [] (.nil _ _)
  refine s_storeW (i := 1) hs ty22 rfl rfl rfl (by simp) (all_map_B _) (by simp) fun ww hs => ?_
  refine s_end ?_
  replace hs := hs.sub (F' := [(4, _)]) ⟨rfl, trivial⟩
  refine then_n ?_
  refine wp_ret ?_
  refine s_ret hs rfl (.cell (hs.tmp rfl) (run_loadA ty22 rfl (hs.seg (i := 1) rfl) (List.take_of_length_le (by simp)) (by simp)) .nil) rfl ⟨_, rfl, hs.fr, ?_⟩
  rfl

-- fingerpostref06.Of
set_option maxHeartbeats 4000000 in
theorem ref06_Of (k : UInt8) (p : List UInt8) (pv : Value) (hle : p.length ≤ 140737488355199) (w : World) (hq : RdB w pv (k :: p)) : Ctr Try.prog 54 [pv] w (fun _ => False) (fun v _ => v = .agg ((short k p).map B).toArray) := by
  obtain ⟨pad_, pcap, rfl, hpc, hpm⟩ := hq.sl
  obtain ⟨pb, po, pT, pf, pall, rfl, hpb, hps⟩ := hq.at' (by simp)
  refine fn_start (N := 10) Try.func54 rfl rfl rfl fun ac hk => ?_
  have hs := St.start hk w
  refine wp_seq ?_
  refine wp_reg ?_
  refine s_alloc hs ty22 rfl fun ac ww g2 hs => ?_
  refine s_end ?_
  refine then_n ?_
  refine wp_seq ?_
  refine wp_region_rg pmix 6 (by kernel_rfl) rfl hs ?_
  simp only [List.take_succ_cons, List.take_zero]
  refine rg_q (fun ac ww h => c_move (h.ev rfl)) rfl ?_
  refine rg_q (fun ac ww h => c_idxS un34 ty5 (h.ev rfl) (h.ev rfl) rfl (by simp)) rfl ?_
  refine rg_q (fun ac ww h => c_loadS un5 rfl (h.ev rfl) (h.blk (hs.old hpb id)) (seg_get 0 hps (by simp))) rfl ?_
  refine rg_q (fun ac ww h => c_move (h.ev rfl)) rfl ?_
  refine rg_q (fun ac ww h => c_sliceL (i := 1) un34 ty5 (h.ev rfl) (h.ev rfl) (by omega) (by simp)) rfl ?_
  refine rg_bslice un30 ty34 (fun ac ww h => (.cons (h.ev rfl) .nil)) rfl (by simp [Value.cells]) (by decide) rfl rfl ?_
  refine rg_nil fun ac ww L' hf hfe hs => ?_
  simp only [List.drop_succ_cons, List.drop_zero]
  obtain ⟨v8, L8, M8, h8, e8, rfl, rfl⟩ := hfe
  replace hs := hs.add h8
  obtain ⟨g8, rfl, rfl⟩ := e8
  refine s_call hs fu92 (.cons (hs.ev rfl) (.cons (hs.ev rfl) .nil)) (ref05_Short k [(_, p)] _ (by simpa [flat] using hle) _ (RdP.seg (ps := [(_, p)]) (hs.seg (i := 0) rfl) (by show 1 ≤ maxLen; decide) (.cons ((RdB.cut (i := 1) hq (by simp)).fr0 hs.fr) .nil))) rfl fun ac ww v9 hf hp hs => ?_
  obtain rfl := hp
  replace hs := hs [] (.nil _ _)
  rw [show flat [(_, p)] = p from List.append_nil p] at hs
  refine s_storeW (i := 1) hs ty22 rfl rfl rfl (by simp) (all_map_B _) (by simp) fun ww hs => ?_
  refine s_end ?_
  replace hs := hs.sub (F' := [(2, _)]) ⟨rfl, trivial⟩
  refine then_n ?_
  refine wp_ret ?_
  refine s_ret hs rfl (.cell (hs.tmp rfl) (run_loadA ty22 rfl (hs.seg (i := 1) rfl) (List.take_of_length_le (by simp)) (by simp)) .nil) rfl ⟨_, rfl, hs.fr, ?_⟩
  rfl

-- fingerpostref05.Num
set_option maxHeartbeats 4000000 in
theorem ref05_Num (x : UInt64) (s : Nat) (hs8 : s ≤ 8) (w : World)  : Ctr Try.prog 173 [V x, I s] w (fun _ => False) (fun v w' => ∃ g, v = .slice (some ⟨g, 0, none⟩) s s ∧ Has w.heap.size w' [.seg g ((num x s s).map B) 5]) := by
  refine fn_start (N := 24) Try.func173 rfl rfl rfl fun ac hk => ?_
  have hs := St.start hk w
  refine wp_seq ?_
  refine wp_reg ?_
  refine s_q hs (c_assign (hs.ev rfl)) rfl fun ac hs => ?_
  refine s_end ?_
  refine then_n ?_
  refine wp_seq ?_
  refine wp_reg ?_
  refine s_q hs (c_move (hs.ev rfl)) rfl fun ac hs => ?_
  refine s_make (n := s) hs un34 ty5 rfl rfl rfl rfl (by omega) (by unfold maxLen; omega) rfl fun ac ww g8 hs => ?_
  refine s_q hs (c_assign (hs.ev rfl)) rfl fun ac hs => ?_
  refine s_end ?_
  replace hs := hs.sub (F' := [(0, _), (1, _), (4, _), (5, _)]) ⟨rfl, rfl, rfl, rfl, trivial⟩
  refine then_n ?_
  refine wp_seq ?_
  refine wp_seq ?_
  refine wp_reg ?_
  refine s_q hs (c_move (hs.ev rfl)) rfl fun ac hs => ?_
  refine s_q hs (c_subI (hs.ev rfl) (hs.ev rfl) (by omega) (by omega)) rfl fun ac hs => ?_
  refine s_q hs (c_assign (hs.ev rfl)) rfl fun ac hs => ?_
  refine s_end ?_
  replace hs := hs.sub (F' := [(0, _), (4, _), (5, _), (6, _)]) ⟨rfl, rfl, rfl, rfl, trivial⟩
  refine then_n ?_
  refine wp_block ?_
  refine s_loop hs (X := Nat) (fun k => [(0, V (qd x k)), (6, I ((s : Int) - 1 - (k : Int)))]) [(4, _), (5, _)] (fun k => [.seg g8 ((num x s k).map B) 5]) (fun n k => k ≤ s ∧ n = s - k) (s) (0) (⟨Nat.zero_le _, rfl⟩) ⟨rfl, (congrArg (fun z => some (I z)) (by omega)), rfl, rfl, trivial⟩ (by rw [num_zero _ _ hs8, flat1']; try rfl) ?_
  rintro n k ac ww hok hs
  simp only [List.cons_append, List.nil_append] at hs
  obtain ⟨hk, rfl⟩ := hok
  have hz := num_len x s k hk hs8
  refine wp_seq ?_
  refine wp_seq ?_
  refine wp_reg ?_
  refine s_q hs (c_move (hs.ev rfl)) rfl fun ac hs => ?_
  refine s_q hs (c_geqI (hs.ev rfl) (hs.ev rfl)) rfl fun ac hs => ?_
  refine s_end ?_
  refine then_n ?_
  refine s_cond hs rfl (fun hc => ?_) (fun hc => ?_)
  · try simp only [decide_eq_true_eq, decide_eq_false_iff_not, Bool.not_eq_true', Bool.not_eq_false', Bool.and_eq_true, Bool.or_eq_true, Bool.or_eq_false_iff] at hc
    refine wp_skip ?_
    refine then_n ?_
    refine wp_seq ?_
    refine wp_block ?_
    refine wp_seq ?_
    refine wp_reg ?_
    refine s_q hs (c_move (hs.ev rfl)) rfl fun ac hs => ?_
    refine s_q hs (c_move (hs.ev rfl)) rfl fun ac hs => ?_
    refine s_q hs (c_move (hs.ev rfl)) rfl fun ac hs => ?_
    refine s_q hs (c_remV (hs.ev rfl) (St.ev (v := V 256) hs rfl) (by decide)) rfl fun ac hs => ?_
    refine s_q hs (c_cvVB un210 un5 (hs.ev rfl)) rfl fun ac hs => ?_
    refine s_q hs (c_idxS (j := s - 1 - k) un34 ty5 (hs.ev rfl) (hs.ev rfl) (by omega) (by omega)) rfl fun ac hs => ?_
    refine s_store (i := 0) hs ty5 rfl rfl rfl rfl rfl rfl (by rw [List.length_map]; omega) ((map_set _ (by omega)).trans (congrArg (List.map B) ((congrArg (fun z => List.set _ _ z) (qd_byte _ k (by omega))).trans (num_set x s k (by omega) hs8)))) fun ww hs => ?_
    refine s_end ?_
    refine then_n ?_
    refine wp_reg ?_
    refine s_q hs (c_move (hs.ev rfl)) rfl fun ac hs => ?_
    refine s_q hs (c_quoV (hs.ev rfl) (St.ev (v := V 256) hs rfl) (by decide)) rfl fun ac hs => ?_
    refine s_q hs (c_assign (hs.ev rfl)) rfl fun ac hs => ?_
    refine s_end ?_
    refine blk_n ?_
    refine then_n ?_
    refine wp_reg ?_
    refine s_q hs (c_move (hs.ev rfl)) rfl fun ac hs => ?_
    refine s_q hs (c_subI (hs.ev rfl) (hs.ev rfl) (by omega) (by omega)) rfl fun ac hs => ?_
    refine s_q hs (c_assign (hs.ev rfl)) rfl fun ac hs => ?_
    refine s_end ?_
    refine then_n ?_
    exact ⟨s - (k + 1), by omega, k + 1, ⟨by omega, rfl⟩, St.next hs ⟨rfl, (congrArg (fun z => some (I z)) (by omega)), rfl, rfl, trivial⟩ rfl⟩
  · try simp only [decide_eq_true_eq, decide_eq_false_iff_not, Bool.not_eq_true', Bool.not_eq_false', Bool.and_eq_true, Bool.or_eq_true, Bool.or_eq_false_iff] at hc
    obtain rfl : k = s := by omega
    refine wp_exit ?_
    refine then_e ?_
    refine then_e ?_
    refine blk_hit ?_
    refine then_n ?_
    refine wp_seq ?_
    refine wp_reg ?_
    refine s_q hs (c_move (hs.ev rfl)) rfl fun ac hs => ?_
    refine s_q hs (c_assign (hs.ev rfl)) rfl fun ac hs => ?_
    refine s_end ?_
    replace hs := hs.sub (F' := [(4, _)]) ⟨rfl, trivial⟩
    refine then_n ?_
    refine wp_ret ?_
    refine s_ret hs rfl (.tmp (hs.tmp rfl) .nil) rfl ⟨_, rfl, hs.fr, ?_⟩
    exact ⟨g8, rfl, hs.made⟩

end Go.Proofs.Ytmgnnclkjkbmdaa
end

/- A message, its digits, and why of two unlike messages each has a lower digit. -/
section
set_option linter.unusedSimpArgs false
set_option linter.unusedVariables false
set_option maxRecDepth 100000
namespace Go.Proofs.Ytmgnnclkjkbmdaa



/-! A message's digits. -/
namespace Ots
def dig (m : List UInt8) (i : Nat) : UInt8 := m.getD (i / 4) 0 >>> UInt8.ofNat (6 - 2 * (i % 4)) &&& 3
/-- What is left, over the first n digits. -/
def left (m : List UInt8) : Nat → Nat
  | 0 => 0
  | n + 1 => left m n + (3 - (dig m n).toNat)
def chk (m : List UInt8) (i : Nat) : UInt8 := UInt8.ofNat (left m 64 / 2 ^ (6 - 2 * i) % 4)
def dgt (m : List UInt8) (i : Nat) : UInt8 := if i < 64 then dig m i else chk m (i - 64)
def digits (m : List UInt8) : List UInt8 := (List.range 68).map (dgt m)
@[simp] theorem digits_length (m : List UInt8) : (digits m).length = 68 := by simp [digits]
theorem dig_le (m : List UInt8) (i : Nat) : (dig m i).toNat ≤ 3 := by
  unfold dig
  rw [UInt8.toNat_and]
  exact Nat.and_le_right
theorem left_le (m : List UInt8) : ∀ n, left m n ≤ 3 * n
  | 0 => by simp [left]
  | n + 1 => by have := left_le m n; simp only [left]; omega
theorem chk_toNat (m : List UInt8) (i : Nat) : (chk m i).toNat = left m 64 / 2 ^ (6 - 2 * i) % 4 := by
  unfold chk
  rw [UInt8.toNat_ofNat']
  omega
theorem dgt_le (m : List UInt8) (i : Nat) : (dgt m i).toNat ≤ 3 := by
  unfold dgt
  split
  · exact dig_le m i
  · rw [chk_toNat]; omega
theorem dgt_getD (m : List UInt8) (i : Nat) (h : i < 68) : (digits m).getD i 0 = dgt m i := by simp [digits, h]

/-! Of two unlike messages each has a lower digit. -/
theorem byte_parts (x y : UInt8) (h : ∀ k, k < 4 → x >>> UInt8.ofNat (6 - 2 * k) &&& 3 = y >>> UInt8.ofNat (6 - 2 * k) &&& 3) : x = y := by
  have h0 := h 0 (by omega)
  have h1 := h 1 (by omega)
  have h2 := h 2 (by omega)
  have h3 := h 3 (by omega)
  have e : ∀ (z : UInt8) (n : Nat), n < 8 → (z >>> UInt8.ofNat n &&& 3).toNat = z.toNat / 2 ^ n % 4 := by
    intro z n hn
    rw [UInt8.toNat_and, UInt8.toNat_shiftRight]
    rw [show (3 : UInt8).toNat = 2 ^ 2 - 1 from rfl, Nat.and_two_pow_sub_one_eq_mod]
    simp [Nat.shiftRight_eq_div_pow, Nat.mod_eq_of_lt (a := n) (b := 256) (by omega), Nat.mod_eq_of_lt hn]
  have g0 := congrArg UInt8.toNat h0
  have g1 := congrArg UInt8.toNat h1
  have g2 := congrArg UInt8.toNat h2
  have g3 := congrArg UInt8.toNat h3
  simp only [e _ _ (show 6 - 2 * 0 < 8 by omega), e _ _ (show 6 - 2 * 1 < 8 by omega), e _ _ (show 6 - 2 * 2 < 8 by omega), e _ _ (show 6 - 2 * 3 < 8 by omega)] at g0 g1 g2 g3
  have hx := x.toNat_lt
  have hy := y.toNat_lt
  apply UInt8.toNat_inj.1
  simp at g0 g1 g2 g3
  omega
theorem same_of_digs (a b : List UInt8) (ha : a.length = 16) (hb : b.length = 16) (h : ∀ i, i < 64 → dig a i = dig b i) : a = b := by
  apply List.ext_getElem (by omega)
  intro i h1 h2
  have := byte_parts (a.getD i 0) (b.getD i 0) fun k hk => by
    have := h (4 * i + k) (by omega)
    unfold dig at this
    rw [show (4 * i + k) / 4 = i by omega, show (4 * i + k) % 4 = k by omega] at this
    exact this
  simpa [h1, h2] using this
theorem left_mono (a b : List UInt8) : ∀ n, (∀ i, i < n → (dig b i).toNat ≤ (dig a i).toNat) → left a n ≤ left b n ∧ ((∃ i, i < n ∧ (dig b i).toNat < (dig a i).toNat) → left a n < left b n)
  | 0, _ => ⟨Nat.le_refl _, fun ⟨i, hi, _⟩ => by omega⟩
  | n + 1, h => by
    have ih := left_mono a b n fun i hi => h i (by omega)
    have hn := h n (by omega)
    have h1 := dig_le a n
    have h2 := dig_le b n
    simp only [left]
    refine ⟨by omega, ?_⟩
    rintro ⟨i, hi, hlt⟩
    by_cases e : i = n
    · subst e; omega
    · have := ih.2 ⟨i, by omega, hlt⟩
      omega
theorem digits4 (x y : Nat) (hx : x < 256) (hy : y < 256) (h : x < y) : ∃ i, i < 4 ∧ x / 2 ^ (6 - 2 * i) % 4 < y / 2 ^ (6 - 2 * i) % 4 := by
  apply Classical.byContradiction
  intro hn
  have g : ∀ i, i < 4 → y / 2 ^ (6 - 2 * i) % 4 ≤ x / 2 ^ (6 - 2 * i) % 4 := fun i hi => by
    apply Classical.byContradiction
    intro h2
    exact hn ⟨i, hi, by omega⟩
  have g0 := g 0 (by omega)
  have g1 := g 1 (by omega)
  have g2 := g 2 (by omega)
  have g3 := g 3 (by omega)
  simp at g0 g1 g2 g3
  have dec : ∀ z : Nat, z < 256 → z = 64 * (z / 64 % 4) + 16 * (z / 16 % 4) + 4 * (z / 4 % 4) + z % 4 := fun z hz => by omega
  have e1 := dec x hx
  have e2 := dec y hy
  generalize x / 64 % 4 = x3 at *
  generalize x / 16 % 4 = x2 at *
  generalize x / 4 % 4 = x1 at *
  generalize x % 4 = x0 at *
  generalize y / 64 % 4 = y3 at *
  generalize y / 16 % 4 = y2 at *
  generalize y / 4 % 4 = y1 at *
  generalize y % 4 = y0 at *
  omega
theorem lower (a b : List UInt8) (ha : a.length = 16) (hb : b.length = 16) (hne : a ≠ b) : ∃ i, i < 68 ∧ (dgt a i).toNat < (dgt b i).toNat := by
  by_cases h : ∃ i, i < 64 ∧ (dig a i).toNat < (dig b i).toNat
  · obtain ⟨i, hi, hlt⟩ := h
    exact ⟨i, by omega, by simp only [dgt, if_pos hi]; exact hlt⟩
  · have hge : ∀ i, i < 64 → (dig b i).toNat ≤ (dig a i).toNat := fun i hi => by
      apply Classical.byContradiction
      intro h2
      exact h ⟨i, hi, by omega⟩
    have hex : ∃ i, i < 64 ∧ (dig b i).toNat < (dig a i).toNat := by
      apply Classical.byContradiction
      intro h2
      apply hne
      refine same_of_digs a b ha hb fun i hi => UInt8.toNat_inj.1 ?_
      have h3 := hge i hi
      have h4 : ¬ (dig b i).toNat < (dig a i).toNat := fun h5 => h2 ⟨i, hi, h5⟩
      omega
    have hl := (left_mono a b 64 hge).2 hex
    have l1 := left_le a 64
    have l2 := left_le b 64
    obtain ⟨i, hi, hlt⟩ := digits4 (left a 64) (left b 64) (by omega) (by omega) hl
    refine ⟨64 + i, by omega, ?_⟩
    simp only [dgt, if_neg (show ¬ 64 + i < 64 by omega), show 64 + i - 64 = i by omega, chk_toNat]
    exact hlt
/-- Is some digit of the first n lower? -/
def low (a b : List UInt8) (n : Nat) : Bool := (List.range n).any fun i => decide ((dgt a i).toNat < (dgt b i).toNat)
theorem low_succ (a b : List UInt8) (n : Nat) : low a b (n + 1) = (low a b n || decide ((dgt a n).toNat < (dgt b n).toNat)) := by simp [low, List.range_succ]
theorem low_all (a b : List UInt8) (ha : a.length = 16) (hb : b.length = 16) : low a b 68 = !decide (a = b) := by
  by_cases e : a = b
  · subst e
    simp [low]
  · obtain ⟨i, hi, h⟩ := lower a b ha hb e
    have : low a b 68 = true := List.any_eq_true.2 ⟨i, by simpa using hi, by simpa using h⟩
    simp [this, e]
end Ots

end Go.Proofs.Ytmgnnclkjkbmdaa
end

section
set_option linter.unusedSimpArgs false
set_option linter.unusedVariables false
set_option maxRecDepth 100000
namespace Go.Proofs.Ytmgnnclkjkbmdaa
open Go Go.Fw

open Ots
theorem filledB {f : Nat → UInt8} {n k : Nat} (h : k < n) {x : UInt8} (hx : x = f k) : ((filled f 0 n k).map B).take (0 + k * 1) ++ (B x).cells.toList ++ ((filled f 0 n k).map B).drop (0 + k * 1 + 1) = (filled f 0 n (k + 1)).map B := by
  rw [← filled_set f 0 h hx]
  exact map_set x (by rw [filled_len f 0 (by omega)]; exact h)
theorem filledB_at {f : Nat → UInt8} {n k j : Nat} (h : j < k) (hk : k ≤ n) : ((filled f 0 n k).map B)[0 + j * 1]? = some (B (f j)) := by
  have := map_get (f := B) (l := filled f 0 n k) (i := j) 0 (by rw [filled_len f 0 hk]; omega)
  rw [this, filled_get f 0 h hk]

-- ots.Digits
set_option maxHeartbeats 4000000 in
theorem ots_Digits (m : List UInt8) (hm : m.length = 16) (w : World)  : Ctr Try.prog 36 [.agg (m.map B).toArray] w (fun _ => False) (fun v _ => v = .agg ((digits m).map B).toArray) := by
  refine fn_start (N := 45) Try.func36 rfl rfl rfl fun ac hk => ?_
  have hs := St.start hk w
  refine wp_seq ?_
  refine wp_reg ?_
  refine s_box hs rfl rfl rfl fun ac ww g1 hs => ?_
  refine s_alloc hs ty23 rfl fun ac ww g2 hs => ?_
  refine s_end ?_
  replace hs := hs.sub (F' := [(1, _), (2, _)]) ⟨rfl, rfl, trivial⟩
  refine then_n ?_
  refine wp_seq ?_
  refine wp_reg ?_
  refine s_alloc hs ty23 rfl fun ac ww g3 hs => ?_
  refine s_end ?_
  refine then_n ?_
  refine wp_seq ?_
  refine wp_reg ?_
  refine s_q hs (c_assign (hs.ev rfl)) rfl fun ac hs => ?_
  refine s_end ?_
  refine then_n ?_
  refine wp_seq ?_
  refine wp_seq ?_
  refine wp_reg ?_
  refine s_q hs (c_move (hs.ev rfl)) rfl fun ac hs => ?_
  refine s_end ?_
  refine then_n ?_
  refine wp_block ?_
  refine s_loop hs (X := Nat) (fun k => [(8, I k), (4, I (left m k))]) [(1, _), (2, _), (3, _)] (fun k => [.seg g3 ((filled (dgt m) 0 68 k).map B) 23, _, _]) (fun n k => k ≤ 64 ∧ n = 64 - k) (64) (0) (⟨by omega, rfl⟩) ⟨rfl, rfl, rfl, rfl, rfl, trivial⟩ (congrArg (fun z => [Ent.seg g3 (List.map B z) 23, _, _]) (filled_zero _ _ _).symm) ?_
  rintro n k ac ww hok hs
  simp only [List.cons_append, List.nil_append] at hs
  refine wp_seq ?_
  refine wp_reg ?_
  refine s_q hs (c_lssI (hs.ev rfl) (hs.ev rfl)) rfl fun ac hs => ?_
  refine s_end ?_
  refine then_n ?_
  refine wp_seq ?_
  refine s_cond hs rfl (fun hc => ?_) (fun hc => ?_)
  · try simp only [decide_eq_true_eq, decide_eq_false_iff_not, Bool.not_eq_true', Bool.not_eq_false', Bool.and_eq_true, Bool.or_eq_true, Bool.or_eq_false_iff] at hc
    obtain ⟨hk, rfl⟩ := hok
    have hdl := dig_le m k
    have hll := left_le m k
    refine wp_skip ?_
    refine then_n ?_
    refine wp_seq ?_
    refine wp_block ?_
    refine wp_seq ?_
    refine wp_reg ?_
    refine s_q hs (c_move (hs.ev rfl)) rfl fun ac hs => ?_
    refine s_q hs (c_assign (hs.ev rfl)) rfl fun ac hs => ?_
    refine s_end ?_
    refine then_n ?_
    refine wp_seq ?_
    refine wp_reg ?_
    refine s_q hs (c_move (hs.ev rfl)) rfl fun ac hs => ?_
    refine s_q hs (c_quoI (hs.ev rfl) (hs.ev rfl) (by omega) (by omega) (by omega)) rfl fun ac hs => ?_
    refine s_q hs (c_idxA (j := k / 4) un54 ty5 (hs.ev rfl) (hs.ev rfl) (by omega) (by omega)) rfl fun ac hs => ?_
    refine s_q hs (c_loadS un5 rfl (hs.ev rfl) (hs.seg (i := 2) rfl) (map_get 0 (by omega))) rfl fun ac hs => ?_
    refine s_q hs (c_move (hs.ev rfl)) rfl fun ac hs => ?_
    refine s_q hs (c_remI (hs.ev rfl) (hs.ev rfl) (by omega) (by omega)) rfl fun ac hs => ?_
    refine s_q hs (c_mulI (hs.ev rfl) (hs.ev rfl) (by omega) (by omega)) rfl fun ac hs => ?_
    refine s_q hs (c_subI (hs.ev rfl) (hs.ev rfl) (by omega) (by omega)) rfl fun ac hs => ?_
    refine s_q hs (c_shrB (n := 6 - 2 * (k % 4)) (hs.ev rfl) ((hs.ev rfl).trans (congrArg I (by omega))) (by omega)) rfl fun ac hs => ?_
    refine s_q hs (c_andB (hs.ev rfl) (St.ev (v := B 3) hs rfl)) rfl fun ac hs => ?_
    change St 45 ((20, B (dig m k)) :: _) _ _ _ _ _ at hs
    refine s_q hs (c_assign (hs.ev rfl)) rfl fun ac hs => ?_
    refine s_end ?_
    refine then_n ?_
    refine wp_seq ?_
    refine wp_reg ?_
    refine s_q hs (c_move (hs.ev rfl)) rfl fun ac hs => ?_
    refine s_q hs (c_move (hs.ev rfl)) rfl fun ac hs => ?_
    refine s_q hs (c_idxA (j := k) un23 ty5 (hs.ev rfl) (hs.ev rfl) (by omega) (by omega)) rfl fun ac hs => ?_
    refine s_store (i := 0) hs ty5 rfl rfl rfl rfl rfl rfl (by rw [List.length_map, filled_len _ _ (by omega)]; omega) (filledB (by omega) (by simp [dgt]; intro h; omega)) fun ww hs => ?_
    refine s_end ?_
    refine then_n ?_
    refine wp_reg ?_
    refine s_q hs (c_move (hs.ev rfl)) rfl fun ac hs => ?_
    refine s_q hs (c_move (hs.ev rfl)) rfl fun ac hs => ?_
    refine s_q hs (c_cvBI un5 un3 (hs.ev rfl)) rfl fun ac hs => ?_
    refine s_q hs (c_subI (hs.ev rfl) (hs.ev rfl) (by omega) (by omega)) rfl fun ac hs => ?_
    refine s_q hs (c_addI (hs.ev rfl) (hs.ev rfl) (by omega) (by omega)) rfl fun ac hs => ?_
    refine s_q hs (c_assign (hs.ev rfl)) rfl fun ac hs => ?_
    refine s_end ?_
    refine blk_n ?_
    refine then_n ?_
    refine wp_reg ?_
    refine s_q hs (c_addI (hs.ev rfl) (hs.ev rfl) (by omega) (by omega)) rfl fun ac hs => ?_
    refine s_q hs (c_move (hs.ev rfl)) rfl fun ac hs => ?_
    refine s_end ?_
    refine then_n ?_
    exact ⟨64 - (k + 1), by omega, k + 1, ⟨by omega, rfl⟩, St.next hs ⟨rfl, (congrArg (fun z => some (I z)) (by have := dig_le m k; simp only [left]; omega)), rfl, rfl, rfl, trivial⟩ rfl⟩
  · try simp only [decide_eq_true_eq, decide_eq_false_iff_not, Bool.not_eq_true', Bool.not_eq_false', Bool.and_eq_true, Bool.or_eq_true, Bool.or_eq_false_iff] at hc
    obtain ⟨hk, rfl⟩ := hok
    obtain rfl : k = 64 := by omega
    refine wp_exit ?_
    refine then_e ?_
    refine then_e ?_
    refine blk_hit ?_
    refine then_n ?_
    refine wp_seq ?_
    refine wp_seq ?_
    refine wp_reg ?_
    refine s_q hs (c_move (hs.ev rfl)) rfl fun ac hs => ?_
    refine s_end ?_
    replace hs := hs.sub (F' := [(2, _), (3, _), (4, _), (30, _)]) ⟨rfl, rfl, rfl, rfl, trivial⟩
    refine then_n ?_
    refine wp_block ?_
    refine s_loop hs (X := Nat) (fun k => [(30, I k)]) [(2, _), (3, _), (4, _)] (fun k => [.seg g3 ((filled (dgt m) 0 68 (64 + k)).map B) 23, _, _]) (fun n k => k ≤ 4 ∧ n = 4 - k) (4) (0) (⟨by omega, rfl⟩) ⟨rfl, rfl, rfl, rfl, trivial⟩ rfl ?_
    rintro n k ac ww hok hs
    simp only [List.cons_append, List.nil_append] at hs
    refine wp_seq ?_
    refine wp_reg ?_
    refine s_q hs (c_lssI (hs.ev rfl) (hs.ev rfl)) rfl fun ac hs => ?_
    refine s_end ?_
    refine then_n ?_
    refine wp_seq ?_
    refine s_cond hs rfl (fun hc => ?_) (fun hc => ?_)
    · try simp only [decide_eq_true_eq, decide_eq_false_iff_not, Bool.not_eq_true', Bool.not_eq_false', Bool.and_eq_true, Bool.or_eq_true, Bool.or_eq_false_iff] at hc
      obtain ⟨hk, rfl⟩ := hok
      have hll := left_le m 64
      refine wp_skip ?_
      refine then_n ?_
      refine wp_seq ?_
      refine wp_block ?_
      refine wp_seq ?_
      refine wp_reg ?_
      refine s_q hs (c_move (hs.ev rfl)) rfl fun ac hs => ?_
      refine s_q hs (c_assign (hs.ev rfl)) rfl fun ac hs => ?_
      refine s_end ?_
      refine then_n ?_
      refine wp_reg ?_
      refine s_q hs (c_move (hs.ev rfl)) rfl fun ac hs => ?_
      refine s_q hs (c_addI (hs.ev rfl) (hs.ev rfl) (by omega) (by omega)) rfl fun ac hs => ?_
      refine s_q hs (c_move (hs.ev rfl)) rfl fun ac hs => ?_
      refine s_q hs (c_move (hs.ev rfl)) rfl fun ac hs => ?_
      refine s_q hs (c_mulI (hs.ev rfl) (hs.ev rfl) (by omega) (by omega)) rfl fun ac hs => ?_
      refine s_q hs (c_subI (hs.ev rfl) (hs.ev rfl) (by omega) (by omega)) rfl fun ac hs => ?_
      obtain ⟨q, hq1, hq2⟩ : ∃ q : Nat, q = left m 64 / 2 ^ (6 - 2 * k) ∧ q ≤ left m 64 := ⟨_, rfl, Nat.div_le_self _ _⟩
      have hq : (left m 64 : Int) / 2 ^ (6 - 2 * k) = (q : Int) := by rw [hq1]; simp
      refine s_q hs (c_shrI (n := 6 - 2 * k) (hs.ev rfl) ((hs.ev rfl).trans (congrArg I (by omega))) (by omega)) rfl fun ac hs => ?_
      refine s_q hs (c_and3I ((hs.ev rfl).trans (congrArg I hq)) (hs.ev rfl) (by omega) (by omega)) rfl fun ac hs => ?_
      refine s_q hs (c_cvIB un3 un5 (hs.ev rfl)) rfl fun ac hs => ?_
      refine s_q hs (c_idxA (j := 64 + k) un23 ty5 (hs.ev rfl) (hs.ev rfl) (by omega) (by omega)) rfl fun ac hs => ?_
      refine s_store (i := 0) hs ty5 rfl rfl rfl rfl rfl rfl (by rw [List.length_map, filled_len _ _ (by omega)]; omega) (filledB (by omega) (by simp only [dgt, if_neg (show ¬ 64 + k < 64 by omega), show 64 + k - 64 = k by omega, chk, i8, ← hq1]; congr 1; omega)) fun ww hs => ?_
      refine s_end ?_
      refine blk_n ?_
      refine then_n ?_
      refine wp_reg ?_
      refine s_q hs (c_addI (hs.ev rfl) (hs.ev rfl) (by omega) (by omega)) rfl fun ac hs => ?_
      refine s_q hs (c_move (hs.ev rfl)) rfl fun ac hs => ?_
      refine s_end ?_
      refine then_n ?_
      exact ⟨4 - (k + 1), by omega, k + 1, ⟨by omega, rfl⟩, St.next hs ⟨rfl, rfl, rfl, rfl, trivial⟩ rfl⟩
    · try simp only [decide_eq_true_eq, decide_eq_false_iff_not, Bool.not_eq_true', Bool.not_eq_false', Bool.and_eq_true, Bool.or_eq_true, Bool.or_eq_false_iff] at hc
      obtain ⟨hk, rfl⟩ := hok
      obtain rfl : k = 4 := by omega
      refine wp_exit ?_
      refine then_e ?_
      refine then_e ?_
      refine blk_hit ?_
      refine then_n ?_
      refine wp_seq ?_
      refine wp_reg ?_
      refine s_q hs (c_loadW ty23 rfl (hs.ev rfl) (hs.seg (i := 0) rfl) (by rw [List.length_map, filled_len _ _ (by omega)])) rfl fun ac hs => ?_
      refine s_storeW (i := 1) hs ty23 rfl rfl rfl (by rw [List.length_map, filled_len _ _ (by omega)]) (by simp [Value.oneCell']) (by simp) fun ww hs => ?_
      refine s_end ?_
      replace hs := hs.sub (F' := [(2, _)]) ⟨rfl, trivial⟩
      refine then_n ?_
      refine wp_ret ?_
      refine s_ret hs rfl (.cell (hs.tmp rfl) (run_loadA ty23 rfl (hs.seg (i := 1) rfl) (List.take_of_length_le (by simp [filled])) (by simp [filled])) .nil) rfl ⟨_, rfl, hs.fr, ?_⟩
      exact congrArg (fun z => Value.agg (List.map B z).toArray) (filled_full _ _ _)

-- fingerpostlaw10.awake
set_option maxHeartbeats 4000000 in
theorem law10_awake  (w : World)  : Ctr Try.prog 37 [] w (fun _ => False) (fun v _ => v = .bool true) := by
  refine fn_start (N := 19) Try.func37 rfl rfl rfl fun ac hk => ?_
  have hs := St.start hk w
  refine wp_seq ?_
  refine wp_reg ?_
  refine s_q hs (c_assign (hs.ev rfl)) rfl fun ac hs => ?_
  refine s_end ?_
  refine then_n ?_
  refine wp_seq ?_
  refine wp_reg ?_
  refine s_q hs (c_buildA ty54 un54 ty5 (zc := (List.replicate 16 (0 : UInt8)).map B) (vs := []) .nil (by simp) (by simp [flatCells]) rfl) rfl fun ac hs => ?_
  refine s_call hs fu36 (.cons (hs.ev rfl) .nil) (ots_Digits (List.replicate 16 0) (by simp) _) rfl fun ac ww v3 hf hp hs => ?_
  obtain rfl := hp
  replace hs := hs [] (.nil _ _)
  refine s_alloc hs ty23 rfl fun ac ww g1 hs => ?_
  refine s_storeW (i := 0) hs ty23 rfl rfl rfl (by simp) (by simp [Value.oneCell']) (by simp) fun ww hs => ?_
  refine s_end ?_
  replace hs := hs.sub (F' := [(0, _), (1, _)]) ⟨rfl, rfl, trivial⟩
  refine then_n ?_
  refine wp_seq ?_
  refine wp_reg ?_
  refine s_q hs (c_idxA un23 ty5 (hs.ev rfl) (hs.ev rfl) rfl (by decide)) rfl fun ac hs => ?_
  refine s_q hs (c_loadS un5 rfl (hs.ev rfl) (hs.seg (i := 0) rfl) (map_get 0 (by simp))) rfl fun ac hs => ?_
  refine s_q hs (c_eqlB (hs.ev rfl) (St.ev (v := B 0) hs rfl)) rfl fun ac hs => ?_
  refine s_q hs (c_move (hs.ev rfl)) rfl fun ac hs => ?_
  refine s_g hs rfl rfl (fun hg => c_idxA un23 ty5 (hs.ev rfl) (hs.ev rfl) rfl (by decide)) rfl fun ac hs => ?_
  refine s_g hs rfl rfl (fun hg => c_loadS un5 rfl (gev (hs.ev rfl) hg) (hs.seg (i := 0) rfl) (map_get 0 (by simp))) rfl fun ac hs => ?_
  refine s_g hs rfl rfl (fun hg => c_eqlB (gev (hs.ev rfl) hg) (St.ev (v := B 3) hs rfl)) rfl fun ac hs => ?_
  refine s_q hs (c_and (hs.ev rfl) (hs.ev rfl)) rfl fun ac hs => ?_
  refine s_q hs (c_move (hs.ev rfl)) rfl fun ac hs => ?_
  refine s_g hs rfl rfl (fun hg => c_idxA un23 ty5 (hs.ev rfl) (hs.ev rfl) rfl (by decide)) rfl fun ac hs => ?_
  refine s_g hs rfl rfl (fun hg => c_loadS un5 rfl (gev (hs.ev rfl) hg) (hs.seg (i := 0) rfl) (map_get 0 (by simp))) rfl fun ac hs => ?_
  refine s_g hs rfl rfl (fun hg => c_eqlB (gev (hs.ev rfl) hg) (St.ev (v := B 0) hs rfl)) rfl fun ac hs => ?_
  refine s_q hs (c_and (hs.ev rfl) (hs.ev rfl)) rfl fun ac hs => ?_
  refine s_q hs (c_move (hs.ev rfl)) rfl fun ac hs => ?_
  refine s_q hs (c_pick (hs.ev rfl) (hs.ev rfl) (hs.ev rfl)) rfl fun ac hs => ?_
  refine s_q hs (c_assign (hs.ev rfl)) rfl fun ac hs => ?_
  refine s_end ?_
  replace hs := hs.sub (F' := [(0, _)]) ⟨rfl, trivial⟩
  refine then_n ?_
  refine wp_ret ?_
  refine s_ret hs rfl (.tmp (hs.tmp rfl) .nil) rfl ⟨_, rfl, hs.fr, ?_⟩
  rfl

end Go.Proofs.Ytmgnnclkjkbmdaa
end

/- Names as bytes, links. -/
section
set_option linter.unusedSimpArgs false
set_option linter.unusedVariables false
set_option maxRecDepth 100000
namespace Go.Proofs.Ytmgnnclkjkbmdaa
open Go Go.Fw

open Sha
/-- The bytes of a name. -/
def headB (d : Int) (i : UInt32) : List UInt8 := i8 d :: be32 i
@[simp] theorem headB_length (d : Int) (i : UInt32) : (headB d i).length = 5 := rfl
/-- The text of a link, and the link. -/
def linkT (d : Int) (i : UInt32) (ch st : Int) (s : List UInt8) : List UInt8 := headB d i ++ [i8 ch, i8 st] ++ s
def link (d : Int) (i : UInt32) (ch st : Int) (s : List UInt8) : List UInt8 := short 87 (linkT d i ch st s)
@[simp] theorem link_length (d : Int) (i : UInt32) (ch st : Int) (s : List UInt8) : (link d i ch st s).length = 16 := rfl
theorem num4 (i : UInt32) : num i.toUInt64 4 4 = be32 i := by
  have h : (be64 i.toUInt64).drop 4 = be32 i := by
    simp only [be64, be32, List.drop_succ_cons, List.drop_zero]
    have e1 : ∀ k : Nat, k < 32 → (i.toUInt64 >>> UInt64.ofNat k).toUInt8 = (i >>> UInt32.ofNat k).toUInt8 := fun k hk => by
      apply UInt8.toNat_inj.1
      rw [UInt64.toNat_toUInt8, UInt32.toNat_toUInt8, UInt64.toNat_shiftRight, UInt32.toNat_shiftRight, UInt32.toNat_toUInt64, UInt64.toNat_ofNat', UInt32.toNat_ofNat']
      rw [show k % 2 ^ 64 % 64 = k from by omega, show k % 2 ^ 32 % 32 = k from by omega]
    have e2 : i.toUInt64.toUInt8 = i.toUInt8 := by
      apply UInt8.toNat_inj.1
      rw [UInt64.toNat_toUInt8, UInt32.toNat_toUInt8, UInt32.toNat_toUInt64]
    exact List.cons_eq_cons.2 ⟨e1 24 (by omega), List.cons_eq_cons.2 ⟨e1 16 (by omega), List.cons_eq_cons.2 ⟨e1 8 (by omega), List.cons_eq_cons.2 ⟨e2, rfl⟩⟩⟩⟩
  rw [← h]
  rfl
theorem flat3 {v1 v2 v3 : Value} {d : Int} {i : UInt32} {ch st : Int} {s : List UInt8} : flat [(v1, headB d i), (v2, [i8 ch, i8 st]), (v3, s)] = linkT d i ch st s := by simp [flat, linkT]
/-- A slice of these bytes, all of its block. -/
def segE (l : List UInt8) : Value → List Ent → World → Prop := fun v L _ => ∃ g, v = .slice (some ⟨g, 0, none⟩) l.length l.length ∧ L = [.seg g (l.map B) 5]
def rowE (l : List UInt8) : Value → List Ent → World → Prop := fun v L _ => L = [.row v l.length (l.map B) 5 1]
def outE (E : Value → List Ent → World → Prop) (w : World) : Value → World → Prop := fun v w' => ∃ L', E v L' w' ∧ Has w.heap.size w' L'

-- ots.Name).head
set_option maxHeartbeats 4000000 in
theorem ots_head (d : Int) (i : UInt32) (w : World)  : Ctr Try.prog 158 [.agg #[I d, U i]] w (fun _ => False) (outE (segE (headB d i)) w) := by
  refine fn_start (N := 22) Try.func158 rfl rfl rfl fun ac hk => ?_
  have hs := St.start hk w
  refine wp_seq ?_
  refine wp_reg ?_
  refine s_box hs rfl rfl rfl fun ac ww g1 hs => ?_
  refine s_q hs (c_assign (hs.ev rfl)) rfl fun ac hs => ?_
  refine s_end ?_
  replace hs := hs.sub (F' := [(1, _), (2, _)]) ⟨rfl, rfl, trivial⟩
  refine then_n ?_
  refine wp_seq ?_
  refine wp_reg ?_
  refine s_q hs (c_fld fl56_0 (hs.ev rfl)) rfl fun ac hs => ?_
  refine s_q hs (c_loadS un3 rfl (hs.ev rfl) (hs.seg (i := 0) rfl) rfl) rfl fun ac hs => ?_
  refine s_q hs (c_cvIB un3 un5 (hs.ev rfl)) rfl fun ac hs => ?_
  refine s_q hs (c_fld fl56_1 (hs.ev rfl)) rfl fun ac hs => ?_
  refine s_q hs (c_loadS un27 rfl (hs.ev rfl) (hs.seg (i := 0) rfl) rfl) rfl fun ac hs => ?_
  refine s_q hs (c_shrU (hs.ev rfl) (hs.ev rfl) (by decide)) rfl fun ac hs => ?_
  refine s_q hs (c_cvUB un27 un5 (hs.ev rfl)) rfl fun ac hs => ?_
  refine s_q hs (c_fld fl56_1 (hs.ev rfl)) rfl fun ac hs => ?_
  refine s_q hs (c_loadS un27 rfl (hs.ev rfl) (hs.seg (i := 0) rfl) rfl) rfl fun ac hs => ?_
  refine s_q hs (c_shrU (hs.ev rfl) (hs.ev rfl) (by decide)) rfl fun ac hs => ?_
  refine s_q hs (c_cvUB un27 un5 (hs.ev rfl)) rfl fun ac hs => ?_
  refine s_q hs (c_fld fl56_1 (hs.ev rfl)) rfl fun ac hs => ?_
  refine s_q hs (c_loadS un27 rfl (hs.ev rfl) (hs.seg (i := 0) rfl) rfl) rfl fun ac hs => ?_
  refine s_q hs (c_shrU (hs.ev rfl) (hs.ev rfl) (by decide)) rfl fun ac hs => ?_
  refine s_q hs (c_cvUB un27 un5 (hs.ev rfl)) rfl fun ac hs => ?_
  refine s_q hs (c_fld fl56_1 (hs.ev rfl)) rfl fun ac hs => ?_
  refine s_q hs (c_loadS un27 rfl (hs.ev rfl) (hs.seg (i := 0) rfl) rfl) rfl fun ac hs => ?_
  refine s_q hs (c_cvUB un27 un5 (hs.ev rfl)) rfl fun ac hs => ?_
  refine s_bslice hs un34 ty5 (.cons (hs.ev rfl) (.cons (hs.ev rfl) (.cons (hs.ev rfl) (.cons (hs.ev rfl) (.cons (hs.ev rfl) .nil))))) rfl (by simp [Value.cells]) (by decide) rfl rfl fun ac ww g21 hs => ?_
  refine s_q hs (c_assign (hs.ev rfl)) rfl fun ac hs => ?_
  refine s_end ?_
  replace hs := hs.sub (F' := [(2, _)]) ⟨rfl, trivial⟩
  refine then_n ?_
  refine wp_ret ?_
  refine s_ret hs rfl (.tmp (hs.tmp rfl) .nil) rfl ⟨_, rfl, hs.fr, ?_⟩
  exact ⟨_, ⟨_, rfl, rfl⟩, (hs.pick (L' := [_]) (.cons_cons _ (.cons _ .slnil))).made⟩

-- fingerpostref10.Head
set_option maxHeartbeats 4000000 in
theorem ref10_Head (d : Int) (i : UInt32) (w : World)  : Ctr Try.prog 160 [.agg #[I d, U i]] w (fun _ => False) (outE (rowE (headB d i)) w) := by
  refine fn_start (N := 12) Try.func160 rfl rfl rfl fun ac hk => ?_
  have hs := St.start hk w
  refine wp_seq ?_
  refine wp_reg ?_
  refine s_box hs rfl rfl rfl fun ac ww g1 hs => ?_
  refine s_q hs (c_assign (hs.ev rfl)) rfl fun ac hs => ?_
  refine s_end ?_
  replace hs := hs.sub (F' := [(1, _), (2, _)]) ⟨rfl, rfl, trivial⟩
  refine then_n ?_
  refine wp_seq ?_
  refine wp_region_rg pmix 8 (by kernel_rfl) rfl hs ?_
  simp only [List.take_succ_cons, List.take_zero]
  refine rg_q (fun ac ww h => c_fld fl29_0 (h.ev rfl)) rfl ?_
  refine rg_q (fun ac ww h => c_loadS un3 rfl (h.ev rfl) (h.blk (hs.seg (i := 0) rfl)) rfl) rfl ?_
  refine rg_q (fun ac ww h => c_cvIB un3 un5 (h.ev rfl)) rfl ?_
  refine rg_bslice un34 ty5 (fun ac ww h => (.cons (h.ev rfl) .nil)) rfl (by simp [Value.cells]) (by decide) rfl rfl ?_
  refine rg_q (fun ac ww h => c_fld fl29_1 (h.ev rfl)) rfl ?_
  refine rg_q (fun ac ww h => c_loadS un27 rfl (h.ev rfl) (h.blk (hs.seg (i := 0) rfl)) rfl) rfl ?_
  refine rg_q (fun ac ww h => c_cvUV un27 un210 (h.ev rfl)) rfl ?_
  refine rg_callE (fun v L _ => ∃ g, v = .slice (some ⟨g, 0, none⟩) 4 4 ∧ L = [.seg g ((num i.toUInt64 4 4).map B) 5]) (fun _ _ _ _ _ h => h) fu173 (fun ac ww h => ?_) rfl ?_
  · exact ⟨_, .cons (h.ev rfl) (.cons (h.ev rfl) .nil), (ref05_Num _ 4 (by omega) _).mono fun v w' _ ⟨g, hv, hh⟩ => ⟨_, ⟨g, hv, rfl⟩, hh⟩⟩
  refine rg_nil fun ac ww L' hf hfe hs => ?_
  simp only [List.drop_succ_cons, List.drop_zero]
  obtain ⟨v10, L10, M10, h10, e10, ⟨v6, L6, M6, h6, e6, rfl, rfl⟩, rfl⟩ := hfe
  replace hs := hs.add h10
  replace hs := hs.add h6
  obtain ⟨g6, rfl, rfl⟩ := e6
  obtain ⟨gn, rfl, rfl⟩ := e10
  replace hs := hs.segrow (i := 1) (n := 1) (sz := 1) rfl rfl (by decide)
  refine s_appB (i := 1) (l := [i8 d]) hs un34 ty5 rfl rfl rfl (RdB.segn (l := num i.toUInt64 4 4) (hs.seg (i := 0) rfl) (by rw [num4]; rfl) (by decide)) (by rw [num4]; simp) rfl fun ac ww v11 hf hnil hs => ?_
  refine s_q hs (c_assign (hs.ev rfl)) rfl fun ac hs => ?_
  refine s_end ?_
  replace hs := hs.sub (F' := [(2, _)]) ⟨rfl, trivial⟩
  refine then_n ?_
  refine wp_ret ?_
  refine s_ret hs rfl (.tmp (hs.tmp rfl) .nil) rfl ⟨_, rfl, hs.fr, ?_⟩
  rw [num4] at hs
  exact ⟨_, rfl, (hs.pick (L' := [_]) (.cons _ (.cons_cons _ (.cons _ .slnil)))).made⟩

-- ots.Link
set_option maxHeartbeats 4000000 in
theorem ots_Link (d : Int) (i : UInt32) (ch st : Int) (s : List UInt8) (hsl : s.length = 16) (w : World)  : Ctr Try.prog 52 [.agg #[I d, U i], I ch, I st, .agg (s.map B).toArray] w (fun _ => False) (fun v _ => v = .agg ((link d i ch st s).map B).toArray) := by
  refine fn_start (N := 19) Try.func52 rfl rfl rfl fun ac hk => ?_
  have hs := St.start hk w
  refine wp_seq ?_
  refine wp_reg ?_
  refine s_box hs rfl rfl rfl fun ac ww g4 hs => ?_
  refine s_box hs rfl rfl rfl fun ac ww g7 hs => ?_
  refine s_alloc hs ty54 rfl fun ac ww g8 hs => ?_
  refine s_end ?_
  replace hs := hs.sub (F' := [(1, _), (2, _), (4, _), (7, _), (8, _)]) ⟨rfl, rfl, rfl, rfl, rfl, trivial⟩
  refine then_n ?_
  refine wp_seq ?_
  refine wp_region_rg pmix 8 (by kernel_rfl) rfl hs ?_
  simp only [List.take_succ_cons, List.take_zero]
  refine rg_q (fun ac ww h => c_loadW ty56 ag56 (h.ev rfl) (h.blk (hs.seg (i := 2) rfl)) (by rfl)) rfl ?_
  refine rg_callE (segE (headB d i)) (fun _ _ _ _ _ h => h) fu158 (fun ac ww h => ?_) rfl ?_
  · exact ⟨_, .cons (h.ev rfl) .nil, ots_head d i _⟩
  refine rg_q (fun ac ww h => c_move (h.ev rfl)) rfl ?_
  refine rg_q (fun ac ww h => c_cvIB un3 un5 (h.ev rfl)) rfl ?_
  refine rg_q (fun ac ww h => c_move (h.ev rfl)) rfl ?_
  refine rg_q (fun ac ww h => c_cvIB un3 un5 (h.ev rfl)) rfl ?_
  refine rg_bslice un34 ty5 (fun ac ww h => (.cons (h.ev rfl) (.cons (h.ev rfl) .nil))) rfl (by simp [Value.cells]) (by decide) rfl rfl ?_
  refine rg_q (fun ac ww h => c_sliceA un54 ty5 (h.ev rfl)) rfl ?_
  refine rg_nil fun ac ww L' hf hfe hs => ?_
  simp only [List.drop_succ_cons, List.drop_zero]
  obtain ⟨v15, L15, M15, h15, e15, ⟨v10, L10, M10, h10, e10, rfl, rfl⟩, rfl⟩ := hfe
  replace hs := hs.add h15
  replace hs := hs.add h10
  obtain ⟨g15, rfl, rfl⟩ := e15
  obtain ⟨g10, rfl, rfl⟩ := e10
  refine s_bslice hs un30 ty34 (.cons (hs.ev rfl) (.cons (hs.ev rfl) (.cons (hs.ev rfl) .nil))) rfl (by simp [Value.cells]) (by decide) rfl rfl fun ac ww g17 hs => ?_
  refine s_call hs fu91 (.cons (hs.ev rfl) (.cons (hs.ev rfl) .nil)) (mac_Short 87 [(_, headB d i), (_, [i8 ch, i8 st]), (_, s)] _ (by simp [flat, hsl]) _ (RdP.seg (ps := [(_, headB d i), (_, [i8 ch, i8 st]), (_, s)]) (hs.seg (i := 0) rfl) (by show 3 ≤ maxLen; decide) (.cons (RdB.seg (hs.seg (i := 2) rfl) (by rw [headB_length]; decide)) (.cons (RdB.seg (l := [i8 ch, i8 st]) (hs.seg (i := 1) rfl) (by show 2 ≤ maxLen; decide)) (.cons (RdB.segn (hs.seg (i := 4) rfl) hsl (by decide)) .nil))))) rfl fun ac ww v18 hf hp hs => ?_
  obtain rfl := hp
  replace hs := hs [] (.nil _ _)
  refine s_storeW (i := 3) hs ty54 rfl rfl rfl (by simp) (all_map_B _) (by simp) fun ww hs => ?_
  refine s_end ?_
  replace hs := hs.sub (F' := [(8, _)]) ⟨rfl, trivial⟩
  refine then_n ?_
  refine wp_ret ?_
  refine s_ret hs rfl (.cell (hs.tmp rfl) (run_loadA ty54 rfl (hs.seg (i := 3) rfl) (List.take_of_length_le (by simp)) (by simp)) .nil) rfl ⟨_, rfl, hs.fr, ?_⟩
  show _ = _
  rw [flat3]
  rfl

-- fingerpostref10.Text
set_option maxHeartbeats 4000000 in
theorem ref10_Text (d : Int) (i : UInt32) (ch st : Int) (s : List UInt8) (hsl : s.length = 16) (w : World)  : Ctr Try.prog 55 [.agg #[I d, U i], I ch, I st, .agg (s.map B).toArray] w (fun _ => False) (outE (rowE (87 :: linkT d i ch st s)) w) := by
  refine fn_start (N := 19) Try.func55 rfl rfl rfl fun ac hk => ?_
  have hs := St.start hk w
  refine wp_seq ?_
  refine wp_reg ?_
  refine s_box hs rfl rfl rfl fun ac ww g4 hs => ?_
  refine s_box hs rfl rfl rfl fun ac ww g7 hs => ?_
  refine s_q hs (c_assign (hs.ev rfl)) rfl fun ac hs => ?_
  refine s_end ?_
  replace hs := hs.sub (F' := [(1, _), (2, _), (4, _), (7, _), (8, _)]) ⟨rfl, rfl, rfl, rfl, rfl, trivial⟩
  refine then_n ?_
  refine wp_seq ?_
  refine wp_region_rg pmix 8 (by kernel_rfl) rfl hs ?_
  simp only [List.take_succ_cons, List.take_zero]
  refine rg_q (fun ac ww h => c_loadW ty29 ag29 (h.ev rfl) (h.blk (hs.seg (i := 1) rfl)) (by rfl)) rfl ?_
  refine rg_callE (rowE (headB d i)) (fun _ _ _ _ _ h => h) fu160 (fun ac ww h => ?_) rfl ?_
  · exact ⟨_, .cons (h.ev rfl) .nil, ref10_Head d i _⟩
  refine rg_q (fun ac ww h => c_move (h.ev rfl)) rfl ?_
  refine rg_q (fun ac ww h => c_cvIB un3 un5 (h.ev rfl)) rfl ?_
  refine rg_q (fun ac ww h => c_move (h.ev rfl)) rfl ?_
  refine rg_q (fun ac ww h => c_cvIB un3 un5 (h.ev rfl)) rfl ?_
  refine rg_bslice un34 ty5 (fun ac ww h => (.cons (h.ev rfl) (.cons (h.ev rfl) .nil))) rfl (by simp [Value.cells]) (by decide) rfl rfl ?_
  refine rg_q (fun ac ww h => c_sliceA un22 ty5 (h.ev rfl)) rfl ?_
  refine rg_nil fun ac ww L' hf hfe hs => ?_
  simp only [List.drop_succ_cons, List.drop_zero]
  obtain ⟨v15, L15, M15, h15, e15, ⟨v10, L10, M10, h10, e10, rfl, rfl⟩, rfl⟩ := hfe
  replace hs := hs.add h15
  replace hs := hs.add h10
  obtain ⟨g15, rfl, rfl⟩ := e15
  obtain rfl := e10
  obtain ⟨ad10, cap10, rfl, _, _⟩ := Rd.sl (RdB.row (hs.get (i := 1) rfl))
  refine s_bslice hs un30 ty34 (.cons (hs.ev rfl) (.cons (hs.ev rfl) (.cons (hs.ev rfl) .nil))) rfl (by simp [Value.cells]) (by decide) rfl rfl fun ac ww g17 hs => ?_
  refine s_call hs fu159 (.cons (hs.ev rfl) (.cons (hs.ev rfl) .nil)) (ref05_Text 87 [(_, headB d i), (_, [i8 ch, i8 st]), (_, s)] _ (by simp [flat, hsl]) _ (RdP.seg (ps := [(_, headB d i), (_, [i8 ch, i8 st]), (_, s)]) (hs.seg (i := 0) rfl) (by show 3 ≤ maxLen; decide) (.cons (RdB.row (hs.get (i := 2) rfl)) (.cons (RdB.seg (l := [i8 ch, i8 st]) (hs.seg (i := 1) rfl) (by show 2 ≤ maxLen; decide)) (.cons (RdB.segn (hs.seg (i := 3) rfl) hsl (by decide)) .nil))))) rfl fun ac ww v18 hf hp hs => ?_
  obtain ⟨qv, rfl, hh⟩ := hp
  rw [flat3] at hh
  replace hs := hs _ hh
  refine s_q hs (c_assign (hs.ev rfl)) rfl fun ac hs => ?_
  refine s_end ?_
  replace hs := hs.sub (F' := [(8, _)]) ⟨rfl, trivial⟩
  refine then_n ?_
  refine wp_ret ?_
  refine s_ret hs rfl (.tmp (hs.tmp rfl) .nil) rfl ⟨_, rfl, hs.fr, ?_⟩
  exact ⟨_, rfl, (hs.pick (L' := [_]) (.cons_cons _ (.cons _ (.cons _ (.cons _ (.cons _ (.cons _ .slnil))))))).made⟩

-- fingerpostlaw10.To
set_option maxHeartbeats 4000000 in
theorem law10_To (d : Int) (i : UInt32) (w : World)  : Ctr Try.prog 53 [.agg #[I d, U i]] w (fun _ => False) (fun v _ => v = .agg #[I d, U i]) := by
  refine fn_start (N := 8) Try.func53 rfl rfl rfl fun ac hk => ?_
  have hs := St.start hk w
  refine wp_seq ?_
  refine wp_reg ?_
  refine s_box hs rfl rfl rfl fun ac ww g1 hs => ?_
  refine s_alloc hs ty56 rfl fun ac ww g2 hs => ?_
  refine s_end ?_
  replace hs := hs.sub (F' := [(1, _), (2, _)]) ⟨rfl, rfl, trivial⟩
  refine then_n ?_
  refine wp_seq ?_
  refine wp_reg ?_
  refine s_q hs (c_fld fl29_0 (hs.ev rfl)) rfl fun ac hs => ?_
  refine s_q hs (c_loadS un3 rfl (hs.ev rfl) (hs.seg (i := 1) rfl) rfl) rfl fun ac hs => ?_
  refine s_q hs (c_fld fl29_1 (hs.ev rfl)) rfl fun ac hs => ?_
  refine s_q hs (c_loadS un27 rfl (hs.ev rfl) (hs.seg (i := 1) rfl) rfl) rfl fun ac hs => ?_
  refine s_q hs (c_buildS ty56 bp56 (.cons (hs.ev rfl) (.cons (hs.ev rfl) .nil)) ⟨rfl, rfl, trivial⟩ (by simp [flatCells, Value.cells]) rfl) rfl fun ac hs => ?_
  refine s_storeW (i := 0) hs ty56 rfl rfl rfl (by rfl) (by rfl) (by simp) fun ww hs => ?_
  refine s_end ?_
  replace hs := hs.sub (F' := [(2, _)]) ⟨rfl, trivial⟩
  refine then_n ?_
  refine wp_ret ?_
  refine s_ret hs rfl (.cell (hs.tmp rfl) (run_loadA ty56 ag56 (hs.seg (i := 0) rfl) rfl (by rfl)) .nil) rfl ⟨_, rfl, hs.fr, ?_⟩
  rfl

-- fingerpostlaw10.OtsLinks
set_option maxHeartbeats 4000000 in
theorem law_OtsLinks (d : Int) (i : UInt32) (ch st : Int) (s : List UInt8) (hsl : s.length = 16) (w : World)  : Ctr Try.prog 9 [.agg #[I d, U i], I ch, I st, .agg (s.map B).toArray] w (fun _ => False) (fun v _ => v = .bool true) := by
  refine fn_start (N := 25) Try.func9 rfl rfl rfl fun ac hk => ?_
  have hs := St.start hk w
  refine wp_seq ?_
  refine wp_reg ?_
  refine s_box hs rfl rfl rfl fun ac ww g4 hs => ?_
  refine s_box hs rfl rfl rfl fun ac ww g7 hs => ?_
  refine s_q hs (c_assign (hs.ev rfl)) rfl fun ac hs => ?_
  refine s_end ?_
  replace hs := hs.sub (F' := [(1, _), (2, _), (4, _), (7, _), (8, _)]) ⟨rfl, rfl, rfl, rfl, rfl, trivial⟩
  refine then_n ?_
  refine wp_seq ?_
  refine wp_region_rg pmix 12 (by kernel_rfl) rfl hs ?_
  simp only [List.take_succ_cons, List.take_zero]
  refine rg_call fu37 (fun ac ww h => .nil) (fun ww hf => law10_awake _) rfl ?_
  refine rg_q (fun ac ww h => c_move (h.ev rfl)) rfl ?_
  refine rg_yes rfl rfl (fun ac ww h => c_loadW ty29 ag29 (h.ev rfl) (h.blk (hs.seg (i := 1) rfl)) (by rfl)) rfl ?_
  refine rg_strip rfl rfl ?_
  refine rg_call fu53 (fun ac ww h => (.cons (h.ev rfl) .nil)) (fun ww hf => law10_To d i ww) rfl ?_
  refine rg_yes rfl rfl (fun ac ww h => c_move (h.ev rfl)) rfl ?_
  refine rg_yes rfl rfl (fun ac ww h => c_move (h.ev rfl)) rfl ?_
  refine rg_yes rfl rfl (fun ac ww h => c_loadW ty22 rfl (h.ev rfl) (h.blk (hs.seg (i := 0) rfl)) (by rw [List.length_map, hsl])) rfl ?_
  refine rg_strip rfl rfl ?_
  refine rg_call fu52 (fun ac ww h => (.cons (h.ev rfl) (.cons (h.ev rfl) (.cons (h.ev rfl) (.cons (h.ev rfl) .nil))))) (fun ww hf => ots_Link d i ch st s hsl ww) rfl ?_
  refine rg_yes rfl rfl (fun ac ww h => c_loadW ty29 ag29 (h.ev rfl) (h.blk (hs.seg (i := 1) rfl)) (by rfl)) rfl ?_
  refine rg_yes rfl rfl (fun ac ww h => c_move (h.ev rfl)) rfl ?_
  refine rg_yes rfl rfl (fun ac ww h => c_move (h.ev rfl)) rfl ?_
  refine rg_yes rfl rfl (fun ac ww h => c_loadW ty22 rfl (h.ev rfl) (h.blk (hs.seg (i := 0) rfl)) (by rw [List.length_map, hsl])) rfl ?_
  refine rg_nil fun ac ww L' hf hfe hs => ?_
  simp only [List.drop_succ_cons, List.drop_zero]
  obtain rfl : L' = [] := hfe
  replace hs := hs.toL (List.nil_append _)
  refine s_yes hs rfl rfl ?_
  refine s_call hs fu55 (.cons (hs.ev rfl) (.cons (hs.ev rfl) (.cons (hs.ev rfl) (.cons (hs.ev rfl) .nil)))) (ref10_Text d i ch st s hsl _) rfl fun ac ww v21 hf hp hs => ?_
  obtain ⟨L', hv, hh⟩ := hp
  subst hv
  replace hs := hs _ hh
  refine s_yes hs rfl rfl ?_
  refine s_call hs fu54 (.cons (hs.ev rfl) .nil) (ref06_Of 87 (linkT d i ch st s) _ (by simp [linkT, hsl]) _ (RdB.row (hs.get (i := 0) rfl))) rfl fun ac ww v22 hf hp hs => ?_
  obtain rfl := hp
  replace hs := hs [] (.nil _ _)
  refine s_yes hs rfl rfl ?_
  refine s_q hs (c_tt (c_eqlAB un54 ty5 eg54 (hs.ev rfl) (hs.ev rfl) (link_length _ _ _ _ _) (link_length d i ch st s)) (by simp [link])) rfl fun ac hs => ?_
  refine s_q hs (c_pick (hs.ev rfl) (hs.ev rfl) (hs.ev rfl)) rfl fun ac hs => ?_
  refine s_q hs (c_assign (hs.ev rfl)) rfl fun ac hs => ?_
  refine s_end ?_
  replace hs := hs.sub (F' := [(8, _)]) ⟨rfl, trivial⟩
  refine then_n ?_
  refine wp_ret ?_
  refine s_ret hs rfl (.tmp (hs.tmp rfl) .nil) rfl ⟨_, rfl, hs.fr, ?_⟩
  rfl

end Go.Proofs.Ytmgnnclkjkbmdaa
end

/- Chains of links, what is summed for them, how many blocks that takes. -/
section
set_option linter.unusedSimpArgs false
set_option linter.unusedVariables false
set_option maxRecDepth 100000
namespace Go.Proofs.Ytmgnnclkjkbmdaa
open Go Go.Fw

open Sha Ots
/-- Along a chain: n links on from step st. -/
def linkN (d : Int) (i : UInt32) (ch : Int) (st : Nat) (s : List UInt8) : Nat → List UInt8
  | 0 => s
  | n + 1 => link d i ch ((st + n : Nat) : Int) (linkN d i ch st s n)
theorem linkN_length {d : Int} {i : UInt32} {ch : Int} {st : Nat} {s : List UInt8} (hs : s.length = 16) : ∀ n, (linkN d i ch st s n).length = 16
  | 0 => hs
  | n + 1 => rfl
theorem linkN_add (d : Int) (i : UInt32) (ch : Int) (st : Nat) (s : List UInt8) (m : Nat) : ∀ n, linkN d i ch st s (m + n) = linkN d i ch (st + m) (linkN d i ch st s m) n
  | 0 => rfl
  | n + 1 => by
    rw [← Nat.add_assoc]
    simp only [linkN, linkN_add d i ch st s m n, Nat.add_assoc]
/-- What is summed on the way. -/
def linkX (d : Int) (i : UInt32) (ch : Int) (st : Nat) (s : List UInt8) : List UInt8 := 87 :: linkT d i ch (st : Int) s
def linkTs (d : Int) (i : UInt32) (ch : Int) (st : Nat) (s : List UInt8) : Nat → List (List UInt8)
  | 0 => []
  | n + 1 => linkTs d i ch st s n ++ [linkX d i ch (st + n) (linkN d i ch st s n)]
theorem linkTs_length (d : Int) (i : UInt32) (ch : Int) (st : Nat) (s : List UInt8) : ∀ n, (linkTs d i ch st s n).length = n
  | 0 => rfl
  | n + 1 => by rw [linkTs, List.length_append, linkTs_length d i ch st s n]; rfl
theorem linkTs_mem {d : Int} {i : UInt32} {ch : Int} {st : Nat} {s : List UInt8} {t : List UInt8} : ∀ {n}, t ∈ linkTs d i ch st s n ↔ ∃ j, j < n ∧ t = linkX d i ch (st + j) (linkN d i ch st s j)
  | 0 => by simp [linkTs]
  | n + 1 => by
    rw [linkTs, List.mem_append, linkTs_mem (n := n)]
    constructor
    · rintro (⟨j, hj, rfl⟩ | h)
      · exact ⟨j, by omega, rfl⟩
      · simp only [List.mem_singleton] at h; exact ⟨n, by omega, h⟩
    · rintro ⟨j, hj, rfl⟩
      by_cases e : j = n
      · subst e; right; simp
      · left; exact ⟨j, by omega, rfl⟩
theorem linkX_length {d : Int} {i : UInt32} {ch : Int} {st : Nat} {s : List UInt8} (hs : s.length = 16) : (linkX d i ch st s).length = 24 := by simp [linkX, linkT, hs]
theorem chunk_length {s : List UInt8} (hs : s.length = 1088) {c : Nat} (hc : c < 68) : (chunk s c).length = 16 := by rw [chunk, List.length_take, List.length_drop]; omega
def rise (d : Int) (i : UInt32) (e : Nat → Nat) (s : List UInt8) (c : Nat) : List UInt8 := linkN d i (c : Int) (e c) (chunk s c) (3 - e c)
def rises (d : Int) (i : UInt32) (e : Nat → Nat) (s : List UInt8) (n : Nat) : List UInt8 := (List.range n).flatMap (rise d i e s)
theorem rises_succ (d : Int) (i : UInt32) (e : Nat → Nat) (s : List UInt8) (n : Nat) : rises d i e s (n + 1) = rises d i e s n ++ rise d i e s n := by simp [rises, List.range_succ]
theorem rise_length {d : Int} {i : UInt32} {e : Nat → Nat} {s : List UInt8} (hs : s.length = 1088) {c : Nat} (hc : c < 68) : (rise d i e s c).length = 16 := linkN_length (chunk_length hs hc) _
theorem rises_length {d : Int} {i : UInt32} {e : Nat → Nat} {s : List UInt8} (hs : s.length = 1088) : ∀ {n}, n ≤ 68 → (rises d i e s n).length = 16 * n
  | 0, _ => rfl
  | n + 1, h => by rw [rises_succ, List.length_append, rises_length hs (by omega), rise_length hs (by omega)]; omega
def recTs (d : Int) (i : UInt32) (e : Nat → Nat) (s : List UInt8) (n : Nat) : List (List UInt8) := (List.range n).flatMap fun c : Nat => linkTs d i (c : Int) (e c) (chunk s c) (3 - e c)
theorem recTs_succ (d : Int) (i : UInt32) (e : Nat → Nat) (s : List UInt8) (n : Nat) : recTs d i e s (n + 1) = recTs d i e s n ++ linkTs d i (n : Int) (e n) (chunk s n) (3 - e n) := by simp [recTs, List.range_succ]
theorem recTs_length (d : Int) (i : UInt32) (e : Nat → Nat) (s : List UInt8) : ∀ n, (recTs d i e s n).length ≤ 3 * n
  | 0 => by simp [recTs]
  | n + 1 => by have := recTs_length d i e s n; rw [recTs_succ, List.length_append, linkTs_length]; omega
/-- What stands for all last links. -/
def pressX (d : Int) (i : UInt32) (all : List UInt8) : List UInt8 := 80 :: (headB d i ++ all)
def press (d : Int) (i : UInt32) (all : List UInt8) : List UInt8 := short 80 (headB d i ++ all)
@[simp] theorem press_length (d : Int) (i : UInt32) (all : List UInt8) : (press d i all).length = 16 := rfl
theorem part_at {A s : List UInt8} {c : Nat} (hA : A.length = 16 * c) : (A ++ s.drop (16 * c)).drop (16 * c) = s.drop (16 * c) := by rw [List.drop_append_of_le_length (by omega), List.drop_of_length_le (by omega), List.nil_append]
theorem part_set {A s x : List UInt8} {c : Nat} (hA : A.length = 16 * c) : (A ++ s.drop (16 * c)).take (16 * c) ++ x ++ (A ++ s.drop (16 * c)).drop (16 * c + 16) = A ++ x ++ s.drop (16 * (c + 1)) := by
  rw [List.take_append_of_le_length (by omega), List.take_of_length_le (by omega), ← List.drop_drop, part_at hA, List.drop_drop]
  rfl
def dgN (m : List UInt8) (c : Nat) : Nat := (dgt m c).toNat
theorem dgN_le (m : List UInt8) (c : Nat) : dgN m c ≤ 3 := dgt_le m c
/-- How many blocks. -/
def costN (m : List UInt8) : Nat → Nat
  | 0 => 0
  | n + 1 => costN m n + (3 - dgN m n)
theorem costN_le (m : List UInt8) : ∀ n, costN m n ≤ 3 * n
  | 0 => Nat.le_refl _
  | n + 1 => by have := costN_le m n; simp only [costN]; omega
def blkS : List (List UInt8) → Nat
  | [] => 0
  | t :: r => blocks t.length + blkS r
theorem blkS_append : ∀ (a b : List (List UInt8)), blkS (a ++ b) = blkS a + blkS b
  | [], b => by simp [blkS]
  | t :: r, b => by rw [List.cons_append, blkS, blkS, blkS_append r b]; omega
theorem blkS_take (l : List (List UInt8)) (k : Nat) (h : k < l.length) : blkS (l.take (k + 1)) = blkS (l.take k) + blocks (l.getD k []).length := by
  rw [List.take_succ_eq_append_getElem h, blkS_append]
  simp [blkS, List.getD, h]
theorem blkS_take_le (l : List (List UInt8)) (k : Nat) : blkS (l.take k) ≤ blkS l := by
  conv => rhs; rw [← List.take_append_drop k l, blkS_append]
  omega
theorem snd_getD (ps : List (Value × List UInt8)) (k : Nat) (h : k < ps.length) : (ps.map (·.2)).getD k [] = (ps.getD k (.nilIface, [])).2 := by simp [List.getD, h]
theorem chunk_at (l : List UInt8) (c : Nat) : ((l.map B).toArray.toList.drop (0 + c * 16)).take 16 = (chunk l c).map B := by
  rw [chunk, List.map_take, List.map_drop, Nat.zero_add, Nat.mul_comm]
theorem chunk_at' {A s : List UInt8} {c : Nat} (hA : A.length = 16 * c) : (((A ++ s.drop (16 * c)).map B).toArray.toList.drop (0 + c * 16)).take 16 = (chunk s c).map B := by
  rw [chunk_at, chunk, chunk, part_at hA]
theorem chunk_set {A s x : List UInt8} {c : Nat} (hA : A.length = 16 * c) : ((A ++ s.drop (16 * c)).map B).take (0 + c * 16) ++ x.map B ++ ((A ++ s.drop (16 * c)).map B).drop (0 + c * 16 + 16) = (A ++ x ++ s.drop (16 * (c + 1))).map B := by
  rw [← part_set hA, Nat.zero_add, Nat.mul_comm c 16]
  simp only [List.map_append, List.map_take, List.map_drop]
theorem take_chunk (l : List UInt8) (k : Nat) : l.take (16 * (k + 1)) = l.take (16 * k) ++ chunk l k := by
  rw [chunk, show 16 * (k + 1) = 16 * k + 16 from by omega, List.take_add]
theorem blkS_links {d : Int} {i : UInt32} {ch : Int} {st : Nat} {s : List UInt8} (hs : s.length = 16) : ∀ n, blkS (linkTs d i ch st s n) = n
  | 0 => rfl
  | n + 1 => by
    rw [linkTs, blkS_append, blkS_links hs n]
    simp only [blkS, linkX_length (linkN_length hs n)]
    rfl
theorem blkS_rec {d : Int} {i : UInt32} {m s : List UInt8} (hs : s.length = 1088) : ∀ n, n ≤ 68 → blkS (recTs d i (dgN m) s n) = costN m n
  | 0, _ => rfl
  | n + 1, h => by rw [recTs_succ, blkS_append, blkS_rec hs n (by omega), blkS_links (chunk_length hs (by omega)), costN]
theorem blkS_all {d : Int} {i : UInt32} {m s : List UInt8} (hs : s.length = 1088) : blkS (recTs d i (dgN m) s 68 ++ [pressX d i (rises d i (dgN m) s 68)]) = costN m 68 + 18 := by
  rw [blkS_append, blkS_rec hs 68 (by omega)]
  have h : (pressX d i (rises d i (dgN m) s 68)).length = 1094 := by simp [pressX, rises_length hs (Nat.le_refl _)]
  simp only [blkS, h]
  rfl

end Go.Proofs.Ytmgnnclkjkbmdaa
end
