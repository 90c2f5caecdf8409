/- Own texts of this seat, laid together: UpBulk, MacLawsG, HexSpec2, ShaF, ShaG, ShaH. -/
import Derived.Test.YtmgnnclkjkbmdaaGa
import Derived.Test.YtmgnnclkjkbmdaaGb
import Derived.Test.YtmgnnclkjkbmdaaGc
import Derived.Test.YtmgnnclkjkbmdaaGd
import Derived.Test.YtmgnnclkjkbmdaaGe
import Derived.Test.YtmgnnclkjkbmdaaGf
import Derived.Test.YtmgnnclkjkbmdaaGg
import Derived.Test.YtmgnnclkjkbmdaaGh
import Derived.Test.YtmgnnclkjkbmdaaGi
import Derived.Test.YtmgnnclkjkbmdaaRows
/- What the bound of a statement of the second form gives for each argument. (The first lemmas follow the kit's page on such statements.) -/
section
set_option linter.unusedSimpArgs false
set_option linter.unusedVariables false
namespace Go.Proofs.Ytmgnnclkjkbmdaa
open Go Go.Fw
theorem bulk_one {H : Type} (d : DataW H) : 1 ≤ Rows.uptoBulk d := by
  cases d with
  | lit l => cases l <;> simp [Rows.uptoBulk]
  | nil => simp [Rows.uptoBulk]
  | ptr d => simp [Rows.uptoBulk]
  | slice elems spare => simp [Rows.uptoBulk]
  | agg parts => simp [Rows.uptoBulk]
  | iface t d => simp [Rows.uptoBulk]
  | map entries => simp [Rows.uptoBulk]
  | held h => simp [Rows.uptoBulk]
theorem bulk_part {H : Type} {d : DataW H} {l : List (DataW H)} (h : d ∈ l) : Rows.uptoBulk d ≤ Rows.uptoBulkAll l := by
  induction l with
  | nil => cases h
  | cons x r ih =>
    simp only [Rows.uptoBulkAll]
    cases List.mem_cons.1 h with
    | inl e => subst e; omega
    | inr e => have := ih e; omega
theorem bulk_length {H : Type} (l : List (DataW H)) : l.length ≤ Rows.uptoBulkAll l := by
  induction l with
  | nil => simp [Rows.uptoBulkAll]
  | cons x r ih => have := bulk_one x; simp only [Rows.uptoBulkAll, List.length_cons]; omega
theorem bulk_slice {H : Type} (elems spare : List (DataW H)) : Rows.uptoBulkAll elems + 1 ≤ Rows.uptoBulk (.slice elems spare) := by
  simp only [Rows.uptoBulk]
  omega
theorem bulk_bound {H : Type} {l : List (DataW H)} (hk : Rows.uptoSmall H l = true) : Rows.uptoBulkAll l ≤ 1048576 := by
  simpa [Rows.uptoSmall] using hk
theorem opSl_up {H : Type} {α : Type} {l : List α} {d : DataW H} {L : List (DataW H)} (hk : Rows.uptoSmall H L = true) (hd : d ∈ L) (hl : l = [] ∨ ∃ es sp, d = .slice es sp ∧ es.length = l.length) : l.length ≤ 1048576 := by
  rcases hl with rfl | ⟨es, sp, rfl, hl⟩
  · simp
  · have h1 := bulk_bound hk
    have h2 := bulk_part hd
    have h3 := bulk_slice es sp
    have h4 := bulk_length es
    omega
theorem opStr_up {H : Type} {l : List UInt8} {L : List (DataW H)} (hk : Rows.uptoSmall H L = true) (hd : DataW.lit (.string l) ∈ L) : l.length ≤ 1048576 := by
  have h1 := bulk_bound hk
  have h2 := bulk_part hd
  have h3 : Rows.uptoBulk (DataW.lit (H := H) (.string l)) = l.length + 1 := by simp [Rows.uptoBulk]
  omega
theorem flat_bulk {H : Type} : ∀ (ls : List (List UInt8)) (es : List (DataW H)), es.length = ls.length → (∀ (i : Nat) (l : List UInt8), ls[i]? = some l → l = [] ∨ ∃ es' sp' : List (DataW H), es[i]? = some (DataW.slice es' sp') ∧ es'.length = l.length) → ls.flatten.length ≤ Rows.uptoBulkAll es
  | [], _, _, _ => by simp
  | l :: ls, [], h, _ => by simp at h
  | l :: ls, e :: es, h, hl => by
    have ih := flat_bulk ls es (by simpa using h) fun i l' hi => by simpa using hl (i + 1) l' (by simpa using hi)
    simp only [List.flatten_cons, List.length_append, Rows.uptoBulkAll]
    have h0 : l.length ≤ Rows.uptoBulk e := by
      rcases hl 0 l rfl with rfl | ⟨es', sp', h1, h2⟩
      · simp
      · simp at h1
        subst h1
        have h3 := bulk_slice es' sp'
        have h4 := bulk_length es'
        omega
    omega
theorem opSP_up {H : Type} {qs : List (Value × List UInt8)} {d : DataW H} {L : List (DataW H)} (hk : Rows.uptoSmall H L = true) (hd : d ∈ L)
    (hl : qs = [] ∨ ∃ es sp : List (DataW H), d = .slice es sp ∧ es.length = qs.length ∧ ∀ (i : Nat) (l : List UInt8), (qs.map (·.2))[i]? = some l → l = [] ∨ ∃ es' sp' : List (DataW H), es[i]? = some (DataW.slice es' sp') ∧ es'.length = l.length) : (flat qs).length ≤ 1048576 ∧ qs.length ≤ 1048576 := by
  rcases hl with rfl | ⟨es, sp, rfl, hl, hi⟩
  · simp [flat]
  · have h1 := bulk_bound hk
    have h2 := bulk_part hd
    have h3 := bulk_slice es sp
    have h4 := bulk_length es
    have h5 := flat_bulk (qs.map (·.2)) es (by simpa using hl) hi
    have h6 : flat qs = (qs.map (·.2)).flatten := by rw [flat, List.flatMap_def]
    rw [h6]
    omega
end Go.Proofs.Ytmgnnclkjkbmdaa
end

/- Laws of keyed sums, walked: short sums of any parts. -/
section
set_option linter.unusedSimpArgs false
set_option linter.unusedVariables false
set_option maxRecDepth 100000
namespace Go.Proofs.Ytmgnnclkjkbmdaa
open Go Go.Fw

open Sha
-- fingerpostlaw05.MacShorts
set_option maxHeartbeats 4000000 in
theorem law_MacShorts (kind : UInt8) (ps : List (Value × List UInt8)) (pv : Value) (hle : (flat ps).length ≤ 1048576) (w : World) (hq : RdP w pv ps) : Ctr Try.prog 18 [B kind, pv] w (fun _ => False) (fun v _ => v = .bool true) := by
  have hpl := hq.1.le
  obtain ⟨pad_, pcap, rfl, hpc, hpm⟩ := hq.sl
  refine fn_start (N := 38) Try.func18 rfl rfl rfl fun ac hk => ?_
  have hs := St.start hk w
  refine wp_seq ?_
  refine wp_reg ?_
  refine s_q hs (c_assign (hs.ev rfl)) rfl fun ac hs => ?_
  refine s_end ?_
  refine then_n ?_
  refine wp_seq ?_
  refine wp_reg ?_
  refine s_q hs (c_assign (hs.ev rfl)) rfl fun ac hs => ?_
  refine s_end ?_
  replace hs := hs.nilrow 5 1
  refine then_n ?_
  refine wp_seq ?_
  refine wp_seq ?_
  refine wp_reg ?_
  refine s_q hs (c_move (hs.ev rfl)) rfl fun ac hs => ?_
  refine s_q hs (c_lenS un30 (hs.ev rfl)) rfl fun ac hs => ?_
  refine s_q hs (c_move (hs.ev rfl)) rfl fun ac hs => ?_
  refine s_end ?_
  refine then_n ?_
  refine wp_block ?_
  refine s_loop hs (X := Nat × Value) (fun x => [(5, x.2), (10, I x.1)]) [(0, _), (1, _), (4, _), (8, _), (9, _)] (fun x => [.row x.2 (flat (ps.take x.1)).length ((flat (ps.take x.1)).map B) 5 1]) (fun n x => x.1 ≤ ps.length ∧ n = ps.length - x.1) (ps.length) ((0, _)) (⟨Nat.zero_le _, rfl⟩) ⟨rfl, rfl, rfl, rfl, rfl, rfl, rfl, trivial⟩ rfl ?_
  rintro n ⟨k, v⟩ ac ww hok hs
  simp only [List.cons_append, List.nil_append] at hs
  obtain ⟨hk, rfl⟩ := hok
  simp only at hk hs
  refine wp_seq ?_
  refine wp_reg ?_
  refine s_q hs (c_lssI (hs.ev rfl) (hs.ev rfl)) rfl fun ac hs => ?_
  refine s_end ?_
  refine then_n ?_
  refine wp_seq ?_
  refine s_cond hs rfl (fun hc => ?_) (fun hc => ?_)
  · try simp only [decide_eq_true_eq, decide_eq_false_iff_not, Bool.not_eq_true', Bool.not_eq_false', Bool.and_eq_true, Bool.or_eq_true, Bool.or_eq_false_iff] at hc
    have hips : k < ps.length := by omega
    obtain ⟨pb, po, pT, pf, pall, rfl, hpb, hps⟩ := hq.at' (by omega)
    have hfl := flat_take_le ps k hips
    refine wp_skip ?_
    refine then_n ?_
    refine wp_seq ?_
    refine wp_block ?_
    refine wp_seq ?_
    refine wp_reg ?_
    refine s_q hs (c_idxS (j := k) un30 ty34 (hs.ev rfl) (hs.ev rfl) (by omega) (by omega)) rfl fun ac hs => ?_
    refine s_q hs (c_loadS un34 rfl (hs.ev rfl) (hs.old hpb id) (seg_get (.nilIface, []) hps (by omega))) rfl fun ac hs => ?_
    refine s_q hs (c_assign (hs.ev rfl)) rfl fun ac hs => ?_
    refine s_end ?_
    refine then_n ?_
    refine wp_reg ?_
    refine s_q hs (c_move (hs.ev rfl)) rfl fun ac hs => ?_
    refine s_q hs (c_move (hs.ev rfl)) rfl fun ac hs => ?_
    refine s_appB (i := 0) hs un34 ty5 rfl rfl rfl ((hq.get hips).fr0 hs.fr) (by omega) rfl fun ac ww v16 hf hnil hs => ?_
    refine s_q hs (c_assign (hs.ev rfl)) rfl fun ac hs => ?_
    refine s_end ?_
    refine blk_n ?_
    refine then_n ?_
    refine wp_reg ?_
    refine s_q hs (c_addI (hs.ev rfl) (hs.ev rfl) (by omega) (by omega)) rfl fun ac hs => ?_
    refine s_q hs (c_move (hs.ev rfl)) rfl fun ac hs => ?_
    refine s_end ?_
    refine then_n ?_
    exact ⟨ps.length - (k + 1), by (try simp only); omega, (k + 1, _), ⟨by (try simp only); omega, rfl⟩, St.next hs ⟨rfl, rfl, rfl, rfl, rfl, rfl, rfl, trivial⟩ (by rw [flat_take ps k (by omega)]; rfl)⟩
  · try simp only [decide_eq_true_eq, decide_eq_false_iff_not, Bool.not_eq_true', Bool.not_eq_false', Bool.and_eq_true, Bool.or_eq_true, Bool.or_eq_false_iff] at hc
    obtain rfl : k = ps.length := by omega
    rw [flat_full] at hs
    obtain ⟨vad, vcap, rfl, _, _⟩ := Rd.sl (RdB.row (hs.get (i := 0) rfl))
    refine wp_exit ?_
    refine then_e ?_
    refine then_e ?_
    refine blk_hit ?_
    refine then_n ?_
    refine wp_seq ?_
    refine wp_reg ?_
    refine s_call hs fu77 .nil (law05_awake _) rfl fun ac ww v18 hf hp hs => ?_
    obtain rfl := hp
    replace hs := hs [] (.nil _ _)
    refine s_q hs (c_move (hs.ev rfl)) rfl fun ac hs => ?_
    refine s_yes hs rfl rfl ?_
    refine s_q hs (c_move (hs.ev rfl)) rfl fun ac hs => ?_
    refine s_yes hs rfl rfl ?_
    refine s_q hs (c_move (hs.ev rfl)) rfl fun ac hs => ?_
    refine s_yes hs rfl rfl ?_
    refine s_call hs fu91 (.cons (hs.ev rfl) (.cons (hs.ev rfl) .nil)) (mac_Short kind ps _ (by omega) _ (hq.fr0 hs.fr)) rfl fun ac ww v22 hf hp hs => ?_
    obtain rfl := hp
    replace hs := hs [] (.nil _ _)
    refine s_yes hs rfl rfl ?_
    refine s_q hs (c_move (hs.ev rfl)) rfl fun ac hs => ?_
    refine s_yes hs rfl rfl ?_
    refine s_q hs (c_move (hs.ev rfl)) rfl fun ac hs => ?_
    refine s_yes hs rfl rfl ?_
    refine s_call hs fu92 (.cons (hs.ev rfl) (.cons (hs.ev rfl) .nil)) (ref05_Short kind ps _ (by omega) _ (hq.fr0 hs.fr)) rfl fun ac ww v25 hf hp hs => ?_
    obtain rfl := hp
    replace hs := hs [] (.nil _ _)
    refine s_yes hs rfl rfl ?_
    refine s_q hs (c_tt (c_eqlAB un54 ty5 eg54 (hs.ev rfl) (hs.ev rfl) rfl rfl) (by simp)) rfl fun ac hs => ?_
    refine s_q hs (c_pick (hs.ev rfl) (hs.ev rfl) (hs.ev rfl)) rfl fun ac hs => ?_
    refine s_q hs (c_move (hs.ev rfl)) rfl fun ac hs => ?_
    refine s_yes hs rfl rfl ?_
    refine s_q hs (c_move (hs.ev rfl)) rfl fun ac hs => ?_
    refine s_yes hs rfl rfl ?_
    refine s_q hs (c_move (hs.ev rfl)) rfl fun ac hs => ?_
    refine s_yes hs rfl rfl ?_
    refine s_bslice hs un30 ty34 (.cons (hs.ev rfl) .nil) rfl (by simp [Value.cells]) (by decide) rfl rfl fun ac ww g31 hs => ?_
    refine s_yes hs rfl rfl ?_
    refine s_call hs fu91 (.cons (hs.ev rfl) (.cons (hs.ev rfl) .nil)) (mac_Short kind [(_, flat ps)] _ (by rw [show flat [(_, flat ps)] = flat ps from List.append_nil _]; omega) _ (RdP.seg (ps := [(_, flat ps)]) (hs.seg (i := 0) rfl) (by show 1 ≤ maxLen; decide) (.cons (RdB.row (hs.get (i := 1) rfl)) .nil))) rfl fun ac ww v32 hf hp hs => ?_
    obtain rfl := hp
    replace hs := hs [] (.nil _ _)
    refine s_yes hs rfl rfl ?_
    refine s_q hs (c_move (hs.ev rfl)) rfl fun ac hs => ?_
    refine s_yes hs rfl rfl ?_
    refine s_q hs (c_move (hs.ev rfl)) rfl fun ac hs => ?_
    refine s_yes hs rfl rfl ?_
    refine s_call hs fu91 (.cons (hs.ev rfl) (.cons (hs.ev rfl) .nil)) (mac_Short kind ps _ (by omega) _ (hq.fr0 hs.fr)) rfl fun ac ww v35 hf hp hs => ?_
    obtain rfl := hp
    replace hs := hs [] (.nil _ _)
    refine s_yes hs rfl rfl ?_
    refine s_q hs (c_tt (c_eqlAB un54 ty5 eg54 (hs.ev rfl) (hs.ev rfl) rfl rfl) (by rw [show flat [(_, flat ps)] = flat ps from List.append_nil _]; simp)) rfl fun ac hs => ?_
    refine s_q hs (c_pick (hs.ev rfl) (hs.ev rfl) (hs.ev rfl)) rfl fun ac hs => ?_
    refine s_q hs (c_assign (hs.ev rfl)) rfl fun ac hs => ?_
    refine s_end ?_
    replace hs := hs.sub (F' := [(4, _)]) ⟨rfl, trivial⟩
    refine then_n ?_
    refine wp_ret ?_
    refine s_ret hs rfl (.tmp (hs.tmp rfl) .nil) rfl ⟨_, rfl, hs.fr, ?_⟩
    rfl

end Go.Proofs.Ytmgnnclkjkbmdaa
end

/- The bytes that digits are, as plain Lean. -/
section
set_option linter.unusedSimpArgs false
set_option linter.unusedVariables false
set_option maxRecDepth 100000
namespace Go.Proofs.Ytmgnnclkjkbmdaa



namespace Sha
def isD (x : UInt8) : Bool := (decide (48 ≤ x) && decide (x ≤ 57)) || (decide (97 ≤ x) && decide (x ≤ 102))
def digV (x : UInt8) : UInt8 := if x ≤ 57 then x - 48 else x - 97 + 10
/-- The number of a digit as the document finds it: the last one below n whose digit it is. -/
def numD (x : UInt8) : Nat → Int
  | 0 => -1
  | n + 1 => if x = digs.getD n 0 then (n : Int) else numD x n
theorem numD_ok : ∀ x : UInt8, numD x 16 = if isD x then ((digV x).toNat : Int) else -1 := by
  have h : ∀ n : Fin 256, numD (UInt8.ofNat n.val) 16 = if isD (UInt8.ofNat n.val) then ((digV (UInt8.ofNat n.val)).toNat : Int) else -1 := by decide +kernel
  intro x
  have := h ⟨x.toNat, x.toNat_lt⟩
  simpa using this
theorem digV_lt : ∀ x : UInt8, isD x = true → (digV x).toNat < 16 := by
  have h : ∀ n : Fin 256, isD (UInt8.ofNat n.val) = true → (digV (UInt8.ofNat n.val)).toNat < 16 := by decide +kernel
  intro x
  have := h ⟨x.toNat, x.toNat_lt⟩
  simpa using this
theorem pair_eq (a b : UInt8) (ha : a.toNat < 16) (hb : b.toNat < 16) : UInt8.ofNat (16 * a.toNat + b.toNat) = (a <<< 4 ||| b) := by
  have h : ∀ m n : Fin 16, UInt8.ofNat (16 * m.val + n.val) = (UInt8.ofNat m.val <<< 4 ||| UInt8.ofNat n.val) := by decide +kernel
  have := h ⟨a.toNat, ha⟩ ⟨b.toNat, hb⟩
  simpa using this
/-- The bytes, where i digits were read. -/
def unP (l : List UInt8) (i : Nat) : List UInt8 := (List.range ((i + 1) / 2)).map fun j => if 2 * j + 1 < i then (digV (l.getD (2 * j) 0) <<< 4 ||| digV (l.getD (2 * j + 1) 0)) else digV (l.getD (2 * j) 0) <<< 4
theorem unP_length (l : List UInt8) (i : Nat) : (unP l i).length = (i + 1) / 2 := by simp [unP]
theorem unP_even (l : List UInt8) (q : Nat) : unP l (2 * q + 1) = unP l (2 * q) ++ [digV (l.getD (2 * q) 0) <<< 4] := by
  rw [unP, unP, show (2 * q + 1 + 1) / 2 = q + 1 from by omega, show (2 * q + 1) / 2 = q from by omega, List.range_succ, List.map_append]
  congr 1
  · refine List.map_congr_left fun j hj => ?_
    have := List.mem_range.1 hj
    rw [if_pos (by omega), if_pos (by omega)]
  · simp
theorem unP_odd (l : List UInt8) (q : Nat) : (unP l (2 * q + 1)).set q (digV (l.getD (2 * q) 0) <<< 4 ||| digV (l.getD (2 * q + 1) 0)) = unP l (2 * q + 2) := by
  apply List.ext_getElem
  · simp [unP]; omega
  · intro j h1 h2
    rw [List.getElem_set]
    simp only [unP, List.getElem_map, List.getElem_range]
    have hj : j < q + 1 := by simp [unP] at h1; omega
    by_cases e : q = j
    · subst e; rw [if_pos rfl, if_pos (by omega)]
    · rw [if_neg e, if_pos (by omega), if_pos (by omega)]
theorem unP_last (l : List UInt8) (q : Nat) : (unP l (2 * q + 1)).getD q 0 = digV (l.getD (2 * q) 0) <<< 4 := by
  rw [unP_even, List.getD, List.getElem?_append_right (by rw [unP_length]; omega), unP_length, show q - (2 * q + 1) / 2 = 0 from by omega]
  rfl
theorem unP_pair (l : List UInt8) (q : Nat) : unP l (2 * q + 2) = unP l (2 * q) ++ [digV (l.getD (2 * q) 0) <<< 4 ||| digV (l.getD (2 * q + 1) 0)] := by
  rw [← unP_odd, unP_even, List.set_append_right _ _ (by rw [unP_length]; omega), unP_length, show q - (2 * q + 1) / 2 = 0 from by omega]
  rfl
/-- Are the first i signs digits? -/
def okD (l : List UInt8) (i : Nat) : Bool := (List.range i).all fun j => isD (l.getD j 0)
theorem okD_succ (l : List UInt8) (i : Nat) : okD l (i + 1) = (okD l i && isD (l.getD i 0)) := by simp [okD, List.range_succ]
theorem okD_mono {l : List UInt8} {i j : Nat} (h : okD l j = true) (hij : i ≤ j) : okD l i = true := by
  simp only [okD, List.all_eq_true, List.mem_range] at h ⊢
  exact fun x hx => h x (by omega)
theorem okD_not {l : List UInt8} {i n : Nat} (h : isD (l.getD i 0) = false) (hi : i < n) : okD l n = false := by
  apply Bool.eq_false_iff.2
  intro h2
  simp only [okD, List.all_eq_true, List.mem_range] at h2
  rw [h2 i hi] at h
  cases h
/-- The bytes, or none. -/
def unhex (l : List UInt8) : Option (List UInt8) := if l.length % 2 = 0 ∧ okD l l.length = true then some (unP l l.length) else none
theorem hexd_ok : ∀ x : UInt8, isD (hexd (x >>> 4)) = true ∧ isD (hexd (x &&& 15)) = true ∧ (digV (hexd (x >>> 4)) <<< 4 ||| digV (hexd (x &&& 15))) = x := by
  have h : ∀ n : Fin 256, isD (hexd (UInt8.ofNat n.val >>> 4)) = true ∧ isD (hexd (UInt8.ofNat n.val &&& 15)) = true ∧ (digV (hexd (UInt8.ofNat n.val >>> 4)) <<< 4 ||| digV (hexd (UInt8.ofNat n.val &&& 15))) = UInt8.ofNat n.val := by decide +kernel
  intro x
  have := h ⟨x.toNat, x.toNat_lt⟩
  simpa using this
theorem hexs_at (p : List UInt8) : ∀ j, j < p.length → (hexs p).getD (2 * j) 0 = hexd (p.getD j 0 >>> 4) ∧ (hexs p).getD (2 * j + 1) 0 = hexd (p.getD j 0 &&& 15) := by
  induction p with
  | nil => intro j h; simp at h
  | cons x p ih =>
    intro j hj
    have e : hexs (x :: p) = hexd (x >>> 4) :: hexd (x &&& 15) :: hexs p := rfl
    rw [e]
    cases j with
    | zero => exact ⟨rfl, rfl⟩
    | succ j =>
      have := ih j (by simpa using hj)
      rw [show 2 * (j + 1) = 2 * j + 1 + 1 from by omega]
      simpa [List.getD] using this
theorem unhex_hexs (p : List UInt8) : unhex (hexs p) = some p := by
  have hl := hexs_length p
  rw [unhex, if_pos]
  · congr 1
    apply List.ext_getElem
    · rw [unP_length]; omega
    · intro j h1 h2
      simp only [unP, List.getElem_map, List.getElem_range]
      have hh := hexs_at p j h2
      rw [if_pos (by omega), hh.1, hh.2, (hexd_ok _).2.2]
      simp [List.getD, h2]
  · refine ⟨by omega, ?_⟩
    simp only [okD, List.all_eq_true, List.mem_range]
    intro j hj
    rcases Nat.mod_two_eq_zero_or_one j with h | h
    · have := (hexs_at p (j / 2) (by omega)).1
      rw [show 2 * (j / 2) = j from by omega] at this
      rw [this]; exact (hexd_ok _).1
    · have := (hexs_at p (j / 2) (by omega)).2
      rw [show 2 * (j / 2) + 1 = j from by omega] at this
      rw [this]; exact (hexd_ok _).2.1
end Sha

end Go.Proofs.Ytmgnnclkjkbmdaa
end

/- The bytes that digits are, walked. -/
section
set_option linter.unusedSimpArgs false
set_option linter.unusedVariables false
set_option maxRecDepth 100000
namespace Go.Proofs.Ytmgnnclkjkbmdaa
open Go Go.Fw

open Sha
/-- What is told of the bytes that digits are, or that they are none. -/
def unE (o : Option (List UInt8)) : Value → List Ent → World → Prop := fun v L _ => match o with
  | none => v = .tuple #[.slice none 0 0, I 10] ∧ L = []
  | some p => ∃ pv, v = .tuple #[pv, I 0] ∧ L = [.row pv p.length (p.map B) 5 1]
theorem unP_zero (l : List UInt8) : unP l 0 = [] := rfl
theorem isD_lo {x : UInt8} (h : UInt8.toNat 48 ≤ x.toNat ∧ x.toNat ≤ UInt8.toNat 57) : isD x = true ∧ digV x = x - 48 := by
  have h1 : (48 : UInt8) ≤ x := UInt8.le_iff_toNat_le.2 h.1
  have h2 : x ≤ (57 : UInt8) := UInt8.le_iff_toNat_le.2 h.2
  simp [isD, digV, h1, h2]
theorem isD_hi {x : UInt8} (h : UInt8.toNat 97 ≤ x.toNat ∧ x.toNat ≤ UInt8.toNat 102) : isD x = true ∧ digV x = x - 97 + 10 := by
  have h1 : (97 : UInt8) ≤ x := UInt8.le_iff_toNat_le.2 h.1
  have h2 : x ≤ (102 : UInt8) := UInt8.le_iff_toNat_le.2 h.2
  have h3 : ¬ x ≤ (57 : UInt8) := fun h3 => by
    have h4 := UInt8.le_iff_toNat_le.1 h3
    have h5 : UInt8.toNat 97 = 97 := rfl
    have h6 : UInt8.toNat 57 = 57 := rfl
    omega
  simp [isD, digV, h1, h2, h3]
theorem isD_no {x : UInt8} (h : (decide (UInt8.toNat 48 ≤ x.toNat) && decide (x.toNat ≤ UInt8.toNat 57)) = false) (h2 : (decide (UInt8.toNat 97 ≤ x.toNat) && decide (x.toNat ≤ UInt8.toNat 102)) = false) : isD x = false := by
  unfold isD
  simp only [UInt8.le_iff_toNat_le]
  rw [h, h2]
  rfl
theorem rowcell {n j : Nat} {l : List UInt8} {cur : Array Value} (d : UInt8) (h : cur.toList.take (n * 1) = l.map B) (hj : j < l.length) : cur.toList[0 + j * 1]? = some (B (l.getD j d)) := by
  have h2 : (cur.toList.take (n * 1))[j]? = some (B (l.getD j d)) := by rw [h]; simp [List.getD, hj]
  rw [List.getElem?_take] at h2
  split at h2
  · simpa using h2
  · cases h2
theorem unP_ev {l : List UInt8} {i : Nat} (h : i % 2 = 0) : unP l (i + 1) = unP l i ++ [digV (l.getD i 0) <<< 4] := by
  obtain ⟨q, rfl⟩ : ∃ q, i = 2 * q := ⟨i / 2, by omega⟩
  exact unP_even l q
theorem unP_od {l : List UInt8} {i : Nat} (h : ¬ i % 2 = 0) : (unP l i).set (i / 2) ((unP l i).getD (i / 2) 0 ||| digV (l.getD i 0)) = unP l (i + 1) := by
  obtain ⟨q, rfl⟩ : ∃ q, i = 2 * q + 1 := ⟨i / 2, by omega⟩
  rw [show (2 * q + 1) / 2 = q from by omega, unP_last, unP_odd]
theorem unhex_none {l : List UInt8} (h : ¬ (l.length % 2 = 0 ∧ okD l l.length = true)) : unhex l = none := if_neg h
theorem unhex_some {l : List UInt8} (h : l.length % 2 = 0) (h2 : okD l l.length = true) : unhex l = some (unP l l.length) := if_pos ⟨h, h2⟩

-- sha.Unhex
set_option maxHeartbeats 4000000 in
theorem sha_Unhex (l : List UInt8) (hle : l.length ≤ 140737488355328) (w : World)  : Ctr Try.prog 56 [T l] w (fun _ => False) (outE (unE (unhex l)) w) := by
  refine fn_start (N := 58) Try.func56 rfl rfl rfl fun ac hk => ?_
  have hs := St.start hk w
  refine wp_seq ?_
  refine wp_reg ?_
  refine s_q hs (c_assign (hs.ev rfl)) rfl fun ac hs => ?_
  refine s_q hs (c_assign (hs.ev rfl)) rfl fun ac hs => ?_
  refine s_end ?_
  refine then_n ?_
  refine wp_seq ?_
  refine wp_seq ?_
  refine wp_reg ?_
  refine s_q hs (c_move (hs.ev rfl)) rfl fun ac hs => ?_
  refine s_q hs (c_lenTT un9 (hs.ev rfl)) rfl fun ac hs => ?_
  refine s_q hs (c_remI (hs.ev rfl) (hs.ev rfl) (by omega) (by omega)) rfl fun ac hs => ?_
  refine s_q hs (c_neqI (hs.ev rfl) (hs.ev rfl)) rfl fun ac hs => ?_
  refine s_end ?_
  replace hs := hs.sub (F' := [(0, _), (2, _), (3, _), (11, _)]) ⟨rfl, rfl, rfl, rfl, trivial⟩
  refine then_n ?_
  refine s_cond hs rfl (fun hc => ?_) (fun hc => ?_)
  · try simp only [decide_eq_true_eq, decide_eq_false_iff_not, Bool.not_eq_true', Bool.not_eq_false', Bool.and_eq_true, Bool.or_eq_true, Bool.or_eq_false_iff] at hc
    have hodd : l.length % 2 ≠ 0 := fun e => hc (by omega)
    refine wp_seq ?_
    refine wp_reg ?_
    refine s_q hs (c_assign (hs.ev rfl)) rfl fun ac hs => ?_
    refine s_q hs (c_assign (hs.ev rfl)) rfl fun ac hs => ?_
    refine s_end ?_
    replace hs := hs.sub (F' := [(0, _), (2, _), (3, _)]) ⟨rfl, rfl, rfl, trivial⟩
    refine then_n ?_
    refine wp_ret ?_
    refine then_r ?_
    refine s_ret hs rfl (.tmp (hs.tmp rfl) (.tmp (hs.tmp rfl) .nil)) rfl ⟨_, rfl, hs.fr, ?_⟩
    have hno : unhex l = none := unhex_none (fun h => hodd h.1)
    rw [hno]
    exact ⟨[], ⟨rfl, rfl⟩, (hs.pick (L' := []) (List.nil_sublist _)).made⟩
  · try simp only [decide_eq_true_eq, decide_eq_false_iff_not, Bool.not_eq_true', Bool.not_eq_false', Bool.and_eq_true, Bool.or_eq_true, Bool.or_eq_false_iff] at hc
    have hev : l.length % 2 = 0 := by omega
    refine wp_skip ?_
    refine then_n ?_
    refine wp_seq ?_
    refine wp_reg ?_
    refine s_bslice hs un34 ty5 .nil rfl (by simp [Value.cells]) (by decide) rfl rfl fun ac ww g12 hs => ?_
    refine s_q hs (c_assign (hs.ev rfl)) rfl fun ac hs => ?_
    refine s_end ?_
    replace hs := hs.segrow (i := 0) (n := 0) (sz := 1) rfl rfl (by decide)
    replace hs := hs.sub (F' := [(0, _), (2, _), (3, _), (4, _)]) ⟨rfl, rfl, rfl, rfl, trivial⟩
    refine then_n ?_
    refine wp_seq ?_
    refine wp_seq ?_
    refine wp_reg ?_
    refine s_q hs (c_move (hs.ev rfl)) rfl fun ac hs => ?_
    refine s_q hs (c_lenTT un9 (hs.ev rfl)) rfl fun ac hs => ?_
    refine s_q hs (c_move (hs.ev rfl)) rfl fun ac hs => ?_
    refine s_end ?_
    replace hs := hs.sub (F' := [(0, _), (2, _), (3, _), (4, _), (14, _), (15, _)]) ⟨rfl, rfl, rfl, rfl, rfl, rfl, trivial⟩
    refine then_n ?_
    refine wp_block ?_
    refine s_loop hs (X := Nat × Value) (fun x => [(4, x.2), (15, I x.1)]) [(0, _), (14, _)] (fun x => [.row x.2 (unP l x.1).length ((unP l x.1).map B) 5 1]) (fun n x => x.1 ≤ l.length ∧ n = l.length - x.1 ∧ okD l x.1 = true) (l.length) ((0, _)) (⟨Nat.zero_le _, rfl, rfl⟩) ⟨rfl, rfl, rfl, rfl, trivial⟩ (by simp only [unP_zero]; rfl) ?_
    rintro n ⟨i, v⟩ ac ww hok hs
    simp only [List.cons_append, List.nil_append] at hs
    obtain ⟨hi, rfl, hok⟩ := hok
    simp only at hi hok hs
    refine wp_seq ?_
    refine wp_reg ?_
    refine s_q hs (c_lssI (hs.ev rfl) (hs.ev rfl)) rfl fun ac hs => ?_
    refine s_end ?_
    refine then_n ?_
    refine wp_seq ?_
    refine s_cond hs rfl (fun hc => ?_) (fun hc => ?_)
    · try simp only [decide_eq_true_eq, decide_eq_false_iff_not, Bool.not_eq_true', Bool.not_eq_false', Bool.and_eq_true, Bool.or_eq_true, Bool.or_eq_false_iff] at hc
      have hil : i < l.length := by omega
      refine wp_skip ?_
      refine then_n ?_
      refine wp_seq ?_
      refine wp_block ?_
      refine wp_seq ?_
      refine wp_reg ?_
      refine s_q hs (c_move (hs.ev rfl)) rfl fun ac hs => ?_
      refine s_q hs (c_assign (hs.ev rfl)) rfl fun ac hs => ?_
      refine s_end ?_
      refine then_n ?_
      refine wp_seq ?_
      refine wp_reg ?_
      refine s_q hs (c_assign (St.ev (v := B 0) hs rfl)) rfl fun ac hs => ?_
      refine s_end ?_
      refine then_n ?_
      refine wp_seq ?_
      refine wp_seq ?_
      refine wp_reg ?_
      refine s_q hs (c_move (hs.ev rfl)) rfl fun ac hs => ?_
      refine s_q hs (c_move (hs.ev rfl)) rfl fun ac hs => ?_
      refine s_q hs (c_idxTT (j := i) un9 (hs.ev rfl) (hs.ev rfl) (by omega) (by omega)) rfl fun ac hs => ?_
      refine s_q hs (c_assign (hs.ev rfl)) rfl fun ac hs => ?_
      refine s_end ?_
      refine then_n ?_
      refine wp_block ?_
      refine wp_seq ?_
      refine wp_reg ?_
      refine s_q hs (c_move (hs.ev rfl)) rfl fun ac hs => ?_
      refine s_q hs (c_geqB (hs.ev rfl) (St.ev (v := B 48) hs rfl)) rfl fun ac hs => ?_
      refine s_q hs (c_move (hs.ev rfl)) rfl fun ac hs => ?_
      refine s_g hs rfl rfl (fun hg => c_move (hs.ev rfl)) rfl fun ac hs => ?_
      refine s_g hs rfl rfl (fun hg => c_leqB (gev (hs.ev rfl) hg) (St.ev (v := B 57) hs rfl)) rfl fun ac hs => ?_
      refine s_q hs (c_and (hs.ev rfl) (hs.ev rfl)) rfl fun ac hs => ?_
      refine s_q hs (c_assign (hs.ev rfl)) rfl fun ac hs => ?_
      refine s_end ?_
      refine then_n ?_
      refine s_cond hs rfl (fun hc => ?_) (fun hc => ?_)
      · try simp only [decide_eq_true_eq, decide_eq_false_iff_not, Bool.not_eq_true', Bool.not_eq_false', Bool.and_eq_true, Bool.or_eq_true, Bool.or_eq_false_iff] at hc
        have hd := isD_lo hc
        refine wp_reg ?_
        refine s_q hs (c_move (hs.ev rfl)) rfl fun ac hs => ?_
        refine s_q hs (c_subB (hs.ev rfl) (St.ev (v := B 48) hs rfl)) rfl fun ac hs => ?_
        refine s_q hs (c_assign (hs.ev rfl)) rfl fun ac hs => ?_
        refine s_end ?_
        rw [← hd.2] at hs
        refine blk_n ?_
        refine then_n ?_
        refine wp_seq ?_
        refine wp_reg ?_
        refine s_q hs (c_move (hs.ev rfl)) rfl fun ac hs => ?_
        refine s_q hs (c_remI (hs.ev rfl) (hs.ev rfl) (by omega) (by omega)) rfl fun ac hs => ?_
        refine s_q hs (c_eqlI (hs.ev rfl) (hs.ev rfl)) rfl fun ac hs => ?_
        refine s_end ?_
        refine then_n ?_
        refine s_cond hs rfl (fun hc => ?_) (fun hc => ?_)
        · try simp only [decide_eq_true_eq, decide_eq_false_iff_not, Bool.not_eq_true', Bool.not_eq_false', Bool.and_eq_true, Bool.or_eq_true, Bool.or_eq_false_iff] at hc
          have hi2 : i % 2 = 0 := by omega
          refine wp_reg ?_
          refine s_q hs (c_move (hs.ev rfl)) rfl fun ac hs => ?_
          refine s_q hs (c_move (hs.ev rfl)) rfl fun ac hs => ?_
          refine s_q hs (c_shlB (hs.ev rfl) (hs.ev rfl) (by decide)) rfl fun ac hs => ?_
          refine s_bslice hs un34 ty5 (.cons (hs.ev rfl) .nil) rfl (by simp [Value.cells]) (by decide) rfl rfl fun ac ww g46 hs => ?_
          refine s_appB (i := 1) hs un34 ty5 rfl rfl rfl (RdB.seg (l := [_]) (hs.seg (i := 0) rfl) (by show 1 ≤ maxLen; decide)) (by rw [unP_length]; simp; omega) rfl fun ac ww v47 hf hnil hs => ?_
          refine s_q hs (c_assign (hs.ev rfl)) rfl fun ac hs => ?_
          refine s_end ?_
          replace hs := hs.pick (L' := [_]) (.cons _ (.refl _))
          refine blk_n ?_
          refine then_n ?_
          refine wp_reg ?_
          refine s_q hs (c_addI (hs.ev rfl) (hs.ev rfl) (by omega) (by omega)) rfl fun ac hs => ?_
          refine s_q hs (c_move (hs.ev rfl)) rfl fun ac hs => ?_
          refine s_end ?_
          refine then_n ?_
          exact ⟨l.length - (i + 1), by (try simp only); omega, (i + 1, _), ⟨by (try simp only); omega, rfl, by rw [okD_succ, hok, hd.1]; rfl⟩, St.next hs ⟨rfl, rfl, rfl, rfl, trivial⟩ (by first | (rw [unP_ev hi2]; done) | (rw [unP_ev hi2]; rfl) | rfl)⟩
        · try simp only [decide_eq_true_eq, decide_eq_false_iff_not, Bool.not_eq_true', Bool.not_eq_false', Bool.and_eq_true, Bool.or_eq_true, Bool.or_eq_false_iff] at hc
          have hi2 : ¬ i % 2 = 0 := by omega
          obtain ⟨rg, rcap, rcur, rfl, hrg, hrn, hrm, hrs, hrt⟩ := hs.row_at (i := 0) rfl (by rw [unP_length]; omega)
          have hul := unP_length l i
          have hul2 := unP_length l (i + 1)
          refine wp_reg ?_
          refine s_q hs (c_move (hs.ev rfl)) rfl fun ac hs => ?_
          refine s_q hs (c_move (hs.ev rfl)) rfl fun ac hs => ?_
          refine s_q hs (c_quoI (hs.ev rfl) (hs.ev rfl) (by omega) (by omega) (by omega)) rfl fun ac hs => ?_
          refine s_q hs (c_idxS (j := i / 2) un34 ty5 (hs.ev rfl) (hs.ev rfl) (by omega) (by rw [hul]; omega)) rfl fun ac hs => ?_
          refine s_q hs (c_loadS un5 rfl (hs.ev rfl) hrg (rowcell (n := (unP l i).length) 0 hrt (by rw [hul]; omega))) rfl fun ac hs => ?_
          refine s_q hs (c_move (hs.ev rfl)) rfl fun ac hs => ?_
          refine s_q hs (c_orB (hs.ev rfl) (hs.ev rfl)) rfl fun ac hs => ?_
          refine s_q hs (c_idxS (j := i / 2) un34 ty5 (hs.ev rfl) (hs.ev rfl) (by omega) (by rw [hul]; omega)) rfl fun ac hs => ?_
          refine s_storeR (i := 0) (j := i / 2) hs ty5 rfl (Eq.trans (b := some (Value.pointer (some ⟨_, 0 + (i / 2) * 1, none⟩))) rfl (congrArg (fun n : Nat => some (Value.pointer (some ⟨_, n, none⟩))) (by omega))) rfl rfl (by rw [hul]; omega) fun ww hs => ?_
          rw [unP_od hi2] at hs
          replace hs := hs.sub (F' := [(0, _), (4, _), (14, _), (15, _)]) ⟨rfl, rfl, rfl, rfl, trivial⟩
          have hle2 : (unP l i).length = (unP l (i + 1)).length := by omega
          rw [hle2] at hs
          refine s_end ?_
          refine blk_n ?_
          refine then_n ?_
          refine wp_reg ?_
          refine s_q hs (c_addI (hs.ev rfl) (hs.ev rfl) (by omega) (by omega)) rfl fun ac hs => ?_
          refine s_q hs (c_move (hs.ev rfl)) rfl fun ac hs => ?_
          refine s_end ?_
          refine then_n ?_
          exact ⟨l.length - (i + 1), by (try simp only); omega, (i + 1, _), ⟨by (try simp only); omega, rfl, by rw [okD_succ, hok, hd.1]; rfl⟩, St.next hs ⟨rfl, rfl, rfl, rfl, trivial⟩ (by first | (rw [unP_ev hi2]; done) | (rw [unP_ev hi2]; rfl) | rfl)⟩
      · try simp only [decide_eq_true_eq, decide_eq_false_iff_not, Bool.not_eq_true', Bool.not_eq_false', Bool.and_eq_true, Bool.or_eq_true, Bool.or_eq_false_iff] at hc
        have hc2 := hc
        refine wp_seq ?_
        refine wp_reg ?_
        refine s_q hs (c_move (hs.ev rfl)) rfl fun ac hs => ?_
        refine s_q hs (c_geqB (hs.ev rfl) (St.ev (v := B 97) hs rfl)) rfl fun ac hs => ?_
        refine s_q hs (c_move (hs.ev rfl)) rfl fun ac hs => ?_
        refine s_g hs rfl rfl (fun hg => c_move (hs.ev rfl)) rfl fun ac hs => ?_
        refine s_g hs rfl rfl (fun hg => c_leqB (gev (hs.ev rfl) hg) (St.ev (v := B 102) hs rfl)) rfl fun ac hs => ?_
        refine s_q hs (c_and (hs.ev rfl) (hs.ev rfl)) rfl fun ac hs => ?_
        refine s_q hs (c_assign (hs.ev rfl)) rfl fun ac hs => ?_
        refine s_end ?_
        refine then_n ?_
        refine s_cond hs rfl (fun hc => ?_) (fun hc => ?_)
        · try simp only [decide_eq_true_eq, decide_eq_false_iff_not, Bool.not_eq_true', Bool.not_eq_false', Bool.and_eq_true, Bool.or_eq_true, Bool.or_eq_false_iff] at hc
          have hd := isD_hi hc
          refine wp_reg ?_
          refine s_q hs (c_move (hs.ev rfl)) rfl fun ac hs => ?_
          refine s_q hs (c_subB (hs.ev rfl) (St.ev (v := B 97) hs rfl)) rfl fun ac hs => ?_
          refine s_q hs (c_addB (hs.ev rfl) (St.ev (v := B 10) hs rfl)) rfl fun ac hs => ?_
          refine s_q hs (c_assign (hs.ev rfl)) rfl fun ac hs => ?_
          refine s_end ?_
          rw [← hd.2] at hs
          refine blk_n ?_
          refine then_n ?_
          refine wp_seq ?_
          refine wp_reg ?_
          refine s_q hs (c_move (hs.ev rfl)) rfl fun ac hs => ?_
          refine s_q hs (c_remI (hs.ev rfl) (hs.ev rfl) (by omega) (by omega)) rfl fun ac hs => ?_
          refine s_q hs (c_eqlI (hs.ev rfl) (hs.ev rfl)) rfl fun ac hs => ?_
          refine s_end ?_
          refine then_n ?_
          refine s_cond hs rfl (fun hc => ?_) (fun hc => ?_)
          · try simp only [decide_eq_true_eq, decide_eq_false_iff_not, Bool.not_eq_true', Bool.not_eq_false', Bool.and_eq_true, Bool.or_eq_true, Bool.or_eq_false_iff] at hc
            have hi2 : i % 2 = 0 := by omega
            refine wp_reg ?_
            refine s_q hs (c_move (hs.ev rfl)) rfl fun ac hs => ?_
            refine s_q hs (c_move (hs.ev rfl)) rfl fun ac hs => ?_
            refine s_q hs (c_shlB (hs.ev rfl) (hs.ev rfl) (by decide)) rfl fun ac hs => ?_
            refine s_bslice hs un34 ty5 (.cons (hs.ev rfl) .nil) rfl (by simp [Value.cells]) (by decide) rfl rfl fun ac ww g46 hs => ?_
            refine s_appB (i := 1) hs un34 ty5 rfl rfl rfl (RdB.seg (l := [_]) (hs.seg (i := 0) rfl) (by show 1 ≤ maxLen; decide)) (by rw [unP_length]; simp; omega) rfl fun ac ww v47 hf hnil hs => ?_
            refine s_q hs (c_assign (hs.ev rfl)) rfl fun ac hs => ?_
            refine s_end ?_
            replace hs := hs.pick (L' := [_]) (.cons _ (.refl _))
            refine blk_n ?_
            refine then_n ?_
            refine wp_reg ?_
            refine s_q hs (c_addI (hs.ev rfl) (hs.ev rfl) (by omega) (by omega)) rfl fun ac hs => ?_
            refine s_q hs (c_move (hs.ev rfl)) rfl fun ac hs => ?_
            refine s_end ?_
            refine then_n ?_
            exact ⟨l.length - (i + 1), by (try simp only); omega, (i + 1, _), ⟨by (try simp only); omega, rfl, by rw [okD_succ, hok, hd.1]; rfl⟩, St.next hs ⟨rfl, rfl, rfl, rfl, trivial⟩ (by first | (rw [unP_ev hi2]; done) | (rw [unP_ev hi2]; rfl) | rfl)⟩
          · try simp only [decide_eq_true_eq, decide_eq_false_iff_not, Bool.not_eq_true', Bool.not_eq_false', Bool.and_eq_true, Bool.or_eq_true, Bool.or_eq_false_iff] at hc
            have hi2 : ¬ i % 2 = 0 := by omega
            obtain ⟨rg, rcap, rcur, rfl, hrg, hrn, hrm, hrs, hrt⟩ := hs.row_at (i := 0) rfl (by rw [unP_length]; omega)
            have hul := unP_length l i
            have hul2 := unP_length l (i + 1)
            refine wp_reg ?_
            refine s_q hs (c_move (hs.ev rfl)) rfl fun ac hs => ?_
            refine s_q hs (c_move (hs.ev rfl)) rfl fun ac hs => ?_
            refine s_q hs (c_quoI (hs.ev rfl) (hs.ev rfl) (by omega) (by omega) (by omega)) rfl fun ac hs => ?_
            refine s_q hs (c_idxS (j := i / 2) un34 ty5 (hs.ev rfl) (hs.ev rfl) (by omega) (by rw [hul]; omega)) rfl fun ac hs => ?_
            refine s_q hs (c_loadS un5 rfl (hs.ev rfl) hrg (rowcell (n := (unP l i).length) 0 hrt (by rw [hul]; omega))) rfl fun ac hs => ?_
            refine s_q hs (c_move (hs.ev rfl)) rfl fun ac hs => ?_
            refine s_q hs (c_orB (hs.ev rfl) (hs.ev rfl)) rfl fun ac hs => ?_
            refine s_q hs (c_idxS (j := i / 2) un34 ty5 (hs.ev rfl) (hs.ev rfl) (by omega) (by rw [hul]; omega)) rfl fun ac hs => ?_
            refine s_storeR (i := 0) (j := i / 2) hs ty5 rfl (Eq.trans (b := some (Value.pointer (some ⟨_, 0 + (i / 2) * 1, none⟩))) rfl (congrArg (fun n : Nat => some (Value.pointer (some ⟨_, n, none⟩))) (by omega))) rfl rfl (by rw [hul]; omega) fun ww hs => ?_
            rw [unP_od hi2] at hs
            replace hs := hs.sub (F' := [(0, _), (4, _), (14, _), (15, _)]) ⟨rfl, rfl, rfl, rfl, trivial⟩
            have hle2 : (unP l i).length = (unP l (i + 1)).length := by omega
            rw [hle2] at hs
            refine s_end ?_
            refine blk_n ?_
            refine then_n ?_
            refine wp_reg ?_
            refine s_q hs (c_addI (hs.ev rfl) (hs.ev rfl) (by omega) (by omega)) rfl fun ac hs => ?_
            refine s_q hs (c_move (hs.ev rfl)) rfl fun ac hs => ?_
            refine s_end ?_
            refine then_n ?_
            exact ⟨l.length - (i + 1), by (try simp only); omega, (i + 1, _), ⟨by (try simp only); omega, rfl, by rw [okD_succ, hok, hd.1]; rfl⟩, St.next hs ⟨rfl, rfl, rfl, rfl, trivial⟩ (by first | (rw [unP_ev hi2]; done) | (rw [unP_ev hi2]; rfl) | rfl)⟩
        · try simp only [decide_eq_true_eq, decide_eq_false_iff_not, Bool.not_eq_true', Bool.not_eq_false', Bool.and_eq_true, Bool.or_eq_true, Bool.or_eq_false_iff] at hc
          have hnd := isD_no hc2 hc
          refine wp_seq ?_
          refine wp_reg ?_
          refine s_q hs (c_assign (hs.ev rfl)) rfl fun ac hs => ?_
          refine s_q hs (c_assign (hs.ev rfl)) rfl fun ac hs => ?_
          refine s_end ?_
          refine then_n ?_
          refine wp_ret ?_
          refine blk_r ?_
          refine then_r ?_
          refine blk_r ?_
          refine then_r ?_
          refine then_r ?_
          refine blk_r ?_
          refine then_r ?_
          refine s_ret hs rfl (.tmp (hs.tmp rfl) (.tmp (hs.tmp rfl) .nil)) rfl ⟨_, rfl, hs.fr, ?_⟩
          have hno : unhex l = none := unhex_none (fun h => by rw [okD_not hnd hil] at h; cases h.2)
          rw [hno]
          exact ⟨[], ⟨rfl, rfl⟩, (hs.pick (L' := []) (List.nil_sublist _)).made⟩
    · try simp only [decide_eq_true_eq, decide_eq_false_iff_not, Bool.not_eq_true', Bool.not_eq_false', Bool.and_eq_true, Bool.or_eq_true, Bool.or_eq_false_iff] at hc
      obtain rfl : i = l.length := by omega
      refine wp_exit ?_
      refine then_e ?_
      refine then_e ?_
      refine blk_hit ?_
      refine then_n ?_
      refine wp_seq ?_
      refine wp_reg ?_
      refine s_q hs (c_move (hs.ev rfl)) rfl fun ac hs => ?_
      refine s_q hs (c_assign (hs.ev rfl)) rfl fun ac hs => ?_
      refine s_q hs (c_assign (hs.ev rfl)) rfl fun ac hs => ?_
      refine s_end ?_
      replace hs := hs.sub (F' := [(2, _), (3, _)]) ⟨rfl, rfl, trivial⟩
      refine then_n ?_
      refine wp_ret ?_
      refine s_ret hs rfl (.tmp (hs.tmp rfl) (.tmp (hs.tmp rfl) .nil)) rfl ⟨_, rfl, hs.fr, ?_⟩
      rw [unhex_some hev hok]
      exact ⟨_, ⟨_, rfl, rfl⟩, hs.made⟩

end Go.Proofs.Ytmgnnclkjkbmdaa
end

/- The bytes that digits are, as the document has them. -/
section
set_option linter.unusedSimpArgs false
set_option linter.unusedVariables false
set_option maxRecDepth 100000
namespace Go.Proofs.Ytmgnnclkjkbmdaa
open Go Go.Fw

open Sha
theorem dig2_at (j : Nat) (h : j < 16) : dig2 (i8 (j : Int)) = digs.getD j 0 := by
  have e : ∀ j, j < 16 → dig2 (UInt8.ofNat j) = digs.getD j 0 := by decide
  rw [i8_nat]
  exact e j h
theorem pairI {a b : UInt8} (ha : a.toNat < 16) (hb : b.toNat < 16) : i8 (16 * (a.toNat : Int) + (b.toNat : Int)) = (a <<< 4 ||| b) := by
  rw [← pair_eq a b ha hb, ← i8_nat]
  congr 1
theorem numD_neg {x : UInt8} (h : numD x 16 < 0) : isD x = false := by
  rw [numD_ok] at h
  split at h
  · omega
  · rename_i h2; simpa using h2
theorem numD_pos {x : UInt8} (h : ¬ numD x 16 < 0) : isD x = true := by
  rw [numD_ok] at h
  split at h
  · assumption
  · omega
theorem numD_is {x : UInt8} (h : isD x = true) : numD x 16 = ((digV x).toNat : Int) := by rw [numD_ok, if_pos h]

-- fingerpostref04.Unhex
set_option maxHeartbeats 4000000 in
theorem ref04_Unhex (l : List UInt8) (hle : l.length ≤ 140737488355328) (w : World)  : Ctr Try.prog 57 [T l] w (fun _ => False) (outE (unE (unhex l)) w) := by
  refine fn_start (N := 55) Try.func57 rfl rfl rfl fun ac hk => ?_
  have hs := St.start hk w
  refine wp_seq ?_
  refine wp_reg ?_
  refine s_q hs (c_assign (hs.ev rfl)) rfl fun ac hs => ?_
  refine s_q hs (c_assign (hs.ev rfl)) rfl fun ac hs => ?_
  refine s_end ?_
  refine then_n ?_
  refine wp_seq ?_
  refine wp_seq ?_
  refine wp_reg ?_
  refine s_q hs (c_move (hs.ev rfl)) rfl fun ac hs => ?_
  refine s_q hs (c_lenTT un9 (hs.ev rfl)) rfl fun ac hs => ?_
  refine s_q hs (c_remI (hs.ev rfl) (hs.ev rfl) (by omega) (by omega)) rfl fun ac hs => ?_
  refine s_q hs (c_neqI (hs.ev rfl) (hs.ev rfl)) rfl fun ac hs => ?_
  refine s_end ?_
  replace hs := hs.sub (F' := [(0, _), (2, _), (3, _), (12, _)]) ⟨rfl, rfl, rfl, rfl, trivial⟩
  refine then_n ?_
  refine s_cond hs rfl (fun hc => ?_) (fun hc => ?_)
  · try simp only [decide_eq_true_eq, decide_eq_false_iff_not, Bool.not_eq_true', Bool.not_eq_false', Bool.and_eq_true, Bool.or_eq_true, Bool.or_eq_false_iff] at hc
    have hodd : l.length % 2 ≠ 0 := fun e => hc (by omega)
    refine wp_seq ?_
    refine wp_reg ?_
    refine s_q hs (c_assign (hs.ev rfl)) rfl fun ac hs => ?_
    refine s_q hs (c_assign (hs.ev rfl)) rfl fun ac hs => ?_
    refine s_end ?_
    replace hs := hs.sub (F' := [(0, _), (2, _), (3, _)]) ⟨rfl, rfl, rfl, trivial⟩
    refine then_n ?_
    refine wp_ret ?_
    refine then_r ?_
    refine s_ret hs rfl (.tmp (hs.tmp rfl) (.tmp (hs.tmp rfl) .nil)) rfl ⟨_, rfl, hs.fr, ?_⟩
    have hno : unhex l = none := unhex_none (fun h => hodd h.1)
    rw [hno]
    exact ⟨[], ⟨rfl, rfl⟩, (hs.pick (L' := []) (List.nil_sublist _)).made⟩
  · try simp only [decide_eq_true_eq, decide_eq_false_iff_not, Bool.not_eq_true', Bool.not_eq_false', Bool.and_eq_true, Bool.or_eq_true, Bool.or_eq_false_iff] at hc
    have hev : l.length % 2 = 0 := by omega
    refine wp_skip ?_
    refine then_n ?_
    refine wp_seq ?_
    refine wp_reg ?_
    refine s_q hs (c_assign (hs.ev rfl)) rfl fun ac hs => ?_
    refine s_end ?_
    replace hs := hs.nilrow 5 1
    replace hs := hs.sub (F' := [(0, _), (2, _), (3, _), (4, _)]) ⟨rfl, rfl, rfl, rfl, trivial⟩
    refine then_n ?_
    refine wp_seq ?_
    refine wp_seq ?_
    refine wp_reg ?_
    refine s_q hs (c_assign (hs.ev rfl)) rfl fun ac hs => ?_
    refine s_end ?_
    refine then_n ?_
    refine wp_block ?_
    refine s_loop hs (X := Nat × Value) (fun x => [(4, x.2), (5, I (2 * x.1 : Nat))]) [(0, _)] (fun x => [.row x.2 (unP l (2 * x.1)).length ((unP l (2 * x.1)).map B) 5 1]) (fun n x => 2 * x.1 ≤ l.length ∧ n = l.length - 2 * x.1 ∧ okD l (2 * x.1) = true) (l.length) ((0, _)) (⟨Nat.zero_le _, rfl, rfl⟩) ⟨rfl, rfl, rfl, trivial⟩ (by simp only [Nat.mul_zero, unP_zero]; rfl) ?_
    rintro n ⟨k, v⟩ ac ww hok hs
    simp only [List.cons_append, List.nil_append] at hs
    obtain ⟨hi, rfl, hok⟩ := hok
    simp only at hi hok hs
    refine wp_seq ?_
    refine wp_seq ?_
    refine wp_reg ?_
    refine s_q hs (c_move (hs.ev rfl)) rfl fun ac hs => ?_
    refine s_q hs (c_move (hs.ev rfl)) rfl fun ac hs => ?_
    refine s_q hs (c_lenTT un9 (hs.ev rfl)) rfl fun ac hs => ?_
    refine s_q hs (c_lssI (hs.ev rfl) (hs.ev rfl)) rfl fun ac hs => ?_
    refine s_end ?_
    refine then_n ?_
    refine s_cond hs rfl (fun hc => ?_) (fun hc => ?_)
    · try simp only [decide_eq_true_eq, decide_eq_false_iff_not, Bool.not_eq_true', Bool.not_eq_false', Bool.and_eq_true, Bool.or_eq_true, Bool.or_eq_false_iff] at hc
      have hil : 2 * k + 1 < l.length := by omega
      refine wp_skip ?_
      refine then_n ?_
      refine wp_seq ?_
      refine wp_block ?_
      refine wp_seq ?_
      refine wp_reg ?_
      refine s_q hs (c_assign (hs.ev rfl)) rfl fun ac hs => ?_
      refine s_q hs (c_assign (hs.ev rfl)) rfl fun ac hs => ?_
      refine s_end ?_
      refine then_n ?_
      refine wp_seq ?_
      refine wp_seq ?_
      refine wp_reg ?_
      refine s_q hs (c_assign (hs.ev rfl)) rfl fun ac hs => ?_
      refine s_end ?_
      refine then_n ?_
      refine wp_block ?_
      refine s_loop hs (X := Nat) (fun j => [(6, I (numD (l.getD (2 * k) 0) j)), (7, I (numD (l.getD (2 * k + 1) 0) j)), (8, I j)]) [(0, _), (4, _), (5, _), (13, _), (14, _), (15, _), (16, _)] (fun _ => [_]) (fun n j => j ≤ 16 ∧ n = 16 - j) (16) (0) (⟨by omega, rfl⟩) ⟨rfl, rfl, rfl, rfl, rfl, rfl, rfl, rfl, rfl, rfl, trivial⟩ rfl ?_
      rintro n j ac ww hok hs
      simp only [List.cons_append, List.nil_append] at hs
      obtain ⟨hj, rfl⟩ := hok
      refine wp_seq ?_
      refine wp_seq ?_
      refine wp_reg ?_
      refine s_q hs (c_move (hs.ev rfl)) rfl fun ac hs => ?_
      refine s_q hs (c_lssI (hs.ev rfl) (hs.ev rfl)) rfl fun ac hs => ?_
      refine s_end ?_
      refine then_n ?_
      refine s_cond hs rfl (fun hc => ?_) (fun hc => ?_)
      · try simp only [decide_eq_true_eq, decide_eq_false_iff_not, Bool.not_eq_true', Bool.not_eq_false', Bool.and_eq_true, Bool.or_eq_true, Bool.or_eq_false_iff] at hc
        have hj16 : j < 16 := by omega
        refine wp_skip ?_
        refine then_n ?_
        refine wp_seq ?_
        refine wp_block ?_
        refine wp_seq ?_
        refine wp_seq ?_
        refine wp_region_rg pmix 7 (by kernel_rfl) rfl hs ?_
        simp only [List.take_succ_cons, List.take_zero]
        refine rg_q (fun ac ww h => c_move (h.ev rfl)) rfl ?_
        refine rg_q (fun ac ww h => c_move (h.ev rfl)) rfl ?_
        refine rg_q (fun ac ww h => c_idxTT (j := 2 * k) un9 (h.ev rfl) (h.ev rfl) (by omega) (by omega)) rfl ?_
        refine rg_q (fun ac ww h => c_move (h.ev rfl)) rfl ?_
        refine rg_q (fun ac ww h => c_cvIB un3 un5 (h.ev rfl)) rfl ?_
        refine rg_call fu161 (fun ac ww h => (.cons (h.ev rfl) .nil)) (fun ww hf => ref04_Digit _ ww) rfl ?_
        refine rg_q (fun ac ww h => c_eqlB (h.ev rfl) (h.ev rfl)) rfl ?_
        refine rg_nil fun ac ww L' hf hfe hs => ?_
        simp only [List.drop_succ_cons, List.drop_zero]
        obtain rfl : L' = [] := hfe
        replace hs := hs.toL (List.nil_append _)
        refine s_end ?_
        refine then_n ?_
        refine s_cond hs rfl (fun hc => ?_) (fun hc => ?_)
        · try simp only [decide_eq_true_eq, decide_eq_false_iff_not, Bool.not_eq_true', Bool.not_eq_false', Bool.and_eq_true, Bool.or_eq_true, Bool.or_eq_false_iff] at hc
          rw [dig2_at j hj16] at hc
          have ha : numD (l.getD (2 * k) 0) (j + 1) = j := by rw [numD, if_pos hc]
          refine wp_reg ?_
          refine s_q hs (c_move (hs.ev rfl)) rfl fun ac hs => ?_
          refine s_q hs (c_assign (hs.ev rfl)) rfl fun ac hs => ?_
          refine s_end ?_
          refine then_n ?_
          refine wp_seq ?_
          refine wp_region_rg pmix 8 (by kernel_rfl) rfl hs ?_
          simp only [List.take_succ_cons, List.take_zero]
          refine rg_q (fun ac ww h => c_move (h.ev rfl)) rfl ?_
          refine rg_q (fun ac ww h => c_move (h.ev rfl)) rfl ?_
          refine rg_q (fun ac ww h => c_addI (h.ev rfl) (h.ev rfl) (by omega) (by omega)) rfl ?_
          refine rg_q (fun ac ww h => c_idxTT (j := 2 * k + 1) un9 (h.ev rfl) (h.ev rfl) (by omega) (by omega)) rfl ?_
          refine rg_q (fun ac ww h => c_move (h.ev rfl)) rfl ?_
          refine rg_q (fun ac ww h => c_cvIB un3 un5 (h.ev rfl)) rfl ?_
          refine rg_call fu161 (fun ac ww h => (.cons (h.ev rfl) .nil)) (fun ww hf => ref04_Digit _ ww) rfl ?_
          refine rg_q (fun ac ww h => c_eqlB (h.ev rfl) (h.ev rfl)) rfl ?_
          refine rg_nil fun ac ww L' hf hfe hs => ?_
          simp only [List.drop_succ_cons, List.drop_zero]
          obtain rfl : L' = [] := hfe
          replace hs := hs.toL (List.nil_append _)
          refine s_end ?_
          refine then_n ?_
          refine s_cond hs rfl (fun hc => ?_) (fun hc => ?_)
          · try simp only [decide_eq_true_eq, decide_eq_false_iff_not, Bool.not_eq_true', Bool.not_eq_false', Bool.and_eq_true, Bool.or_eq_true, Bool.or_eq_false_iff] at hc
            rw [dig2_at j hj16] at hc
            have hb : numD (l.getD (2 * k + 1) 0) (j + 1) = j := by rw [numD, if_pos hc]
            refine wp_reg ?_
            refine s_q hs (c_move (hs.ev rfl)) rfl fun ac hs => ?_
            refine s_q hs (c_assign (hs.ev rfl)) rfl fun ac hs => ?_
            refine s_end ?_
            refine blk_n ?_
            refine then_n ?_
            refine wp_reg ?_
            refine s_q hs (c_move (hs.ev rfl)) rfl fun ac hs => ?_
            refine s_q hs (c_addI (hs.ev rfl) (hs.ev rfl) (by omega) (by omega)) rfl fun ac hs => ?_
            refine s_q hs (c_assign (hs.ev rfl)) rfl fun ac hs => ?_
            refine s_end ?_
            refine then_n ?_
            exact ⟨16 - (j + 1), by omega, j + 1, ⟨by omega, rfl⟩, St.next hs ⟨(congrArg (fun z => some (I z)) ha.symm), (congrArg (fun z => some (I z)) hb.symm), rfl, rfl, rfl, rfl, rfl, rfl, rfl, rfl, trivial⟩ rfl⟩
          · try simp only [decide_eq_true_eq, decide_eq_false_iff_not, Bool.not_eq_true', Bool.not_eq_false', Bool.and_eq_true, Bool.or_eq_true, Bool.or_eq_false_iff] at hc
            rw [dig2_at j hj16] at hc
            have hb : numD (l.getD (2 * k + 1) 0) (j + 1) = numD (l.getD (2 * k + 1) 0) j := by rw [numD, if_neg hc]
            refine wp_skip ?_
            refine blk_n ?_
            refine then_n ?_
            refine wp_reg ?_
            refine s_q hs (c_move (hs.ev rfl)) rfl fun ac hs => ?_
            refine s_q hs (c_addI (hs.ev rfl) (hs.ev rfl) (by omega) (by omega)) rfl fun ac hs => ?_
            refine s_q hs (c_assign (hs.ev rfl)) rfl fun ac hs => ?_
            refine s_end ?_
            refine then_n ?_
            exact ⟨16 - (j + 1), by omega, j + 1, ⟨by omega, rfl⟩, St.next hs ⟨(congrArg (fun z => some (I z)) ha.symm), (congrArg (fun z => some (I z)) hb.symm), rfl, rfl, rfl, rfl, rfl, rfl, rfl, rfl, trivial⟩ rfl⟩
        · try simp only [decide_eq_true_eq, decide_eq_false_iff_not, Bool.not_eq_true', Bool.not_eq_false', Bool.and_eq_true, Bool.or_eq_true, Bool.or_eq_false_iff] at hc
          rw [dig2_at j hj16] at hc
          have ha : numD (l.getD (2 * k) 0) (j + 1) = numD (l.getD (2 * k) 0) j := by rw [numD, if_neg hc]
          refine wp_skip ?_
          refine then_n ?_
          refine wp_seq ?_
          refine wp_region_rg pmix 8 (by kernel_rfl) rfl hs ?_
          simp only [List.take_succ_cons, List.take_zero]
          refine rg_q (fun ac ww h => c_move (h.ev rfl)) rfl ?_
          refine rg_q (fun ac ww h => c_move (h.ev rfl)) rfl ?_
          refine rg_q (fun ac ww h => c_addI (h.ev rfl) (h.ev rfl) (by omega) (by omega)) rfl ?_
          refine rg_q (fun ac ww h => c_idxTT (j := 2 * k + 1) un9 (h.ev rfl) (h.ev rfl) (by omega) (by omega)) rfl ?_
          refine rg_q (fun ac ww h => c_move (h.ev rfl)) rfl ?_
          refine rg_q (fun ac ww h => c_cvIB un3 un5 (h.ev rfl)) rfl ?_
          refine rg_call fu161 (fun ac ww h => (.cons (h.ev rfl) .nil)) (fun ww hf => ref04_Digit _ ww) rfl ?_
          refine rg_q (fun ac ww h => c_eqlB (h.ev rfl) (h.ev rfl)) rfl ?_
          refine rg_nil fun ac ww L' hf hfe hs => ?_
          simp only [List.drop_succ_cons, List.drop_zero]
          obtain rfl : L' = [] := hfe
          replace hs := hs.toL (List.nil_append _)
          refine s_end ?_
          refine then_n ?_
          refine s_cond hs rfl (fun hc => ?_) (fun hc => ?_)
          · try simp only [decide_eq_true_eq, decide_eq_false_iff_not, Bool.not_eq_true', Bool.not_eq_false', Bool.and_eq_true, Bool.or_eq_true, Bool.or_eq_false_iff] at hc
            rw [dig2_at j hj16] at hc
            have hb : numD (l.getD (2 * k + 1) 0) (j + 1) = j := by rw [numD, if_pos hc]
            refine wp_reg ?_
            refine s_q hs (c_move (hs.ev rfl)) rfl fun ac hs => ?_
            refine s_q hs (c_assign (hs.ev rfl)) rfl fun ac hs => ?_
            refine s_end ?_
            refine blk_n ?_
            refine then_n ?_
            refine wp_reg ?_
            refine s_q hs (c_move (hs.ev rfl)) rfl fun ac hs => ?_
            refine s_q hs (c_addI (hs.ev rfl) (hs.ev rfl) (by omega) (by omega)) rfl fun ac hs => ?_
            refine s_q hs (c_assign (hs.ev rfl)) rfl fun ac hs => ?_
            refine s_end ?_
            refine then_n ?_
            exact ⟨16 - (j + 1), by omega, j + 1, ⟨by omega, rfl⟩, St.next hs ⟨(congrArg (fun z => some (I z)) ha.symm), (congrArg (fun z => some (I z)) hb.symm), rfl, rfl, rfl, rfl, rfl, rfl, rfl, rfl, trivial⟩ rfl⟩
          · try simp only [decide_eq_true_eq, decide_eq_false_iff_not, Bool.not_eq_true', Bool.not_eq_false', Bool.and_eq_true, Bool.or_eq_true, Bool.or_eq_false_iff] at hc
            rw [dig2_at j hj16] at hc
            have hb : numD (l.getD (2 * k + 1) 0) (j + 1) = numD (l.getD (2 * k + 1) 0) j := by rw [numD, if_neg hc]
            refine wp_skip ?_
            refine blk_n ?_
            refine then_n ?_
            refine wp_reg ?_
            refine s_q hs (c_move (hs.ev rfl)) rfl fun ac hs => ?_
            refine s_q hs (c_addI (hs.ev rfl) (hs.ev rfl) (by omega) (by omega)) rfl fun ac hs => ?_
            refine s_q hs (c_assign (hs.ev rfl)) rfl fun ac hs => ?_
            refine s_end ?_
            refine then_n ?_
            exact ⟨16 - (j + 1), by omega, j + 1, ⟨by omega, rfl⟩, St.next hs ⟨(congrArg (fun z => some (I z)) ha.symm), (congrArg (fun z => some (I z)) hb.symm), rfl, rfl, rfl, rfl, rfl, rfl, rfl, rfl, trivial⟩ rfl⟩
      · try simp only [decide_eq_true_eq, decide_eq_false_iff_not, Bool.not_eq_true', Bool.not_eq_false', Bool.and_eq_true, Bool.or_eq_true, Bool.or_eq_false_iff] at hc
        obtain rfl : j = 16 := by omega
        refine wp_exit ?_
        refine then_e ?_
        refine then_e ?_
        refine blk_hit ?_
        refine then_n ?_
        refine wp_seq ?_
        refine wp_seq ?_
        refine wp_reg ?_
        refine s_q hs (c_move (hs.ev rfl)) rfl fun ac hs => ?_
        refine s_q hs (c_lssI (hs.ev rfl) (hs.ev rfl)) rfl fun ac hs => ?_
        refine s_q hs (c_move (hs.ev rfl)) rfl fun ac hs => ?_
        refine s_g hs rfl rfl (fun hg => c_move (hs.ev rfl)) rfl fun ac hs => ?_
        refine s_g hs rfl rfl (fun hg => c_lssI (gev (hs.ev rfl) hg) (hs.ev rfl)) rfl fun ac hs => ?_
        refine s_q hs (c_or (hs.ev rfl) (hs.ev rfl)) rfl fun ac hs => ?_
        refine s_end ?_
        refine then_n ?_
        refine s_cond hs rfl (fun hc => ?_) (fun hc => ?_)
        · try simp only [decide_eq_true_eq, decide_eq_false_iff_not, Bool.not_eq_true', Bool.not_eq_false', Bool.and_eq_true, Bool.or_eq_true, Bool.or_eq_false_iff] at hc
          have hno : ¬ (l.length % 2 = 0 ∧ okD l l.length = true) := fun h => by
            rcases hc with hc | hc
            · rw [okD_not (numD_neg hc) (by omega)] at h; cases h.2
            · rw [okD_not (numD_neg hc) (by omega)] at h; cases h.2
          refine wp_seq ?_
          refine wp_reg ?_
          refine s_q hs (c_assign (hs.ev rfl)) rfl fun ac hs => ?_
          refine s_q hs (c_assign (hs.ev rfl)) rfl fun ac hs => ?_
          refine s_end ?_
          refine then_n ?_
          refine wp_ret ?_
          refine then_r ?_
          refine blk_r ?_
          refine then_r ?_
          refine then_r ?_
          refine blk_r ?_
          refine then_r ?_
          refine s_ret hs rfl (.tmp (hs.tmp rfl) (.tmp (hs.tmp rfl) .nil)) rfl ⟨_, rfl, hs.fr, ?_⟩
          have hnn : unhex l = none := unhex_none hno
          rw [hnn]
          exact ⟨[], ⟨rfl, rfl⟩, (hs.pick (L' := []) (List.nil_sublist _)).made⟩
        · try simp only [decide_eq_true_eq, decide_eq_false_iff_not, Bool.not_eq_true', Bool.not_eq_false', Bool.and_eq_true, Bool.or_eq_true, Bool.or_eq_false_iff] at hc
          have hda := numD_pos hc.1
          have hdb := numD_pos hc.2
          have hla := digV_lt _ hda
          have hlb := digV_lt _ hdb
          rw [numD_is hda, numD_is hdb] at hs
          refine wp_skip ?_
          refine then_n ?_
          refine wp_reg ?_
          refine s_q hs (c_move (hs.ev rfl)) rfl fun ac hs => ?_
          refine s_q hs (c_move (hs.ev rfl)) rfl fun ac hs => ?_
          refine s_q hs (c_mulI (hs.ev rfl) (hs.ev rfl) (by omega) (by omega)) rfl fun ac hs => ?_
          refine s_q hs (c_move (hs.ev rfl)) rfl fun ac hs => ?_
          refine s_q hs (c_addI (hs.ev rfl) (hs.ev rfl) (by omega) (by omega)) rfl fun ac hs => ?_
          refine s_q hs (c_cvIB un3 un5 (hs.ev rfl)) rfl fun ac hs => ?_
          rw [pairI hla hlb] at hs
          refine s_bslice hs un34 ty5 (.cons (hs.ev rfl) .nil) rfl (by simp [Value.cells]) (by decide) rfl rfl fun ac ww g52 hs => ?_
          refine s_appB (i := 1) hs un34 ty5 rfl rfl rfl (RdB.seg (l := [_]) (hs.seg (i := 0) rfl) (by show 1 ≤ maxLen; decide)) (by rw [unP_length]; simp; omega) rfl fun ac ww v53 hf hnil hs => ?_
          refine s_q hs (c_assign (hs.ev rfl)) rfl fun ac hs => ?_
          refine s_end ?_
          replace hs := hs.pick (L' := [_]) (.cons _ (.refl _))
          refine blk_n ?_
          refine then_n ?_
          refine wp_reg ?_
          refine s_q hs (c_move (hs.ev rfl)) rfl fun ac hs => ?_
          refine s_q hs (c_addI (hs.ev rfl) (hs.ev rfl) (by omega) (by omega)) rfl fun ac hs => ?_
          refine s_q hs (c_assign (hs.ev rfl)) rfl fun ac hs => ?_
          refine s_end ?_
          refine then_n ?_
          exact ⟨l.length - 2 * (k + 1), by (try simp only); omega, (k + 1, _), ⟨by (try simp only); omega, rfl, by (try simp only); rw [show 2 * (k + 1) = 2 * k + 1 + 1 from by omega, okD_succ, okD_succ, hok, hda, hdb]; rfl⟩, St.next hs ⟨rfl, (congrArg (fun z => some (I z)) (by omega)), rfl, trivial⟩ (by first | (rw [← unP_pair]; done) | (rw [← unP_pair]; rfl))⟩
    · try simp only [decide_eq_true_eq, decide_eq_false_iff_not, Bool.not_eq_true', Bool.not_eq_false', Bool.and_eq_true, Bool.or_eq_true, Bool.or_eq_false_iff] at hc
      have h2k : 2 * k = l.length := by omega
      rw [h2k] at hs hok
      refine wp_exit ?_
      refine then_e ?_
      refine then_e ?_
      refine blk_hit ?_
      refine then_n ?_
      refine wp_seq ?_
      refine wp_reg ?_
      refine s_q hs (c_move (hs.ev rfl)) rfl fun ac hs => ?_
      refine s_q hs (c_assign (hs.ev rfl)) rfl fun ac hs => ?_
      refine s_q hs (c_assign (hs.ev rfl)) rfl fun ac hs => ?_
      refine s_end ?_
      replace hs := hs.sub (F' := [(2, _), (3, _)]) ⟨rfl, rfl, trivial⟩
      refine then_n ?_
      refine wp_ret ?_
      refine s_ret hs rfl (.tmp (hs.tmp rfl) (.tmp (hs.tmp rfl) .nil)) rfl ⟨_, rfl, hs.fr, ?_⟩
      rw [unhex_some hev hok]
      exact ⟨_, ⟨_, rfl, rfl⟩, hs.made⟩

end Go.Proofs.Ytmgnnclkjkbmdaa
end

/- The law of digits of bytes. -/
section
set_option linter.unusedSimpArgs false
set_option linter.unusedVariables false
set_option maxRecDepth 100000
namespace Go.Proofs.Ytmgnnclkjkbmdaa
open Go Go.Fw

open Sha
def unN (o : Option (List UInt8)) : Int := match o with
  | none => 10
  | some _ => 0
theorem unE_ent {o : Option (List UInt8)} {v : Value} {L : List Ent} {w : World} {Bd : Nat} (h : unE o v L w) (hh : Has Bd w L) : ∃ pv, v = .tuple #[pv, I (unN o)] ∧ Has Bd w [.rd pv (o.getD [])] := by
  cases o with
  | none =>
    obtain ⟨rfl, rfl⟩ := h
    exact ⟨_, rfl, (Has.nil Bd w).cons (e := .rd (.slice none 0 0) []) ⟨none, 0, rfl, Nat.le_refl _, Nat.zero_le _, fun _ => rfl, .inl rfl⟩ (fun k hk => absurd rfl hk.2) (fun k hk => absurd rfl hk.2) (by simp)⟩
  | some p =>
    obtain ⟨pv, rfl, rfl⟩ := h
    have hm : Ent.row pv p.length (p.map B) 5 1 ∈ [Ent.row pv p.length (p.map B) 5 1] := by simp
    exact ⟨_, rfl, (Has.nil Bd w).cons (e := .rd pv p) (RdB.row (T := 5) (hh.holds _ hm)) (fun k hk => hh.lt _ hm k hk.1) (fun k hk => hh.ge _ hm k hk.1) (by simp)⟩

-- fingerpostlaw04.ShaHexes
set_option maxHeartbeats 4000000 in
theorem law_ShaHexes (p t : List UInt8) (pv0 : Value) (hp0 : p.length ≤ 1048576) (ht0 : t.length ≤ 1048576) (w : World) (hq : RdB w pv0 p) : Ctr Try.prog 10 [pv0, T t] w (fun _ => False) (fun v _ => v = .bool true) := by
  refine fn_start (N := 58) Try.func10 rfl rfl rfl fun ac hk => ?_
  have hs := St.start hk w
  refine wp_seq ?_
  refine wp_reg ?_
  refine s_q hs (c_assign (hs.ev rfl)) rfl fun ac hs => ?_
  refine s_end ?_
  refine then_n ?_
  refine wp_seq ?_
  refine wp_reg ?_
  refine s_q hs (c_move (hs.ev rfl)) rfl fun ac hs => ?_
  refine s_call hs fu56 (.cons (hs.ev rfl) .nil) (sha_Unhex t (by omega) _) rfl fun ac ww v13 hf hp hs => ?_
  obtain ⟨L', hE, hh⟩ := hp
  obtain ⟨pv, rfl, hh2⟩ := unE_ent hE hh
  replace hs := hs _ hh2
  refine s_q hs (c_move (hs.ev rfl)) rfl fun ac hs => ?_
  refine s_q hs (c_extract (hs.ev rfl) rfl) rfl fun ac hs => ?_
  refine s_q hs (c_extract (hs.ev rfl) rfl) rfl fun ac hs => ?_
  refine s_q hs (c_assign (hs.ev rfl)) rfl fun ac hs => ?_
  refine s_q hs (c_assign (hs.ev rfl)) rfl fun ac hs => ?_
  refine s_end ?_
  replace hs := hs.sub (F' := [(0, _), (1, _), (4, _), (5, _), (6, _)]) ⟨rfl, rfl, rfl, rfl, rfl, trivial⟩
  refine then_n ?_
  refine wp_seq ?_
  refine wp_reg ?_
  refine s_q hs (c_move (hs.ev rfl)) rfl fun ac hs => ?_
  refine s_call hs fu57 (.cons (hs.ev rfl) .nil) (ref04_Unhex t (by omega) _) rfl fun ac ww v18 hf hp hs => ?_
  obtain ⟨L', hE, hh⟩ := hp
  obtain ⟨pv, rfl, hh2⟩ := unE_ent hE hh
  replace hs := hs _ hh2
  refine s_q hs (c_move (hs.ev rfl)) rfl fun ac hs => ?_
  refine s_q hs (c_extract (hs.ev rfl) rfl) rfl fun ac hs => ?_
  refine s_q hs (c_extract (hs.ev rfl) rfl) rfl fun ac hs => ?_
  refine s_q hs (c_assign (hs.ev rfl)) rfl fun ac hs => ?_
  refine s_q hs (c_assign (hs.ev rfl)) rfl fun ac hs => ?_
  refine s_end ?_
  replace hs := hs.sub (F' := [(0, _), (4, _), (5, _), (6, _), (7, _), (8, _)]) ⟨rfl, rfl, rfl, rfl, rfl, rfl, trivial⟩
  refine then_n ?_
  refine wp_seq ?_
  refine wp_reg ?_
  refine s_q hs (c_move (hs.ev rfl)) rfl fun ac hs => ?_
  refine s_call hs fu58 (.cons (hs.ev rfl) .nil) (sha_Hex p _ (by omega) _ (hq.fr0 hs.fr)) rfl fun ac ww v23 hf hp hs => ?_
  obtain rfl := hp
  replace hs := hs [] (.nil _ _)
  refine s_call hs fu56 (.cons (hs.ev rfl) .nil) (sha_Unhex (hexs p) (by rw [hexs_length]; omega) _) rfl fun ac ww v24 hf hp hs => ?_
  rw [unhex_hexs] at hp
  obtain ⟨L', hE, hh⟩ := hp
  obtain ⟨pv, rfl, hh2⟩ := unE_ent hE hh
  replace hs := hs _ hh2
  refine s_q hs (c_move (hs.ev rfl)) rfl fun ac hs => ?_
  refine s_q hs (c_extract (hs.ev rfl) rfl) rfl fun ac hs => ?_
  refine s_q hs (c_extract (hs.ev rfl) rfl) rfl fun ac hs => ?_
  refine s_q hs (c_assign (hs.ev rfl)) rfl fun ac hs => ?_
  refine s_q hs (c_assign (hs.ev rfl)) rfl fun ac hs => ?_
  refine s_end ?_
  replace hs := hs.sub (F' := [(0, _), (4, _), (5, _), (6, _), (7, _), (8, _), (9, _), (10, _)]) ⟨rfl, rfl, rfl, rfl, rfl, rfl, rfl, rfl, trivial⟩
  refine then_n ?_
  refine wp_seq ?_
  refine wp_reg ?_
  refine s_call hs fu43 .nil (law04_awake _) rfl fun ac ww v27 hf hp hs => ?_
  obtain rfl := hp
  replace hs := hs [] (.nil _ _)
  refine s_q hs (c_move (hs.ev rfl)) rfl fun ac hs => ?_
  refine s_yes hs rfl rfl ?_
  refine s_q hs (c_move (hs.ev rfl)) rfl fun ac hs => ?_
  refine s_yes hs rfl rfl ?_
  refine s_call hs fu58 (.cons (hs.ev rfl) .nil) (sha_Hex p _ (by omega) _ (hq.fr0 hs.fr)) rfl fun ac ww v30 hf hp hs => ?_
  obtain rfl := hp
  replace hs := hs [] (.nil _ _)
  refine s_yes hs rfl rfl ?_
  refine s_q hs (c_move (hs.ev rfl)) rfl fun ac hs => ?_
  refine s_yes hs rfl rfl ?_
  refine s_call hs fu59 (.cons (hs.ev rfl) .nil) (ref04_Hex p _ (by omega) _ (hq.fr0 hs.fr)) rfl fun ac ww v32 hf hp hs => ?_
  obtain rfl := hp
  replace hs := hs [] (.nil _ _)
  refine s_yes hs rfl rfl ?_
  refine s_q hs (c_tt (c_eqlTT (hs.ev rfl) (hs.ev rfl)) (by simp)) rfl fun ac hs => ?_
  refine s_q hs (c_pick (hs.ev rfl) (hs.ev rfl) (hs.ev rfl)) rfl fun ac hs => ?_
  refine s_q hs (c_move (hs.ev rfl)) rfl fun ac hs => ?_
  refine s_yes hs rfl rfl ?_
  refine s_q hs (c_move (hs.ev rfl)) rfl fun ac hs => ?_
  refine s_yes hs rfl rfl ?_
  refine s_q hs (c_move (hs.ev rfl)) rfl fun ac hs => ?_
  refine s_yes hs rfl rfl ?_
  refine s_q hs (c_tt (c_eqlI (hs.ev rfl) (hs.ev rfl)) (by simp)) rfl fun ac hs => ?_
  refine s_q hs (c_pick (hs.ev rfl) (hs.ev rfl) (hs.ev rfl)) rfl fun ac hs => ?_
  refine s_q hs (c_move (hs.ev rfl)) rfl fun ac hs => ?_
  refine s_yes hs rfl rfl ?_
  refine s_q hs (c_move (hs.ev rfl)) rfl fun ac hs => ?_
  refine s_yes hs rfl rfl ?_
  refine s_q hs (c_cvST un34 un5 un9 (hs.ev rfl) (hs.get (i := 2) rfl)) rfl fun ac hs => ?_
  refine s_yes hs rfl rfl ?_
  refine s_q hs (c_move (hs.ev rfl)) rfl fun ac hs => ?_
  refine s_yes hs rfl rfl ?_
  refine s_q hs (c_cvST un34 un5 un9 (hs.ev rfl) (hs.get (i := 1) rfl)) rfl fun ac hs => ?_
  refine s_yes hs rfl rfl ?_
  refine s_q hs (c_tt (c_eqlTT (hs.ev rfl) (hs.ev rfl)) (by simp)) rfl fun ac hs => ?_
  refine s_q hs (c_pick (hs.ev rfl) (hs.ev rfl) (hs.ev rfl)) rfl fun ac hs => ?_
  refine s_q hs (c_move (hs.ev rfl)) rfl fun ac hs => ?_
  refine s_yes hs rfl rfl ?_
  refine s_q hs (c_move (hs.ev rfl)) rfl fun ac hs => ?_
  refine s_yes hs rfl rfl ?_
  refine s_q hs (c_tt (c_eqlI (hs.ev rfl) (hs.ev rfl)) (by simp [unN])) rfl fun ac hs => ?_
  refine s_q hs (c_pick (hs.ev rfl) (hs.ev rfl) (hs.ev rfl)) rfl fun ac hs => ?_
  refine s_q hs (c_move (hs.ev rfl)) rfl fun ac hs => ?_
  refine s_yes hs rfl rfl ?_
  refine s_q hs (c_move (hs.ev rfl)) rfl fun ac hs => ?_
  refine s_yes hs rfl rfl ?_
  refine s_q hs (c_cvST un34 un5 un9 (hs.ev rfl) (hs.get (i := 0) rfl)) rfl fun ac hs => ?_
  refine s_yes hs rfl rfl ?_
  refine s_q hs (c_move (hs.ev rfl)) rfl fun ac hs => ?_
  refine s_yes hs rfl rfl ?_
  refine s_q hs (c_cvST un34 un5 un9 (hs.ev rfl) (hq.fr0 hs.fr)) rfl fun ac hs => ?_
  refine s_yes hs rfl rfl ?_
  refine s_q hs (c_tt (c_eqlTT (hs.ev rfl) (hs.ev rfl)) (by simp)) rfl fun ac hs => ?_
  refine s_q hs (c_pick (hs.ev rfl) (hs.ev rfl) (hs.ev rfl)) rfl fun ac hs => ?_
  refine s_q hs (c_assign (hs.ev rfl)) rfl fun ac hs => ?_
  refine s_end ?_
  replace hs := hs.sub (F' := [(4, _)]) ⟨rfl, trivial⟩
  refine then_n ?_
  refine wp_ret ?_
  refine s_ret hs rfl (.tmp (hs.tmp rfl) .nil) rfl ⟨_, rfl, hs.fr, ?_⟩
  rfl

end Go.Proofs.Ytmgnnclkjkbmdaa
end
