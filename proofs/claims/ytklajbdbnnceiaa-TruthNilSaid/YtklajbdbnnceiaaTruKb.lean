/- Own texts of this seat, laid together for one claim (with what its proof uses alone). -/
import Derived.Test.YtklajbdbnnceiaaTruKa
section
/- Ledgers: claims as values, how they are compared, where one stands. -/
set_option linter.unusedSimpArgs false
set_option linter.unusedVariables false
set_option maxRecDepth 100000
namespace Go.Proofs.Ytklajbdbnnceiaa
open Go Go.Fw
/-- A claim. -/
structure Cl where
  d : Int
  ep : UInt32
  sq : UInt32
  mt : Int
  sn : Int
deriving DecidableEq, Inhabited
abbrev Cl.v (c : Cl) : Value := .agg #[I c.d, U c.ep, U c.sq, I c.mt, I c.sn]
def Cl.c (c : Cl) : List Value := [I c.d, U c.ep, U c.sq, I c.mt, I c.sn]
def clsC (l : List Cl) : List Value := l.flatMap Cl.c
theorem getD_at {l : List Cl} {k : Nat} (h : k < l.length) : l.getD k default = l[k] := by simp [List.getD_eq_getElem?_getD, h]
theorem clsC_length : ∀ l : List Cl, (clsC l).length = l.length * 5
  | [] => rfl
  | x :: l => by
    have h := clsC_length l
    simp only [clsC, List.flatMap_cons, List.length_append] at h ⊢
    rw [h, List.length_cons, Cl.c]
    simp only [List.length_cons, List.length_nil]
    omega
theorem clsC_append (l m : List Cl) : clsC (l ++ m) = clsC l ++ clsC m := by simp [clsC]
theorem clsC_one (x : Cl) : clsC [x] = x.c := by simp [clsC]
theorem clsC_piece : ∀ (l : List Cl) (k : Nat), k < l.length → ((clsC l).drop (k * 5)).take 5 = (l.getD k default).c
  | [], k, h => absurd h (by simp)
  | x :: l, 0, _ => by simp [clsC, Cl.c]
  | x :: l, k + 1, h => by
    have h1 := clsC_piece l k (by simpa using h)
    rw [show (k + 1) * 5 = x.c.length + k * 5 by rw [Cl.c]; simp only [List.length_cons, List.length_nil]; omega]
    show (List.take 5 (List.drop (x.c.length + k * 5) (x.c ++ clsC l))) = _
    rw [List.drop_append, List.drop_of_length_le (by omega), List.nil_append, show x.c.length + k * 5 - x.c.length = k * 5 by omega, h1]
    rfl
theorem cls_piece {all : List Value} {o k : Nat} {l : List Cl} (h : (all.drop o).take (clsC l).length = clsC l) (hk : k < l.length) : (all.drop (o + k * 5)).take 5 = (l.getD k default).c := by
  have hle : k * 5 + 5 ≤ (clsC l).length := by rw [clsC_length]; omega
  have h2 : (((all.drop o).take (clsC l).length).drop (k * 5)).take 5 = ((clsC l).drop (k * 5)).take 5 := by rw [h]
  rw [List.drop_take, List.take_take, Nat.min_eq_left (by omega), List.drop_drop] at h2
  rw [h2, clsC_piece l k hk]
theorem Rd.cls_at {w : World} {ad : Option Addr} {cap : Nat} {l : List Cl} (h : Rd w (.slice ad l.length cap) l.length (clsC l)) (hn : 0 < l.length) :
    ∃ b o T fr all, ad = some ⟨b, o, none⟩ ∧ w.heap[b]? = some (.cells all T fr) ∧ (all.toList.drop o).take (clsC l).length = clsC l := by
  obtain ⟨b, o, cap', T, fr, all, e, _, _, hb, hc⟩ := Rd.at_ h (by intro e; have := congrArg List.length e; rw [clsC_length] at this; simp only [List.length_nil] at this; omega)
  cases e
  exact ⟨b, o, T, fr, all, rfl, hb, hc⟩
theorem tr_i (t : TypeId) (k : IntKind) (hu : Try.prog.underlying t = some (.int k)) (a b : Int) (n : Nat) (w : World) : (Op.equalIn (n + 1) t (.int k a) (.int k b)).run Try.prog w = .ok (decide (a = b)) w := by
  simp [Op.equalIn, run_underlying hu]
  rfl
theorem tr_KeyR (a b a' b' : UInt32) (c c' : Int) (n : Nat) (w : World) : (Op.equalIn (n + 2) 25 (.agg #[U a, U b, I c]) (.agg #[U a', U b', I c'])).run Try.prog w = .ok (decide (a = a' ∧ b = b' ∧ c = c')) w := by
  have h : ∀ x y, (Op.equalIn (n + 1) 3 (I x) (I y)).run Try.prog w = .ok (decide (x = y)) w := fun x y => tr_i 3 .i64 un3 x y n w
  have hU : ∀ x y : UInt32, (Op.equalIn (n + 1) 23 (U x) (U y)).run Try.prog w = .ok (decide (x = y)) w := fun x y => by
    have h2 := tr_i 23 .u32 un23 (x.toNat : Int) (y.toNat : Int) n w
    have e : decide ((x.toNat : Int) = (y.toNat : Int)) = decide (x = y) := by
      by_cases hx : x = y
      · subst hx; simp
      · rw [decide_eq_false hx, decide_eq_false]
        intro h3
        exact hx (UInt32.toNat_inj.1 (by omega))
    rw [e] at h2
    exact h2
  rw [Op.equalIn]
  simp only [Sem.run_bind, run_underlying Try.underlying25, Result.andThen_ok]
  simp [part, h, hU]
  by_cases h1 : a = a' <;> by_cases h2 : b = b' <;> by_cases h3 : c = c' <;> simp [*]
theorem tr_ClaimR (d d' i i' c c' : Int) (a b a' b' : UInt32) (w : World) : (Op.equal 27 (.agg #[I d, U a, U b, I c, I i]) (.agg #[I d', U a', U b', I c', I i'])).run Try.prog w = .ok (decide (d = d' ∧ (a = a' ∧ b = b' ∧ c = c') ∧ i = i')) w := by
  have h : ∀ x y, (Op.equalIn 9999 3 (I x) (I y)).run Try.prog w = .ok (decide (x = y)) w := fun x y => tr_i 3 .i64 un3 x y 9998 w
  have hK : (Op.equalIn 9999 25 (.agg #[U a, U b, I c]) (.agg #[U a', U b', I c'])).run Try.prog w = .ok (decide (a = a' ∧ b = b' ∧ c = c')) w := tr_KeyR a b a' b' c c' 9997 w
  unfold Op.equal
  rw [show Op.maxDepth = 9999 + 1 from rfl]
  rw [Op.equalIn]
  simp only [Sem.run_bind, run_underlying Try.underlying27, Result.andThen_ok]
  simp [part, h]
  rw [hK]
  by_cases h2 : a = a' ∧ b = b' ∧ c = c'
  · rw [decide_eq_true h2]
    obtain ⟨rfl, rfl, rfl⟩ := h2
    by_cases h1 : d = d' <;> by_cases h3 : i = i' <;> simp [h, h1, h3]
  · rw [decide_eq_false h2]
    have h4 : (decide (a = a') && (decide (b = b') && decide (c = c'))) = false := by
      rw [← Bool.not_eq_true]
      simpa using h2
    by_cases h1 : d = d' <;> by_cases h3 : i = i' <;> simp [h, h1, h3, h4]
theorem c_eqlClaimR {ac : Act} {w : World} {dt : Option Tmp} {ty u : TypeId} {pos : String} {aft : Array Edge} {g : Option (Nat × Bool)} {x y : Operand} {s c : Cl} (hx : ac.eval x = s.v) (hy : ac.eval y = c.v) :
    (execOp ac.eval ⟨dt, .binOp .eql 27 x y u, ty, pos, aft, g⟩).run Try.prog w = .ok (.value (.bool (decide (s = c)))) w := by
  obtain ⟨d, ep, sq, mt, sn⟩ := s
  obtain ⟨d', ep', sq', mt', sn'⟩ := c
  have e : decide (d = d' ∧ (ep = ep' ∧ sq = sq' ∧ mt = mt') ∧ sn = sn') = decide ((⟨d, ep, sq, mt, sn⟩ : Cl) = ⟨d', ep', sq', mt', sn'⟩) := by
    apply decide_eq_decide.2
    simp only [Cl.mk.injEq]
    constructor
    · rintro ⟨h1, ⟨h2, h3, h4⟩, h5⟩; exact ⟨h1, h2, h3, h4, h5⟩
    · rintro ⟨h1, h2, h3, h4, h5⟩; exact ⟨h1, ⟨h2, h3, h4⟩, h5⟩
  simp only [Cl.v] at hx hy
  simp [execOp, hx, hy, eqGuard, binOp, eg27, tr_ClaimR, e]
theorem tr_KeyP (a b a' b' : UInt32) (c c' : Int) (n : Nat) (w : World) : (Op.equalIn (n + 2) 38 (.agg #[U a, U b, I c]) (.agg #[U a', U b', I c'])).run Try.prog w = .ok (decide (a = a' ∧ b = b' ∧ c = c')) w := by
  have h : ∀ x y, (Op.equalIn (n + 1) 3 (I x) (I y)).run Try.prog w = .ok (decide (x = y)) w := fun x y => tr_i 3 .i64 un3 x y n w
  have hU : ∀ x y : UInt32, (Op.equalIn (n + 1) 23 (U x) (U y)).run Try.prog w = .ok (decide (x = y)) w := fun x y => by
    have h2 := tr_i 23 .u32 un23 (x.toNat : Int) (y.toNat : Int) n w
    have e : decide ((x.toNat : Int) = (y.toNat : Int)) = decide (x = y) := by
      by_cases hx : x = y
      · subst hx; simp
      · rw [decide_eq_false hx, decide_eq_false]
        intro h3
        exact hx (UInt32.toNat_inj.1 (by omega))
    rw [e] at h2
    exact h2
  rw [Op.equalIn]
  simp only [Sem.run_bind, run_underlying Try.underlying38, Result.andThen_ok]
  simp [part, h, hU]
  by_cases h1 : a = a' <;> by_cases h2 : b = b' <;> by_cases h3 : c = c' <;> simp [*]
theorem tr_ClaimP (d d' i i' c c' : Int) (a b a' b' : UInt32) (w : World) : (Op.equal 40 (.agg #[I d, U a, U b, I c, I i]) (.agg #[I d', U a', U b', I c', I i'])).run Try.prog w = .ok (decide (d = d' ∧ (a = a' ∧ b = b' ∧ c = c') ∧ i = i')) w := by
  have h : ∀ x y, (Op.equalIn 9999 3 (I x) (I y)).run Try.prog w = .ok (decide (x = y)) w := fun x y => tr_i 3 .i64 un3 x y 9998 w
  have hK : (Op.equalIn 9999 38 (.agg #[U a, U b, I c]) (.agg #[U a', U b', I c'])).run Try.prog w = .ok (decide (a = a' ∧ b = b' ∧ c = c')) w := tr_KeyP a b a' b' c c' 9997 w
  unfold Op.equal
  rw [show Op.maxDepth = 9999 + 1 from rfl]
  rw [Op.equalIn]
  simp only [Sem.run_bind, run_underlying Try.underlying40, Result.andThen_ok]
  simp [part, h]
  rw [hK]
  by_cases h2 : a = a' ∧ b = b' ∧ c = c'
  · rw [decide_eq_true h2]
    obtain ⟨rfl, rfl, rfl⟩ := h2
    by_cases h1 : d = d' <;> by_cases h3 : i = i' <;> simp [h, h1, h3]
  · rw [decide_eq_false h2]
    have h4 : (decide (a = a') && (decide (b = b') && decide (c = c'))) = false := by
      rw [← Bool.not_eq_true]
      simpa using h2
    by_cases h1 : d = d' <;> by_cases h3 : i = i' <;> simp [h, h1, h3, h4]
theorem c_eqlClaimP {ac : Act} {w : World} {dt : Option Tmp} {ty u : TypeId} {pos : String} {aft : Array Edge} {g : Option (Nat × Bool)} {x y : Operand} {s c : Cl} (hx : ac.eval x = s.v) (hy : ac.eval y = c.v) :
    (execOp ac.eval ⟨dt, .binOp .eql 40 x y u, ty, pos, aft, g⟩).run Try.prog w = .ok (.value (.bool (decide (s = c)))) w := by
  obtain ⟨d, ep, sq, mt, sn⟩ := s
  obtain ⟨d', ep', sq', mt', sn'⟩ := c
  have e : decide (d = d' ∧ (ep = ep' ∧ sq = sq' ∧ mt = mt') ∧ sn = sn') = decide ((⟨d, ep, sq, mt, sn⟩ : Cl) = ⟨d', ep', sq', mt', sn'⟩) := by
    apply decide_eq_decide.2
    simp only [Cl.mk.injEq]
    constructor
    · rintro ⟨h1, ⟨h2, h3, h4⟩, h5⟩; exact ⟨h1, h2, h3, h4, h5⟩
    · rintro ⟨h1, h2, h3, h4, h5⟩; exact ⟨h1, ⟨h2, h3, h4⟩, h5⟩
  simp only [Cl.v] at hx hy
  simp [execOp, hx, hy, eqGuard, binOp, eg40, tr_ClaimP, e]
set_option maxHeartbeats 4000000 in
theorem tr_law01_To (ep sq : UInt32) (mt : Int) (w : World)  : Ctr Try.prog 18 [.agg #[U ep, U sq, I mt]] w (fun _ => False) (fun v _ => v = .agg #[U ep, U sq, I mt]) := by
  refine fn_start (N := 10) Try.func18 rfl rfl rfl fun ac hk => ?_
  have hs := St.start hk w
  refine wp_seq ?_
  refine wp_reg ?_
  refine s_box hs rfl rfl rfl fun ac ww g1 hs => ?_
  refine s_alloc hs ty38 rfl fun ac ww g2 hs => ?_
  refine s_end ?_
  replace hs := hs.sub (F' := [(1, _), (2, _)]) ⟨rfl, rfl, trivial⟩
  refine then_n ?_
  refine wp_seq ?_
  refine wp_reg ?_
  refine s_q hs (c_fld fl25_0 (hs.ev rfl)) rfl fun ac hs => ?_
  refine s_q hs (c_loadS un23 rfl (hs.ev rfl) (hs.seg (i := 1) rfl) rfl) rfl fun ac hs => ?_
  refine s_q hs (c_fld fl25_1 (hs.ev rfl)) rfl fun ac hs => ?_
  refine s_q hs (c_loadS un23 rfl (hs.ev rfl) (hs.seg (i := 1) rfl) rfl) rfl fun ac hs => ?_
  refine s_q hs (c_fld fl25_2 (hs.ev rfl)) rfl fun ac hs => ?_
  refine s_q hs (c_loadS un3 rfl (hs.ev rfl) (hs.seg (i := 1) rfl) rfl) rfl fun ac hs => ?_
  refine s_q hs (c_buildS ty38 bp38 (.cons (hs.ev rfl) (.cons (hs.ev rfl) (.cons (hs.ev rfl) .nil))) ⟨rfl, rfl, rfl, trivial⟩ (by simp [flatCells, Value.cells]) rfl) rfl fun ac hs => ?_
  refine s_storeW (i := 0) hs ty38 rfl rfl rfl (by rfl) (by rfl) (by simp) fun ww hs => ?_
  refine s_end ?_
  replace hs := hs.sub (F' := [(2, _)]) ⟨rfl, trivial⟩
  refine then_n ?_
  refine wp_ret ?_
  refine s_ret hs rfl (.cell (hs.tmp rfl) (run_loadA ty38 ag38 (hs.seg (i := 0) rfl) rfl (by rfl)) .nil) rfl ⟨_, rfl, hs.fr, ?_⟩
  rfl
set_option maxHeartbeats 4000000 in
theorem tr_law09_To (d mt sn : Int) (ep sq : UInt32) (w : World)  : Ctr Try.prog 7 [.agg #[I d, U ep, U sq, I mt, I sn]] w (fun _ => False) (fun v _ => v = .agg #[I d, U ep, U sq, I mt, I sn]) := by
  refine fn_start (N := 11) Try.func7 rfl rfl rfl fun ac hk => ?_
  have hs := St.start hk w
  refine wp_seq ?_
  refine wp_reg ?_
  refine s_box hs rfl rfl rfl fun ac ww g1 hs => ?_
  refine s_alloc hs ty40 rfl fun ac ww g2 hs => ?_
  refine s_end ?_
  replace hs := hs.sub (F' := [(1, _), (2, _)]) ⟨rfl, rfl, trivial⟩
  refine then_n ?_
  refine wp_seq ?_
  refine wp_region_rg pmix 7 (by kernel_rfl) rfl hs ?_
  simp only [List.take_succ_cons, List.take_zero]
  refine rg_q (fun ac ww h => c_fld fl27_0 (h.ev rfl)) rfl ?_
  refine rg_q (fun ac ww h => c_loadS un3 rfl (h.ev rfl) (h.blk (hs.seg (i := 1) rfl)) rfl) rfl ?_
  refine rg_q (fun ac ww h => c_fld fl27_1 (h.ev rfl)) rfl ?_
  refine rg_q (fun ac ww h => c_loadA ty25 ag25 (h.ev rfl) (h.blk (hs.seg (i := 1) rfl)) rfl (by rfl)) rfl ?_
  refine rg_call fu18 (fun ac ww h => (.cons (h.ev rfl) .nil)) (fun ww hf => tr_law01_To ep sq mt ww) rfl ?_
  refine rg_q (fun ac ww h => c_fld fl27_2 (h.ev rfl)) rfl ?_
  refine rg_q (fun ac ww h => c_loadS un3 rfl (h.ev rfl) (h.blk (hs.seg (i := 1) rfl)) rfl) rfl ?_
  refine rg_nil fun ac ww L' hf hfe hs => ?_
  simp only [List.drop_succ_cons, List.drop_zero]
  obtain rfl : L' = [] := hfe
  replace hs := hs.toL (List.nil_append _)
  refine s_q hs (c_buildS ty40 bp40 (.cons (hs.ev rfl) (.cons (hs.ev rfl) (.cons (hs.ev rfl) .nil))) ⟨rfl, rfl, rfl, trivial⟩ (by simp [flatCells, Value.cells]) rfl) rfl fun ac hs => ?_
  refine s_storeW (i := 0) hs ty40 rfl rfl rfl (by rfl) (by rfl) (by simp) fun ww hs => ?_
  refine s_end ?_
  replace hs := hs.sub (F' := [(2, _)]) ⟨rfl, trivial⟩
  refine then_n ?_
  refine wp_ret ?_
  refine s_ret hs rfl (.cell (hs.tmp rfl) (run_loadA ty40 ag40 (hs.seg (i := 0) rfl) rfl (by rfl)) .nil) rfl ⟨_, rfl, hs.fr, ?_⟩
  rfl
theorem tr_To (c : Cl) (w : World) : Ctr Try.prog 7 [c.v] w (fun _ => False) fun v _ => v = c.v := tr_law09_To c.d c.mt c.sn c.ep c.sq w
set_option maxHeartbeats 4000000 in
theorem tr_Index (l : List Cl) (sv : Value) (x : Cl) (w : World) (hq : Rd w sv l.length (clsC l)) : Ctr Try.prog 26 [sv, x.v] w (fun _ => False) (fun v _ => (x ∈ l ∧ ∃ k : Nat, v = I k ∧ k < l.length) ∨ (¬ x ∈ l ∧ v = I (-1))) := by
  have hnl := hq.le
  obtain ⟨sad, scap, rfl, hsc, hsm⟩ := Rd.sl hq
  refine fn_start (N := 19) Try.func26 rfl rfl rfl fun ac hk => ?_
  have hs := St.start hk w
  refine wp_seq ?_
  refine wp_reg ?_
  refine s_box hs rfl rfl rfl fun ac ww g3 hs => ?_
  refine s_q hs (c_assign (hs.ev rfl)) rfl fun ac hs => ?_
  refine s_end ?_
  replace hs := hs.sub (F' := [(0, _), (3, _), (4, _)]) ⟨rfl, rfl, rfl, trivial⟩
  refine then_n ?_
  refine wp_seq ?_
  refine wp_seq ?_
  refine wp_reg ?_
  refine s_q hs (c_move (hs.ev rfl)) rfl fun ac hs => ?_
  refine s_q hs (c_lenS un61 (hs.ev rfl)) rfl fun ac hs => ?_
  refine s_q hs (c_move (hs.ev rfl)) rfl fun ac hs => ?_
  refine s_end ?_
  replace hs := hs.sub (F' := [(0, _), (3, _), (4, _), (7, _), (8, _)]) ⟨rfl, rfl, rfl, rfl, rfl, trivial⟩
  refine then_n ?_
  refine wp_block ?_
  refine s_loop hs (X := Nat) (fun k => [(8, I k)]) [(0, _), (3, _), (7, _)] (fun _ => [_]) (fun n k => k ≤ l.length ∧ n = l.length - k ∧ ∀ i, i < k → ¬ l.getD i default = x) (_) (0) (⟨Nat.zero_le _, rfl, fun _ h => absurd h (by omega)⟩) ⟨rfl, rfl, rfl, rfl, trivial⟩ rfl ?_
  rintro n k ac ww hok hs
  simp only [List.cons_append, List.nil_append] at hs
  obtain ⟨hk, rfl, hne⟩ := hok
  refine wp_seq ?_
  refine wp_reg ?_
  refine s_q hs (c_lssI (hs.ev rfl) (hs.ev rfl)) rfl fun ac hs => ?_
  refine s_end ?_
  refine then_n ?_
  refine wp_seq ?_
  refine s_cond hs rfl (fun hc => ?_) (fun hc => ?_)
  · try simp only [decide_eq_true_eq, decide_eq_false_iff_not, Bool.not_eq_true', Bool.not_eq_false', Bool.and_eq_true, Bool.or_eq_true, Bool.or_eq_false_iff] at hc
    have hkn : k < l.length := by omega
    obtain ⟨pb, po, pT, pf, pall, rfl, hpb, hps⟩ := Rd.cls_at hq (by omega)
    refine wp_skip ?_
    refine then_n ?_
    refine wp_seq ?_
    refine wp_block ?_
    refine wp_seq ?_
    refine wp_reg ?_
    refine s_q hs (c_move (hs.ev rfl)) rfl fun ac hs => ?_
    refine s_q hs (c_assign (hs.ev rfl)) rfl fun ac hs => ?_
    refine s_end ?_
    refine then_n ?_
    refine wp_seq ?_
    refine wp_region_rg pmix 5 (by kernel_rfl) rfl hs ?_
    simp only [List.take_succ_cons, List.take_zero]
    refine rg_q (fun ac ww h => c_loadW ty40 ag40 (h.ev rfl) (h.blk (hs.seg (i := 0) rfl)) (by rfl)) rfl ?_
    refine rg_q (fun ac ww h => c_move (h.ev rfl)) rfl ?_
    refine rg_q (fun ac ww h => c_move (h.ev rfl)) rfl ?_
    refine rg_q (fun ac ww h => c_idxS (j := k) un61 ty40 (h.ev rfl) (h.ev rfl) (by omega) (by omega)) rfl ?_
    refine rg_q (fun ac ww h => c_loadA ty40 ag40 (h.ev rfl) (h.blk (hs.old hpb id)) (cls_piece hps hkn) (by rfl)) rfl ?_
    refine rg_nil fun ac ww L' hf hfe hs => ?_
    simp only [List.drop_succ_cons, List.drop_zero]
    obtain rfl : L' = [] := hfe
    replace hs := hs.toL (List.nil_append _)
    refine s_q hs (c_eqlClaimP (hs.ev rfl) (hs.ev rfl)) rfl fun ac hs => ?_
    refine s_end ?_
    refine then_n ?_
    refine s_cond hs rfl (fun hc => ?_) (fun hc => ?_)
    · try simp only [decide_eq_true_eq, decide_eq_false_iff_not, Bool.not_eq_true', Bool.not_eq_false', Bool.and_eq_true, Bool.or_eq_true, Bool.or_eq_false_iff] at hc
      have heq : x = l.getD k default := hc
      refine wp_seq ?_
      refine wp_reg ?_
      refine s_q hs (c_move (hs.ev rfl)) rfl fun ac hs => ?_
      refine s_q hs (c_assign (hs.ev rfl)) rfl fun ac hs => ?_
      refine s_end ?_
      refine then_n ?_
      refine wp_ret ?_
      refine blk_r ?_
      refine then_r ?_
      refine then_r ?_
      refine blk_r ?_
      refine then_r ?_
      refine s_ret hs rfl (.tmp (hs.tmp rfl) .nil) rfl ⟨_, rfl, hs.fr, ?_⟩
      refine .inl ⟨?_, k, rfl, hkn⟩
      rw [heq, getD_at hkn]
      exact List.getElem_mem hkn
    · try simp only [decide_eq_true_eq, decide_eq_false_iff_not, Bool.not_eq_true', Bool.not_eq_false', Bool.and_eq_true, Bool.or_eq_true, Bool.or_eq_false_iff] at hc
      have hne2 : ¬ l.getD k default = x := fun e => hc e.symm
      refine wp_skip ?_
      refine blk_n ?_
      refine then_n ?_
      refine wp_reg ?_
      refine s_q hs (c_addI (hs.ev rfl) (hs.ev rfl) (by omega) (by omega)) rfl fun ac hs => ?_
      refine s_q hs (c_move (hs.ev rfl)) rfl fun ac hs => ?_
      refine s_end ?_
      refine then_n ?_
      exact ⟨l.length - (k + 1), by omega, k + 1, ⟨by omega, rfl, fun i hi => by
          by_cases e : i = k
          · subst e; exact hne2
          · exact hne i (by omega)⟩, St.next hs ⟨rfl, rfl, rfl, rfl, trivial⟩ rfl⟩
  · try simp only [decide_eq_true_eq, decide_eq_false_iff_not, Bool.not_eq_true', Bool.not_eq_false', Bool.and_eq_true, Bool.or_eq_true, Bool.or_eq_false_iff] at hc
    obtain rfl : k = l.length := by omega
    refine wp_exit ?_
    refine then_e ?_
    refine then_e ?_
    refine blk_hit ?_
    refine then_n ?_
    refine wp_seq ?_
    refine wp_reg ?_
    refine s_q hs (c_assign (hs.ev rfl)) rfl fun ac hs => ?_
    refine s_end ?_
    replace hs := hs.sub (F' := [(4, _)]) ⟨rfl, trivial⟩
    refine then_n ?_
    refine wp_ret ?_
    refine s_ret hs rfl (.tmp (hs.tmp rfl) .nil) rfl ⟨_, rfl, hs.fr, ?_⟩
    refine .inr ⟨fun hm => ?_, rfl⟩
    obtain ⟨i, hi, e⟩ := List.getElem_of_mem hm
    exact hne i hi (by rw [getD_at hi]; exact e)
set_option maxHeartbeats 4000000 in
theorem tr_Contains (l : List Cl) (sv : Value) (x : Cl) (w : World) (hq : Rd w sv l.length (clsC l)) : Ctr Try.prog 19 [sv, x.v] w (fun _ => False) (fun v _ => v = .bool (decide (x ∈ l))) := by
  have hnl := hq.le
  obtain ⟨sad, scap, rfl, hsc, hsm⟩ := Rd.sl hq
  refine fn_start (N := 9) Try.func19 rfl rfl rfl fun ac hk => ?_
  have hs := St.start hk w
  refine wp_seq ?_
  refine wp_reg ?_
  refine s_box hs rfl rfl rfl fun ac ww g3 hs => ?_
  refine s_q hs (c_assign (hs.ev rfl)) rfl fun ac hs => ?_
  refine s_end ?_
  replace hs := hs.sub (F' := [(0, _), (3, _), (4, _)]) ⟨rfl, rfl, rfl, trivial⟩
  refine then_n ?_
  refine wp_seq ?_
  refine wp_reg ?_
  refine s_q hs (c_move (hs.ev rfl)) rfl fun ac hs => ?_
  refine s_q hs (c_loadW ty40 ag40 (hs.ev rfl) (hs.seg (i := 0) rfl) (by rfl)) rfl fun ac hs => ?_
  refine s_call hs fu26 (.cons (hs.ev rfl) (.cons (hs.ev rfl) .nil)) (tr_Index l _ x _ (hq.fr0 hs.fr)) rfl fun ac ww v7 hf hp hs => ?_
  obtain ⟨z, rfl, hz⟩ : ∃ z : Int, v7 = I z ∧ decide (0 ≤ z) = decide (x ∈ l) := by
    rcases hp with ⟨h1, k, rfl, _⟩ | ⟨h1, rfl⟩
    · exact ⟨_, rfl, by rw [decide_eq_true h1]; simp⟩
    · exact ⟨_, rfl, by rw [decide_eq_false h1]; rfl⟩
  replace hs := hs [] (.nil _ _)
  refine s_q hs (c_to (c_geqI (hs.ev rfl) (hs.ev rfl)) ((congrArg (fun b : Bool => Value.bool b) hz))) rfl fun ac hs => ?_
  refine s_q hs (c_assign (hs.ev rfl)) rfl fun ac hs => ?_
  refine s_end ?_
  replace hs := hs.sub (F' := [(4, _)]) ⟨rfl, trivial⟩
  refine then_n ?_
  refine wp_ret ?_
  refine s_ret hs rfl (.tmp (hs.tmp rfl) .nil) rfl ⟨_, rfl, hs.fr, ?_⟩
  rfl
end Go.Proofs.Ytklajbdbnnceiaa
end

section
/- Structs of which some fields alone are given. -/
set_option linter.unusedSimpArgs false
set_option linter.unusedVariables false
namespace Go.Fw
open Go
inductive EvQ (a : Act) : List (Nat × Operand) → List (Nat × Value) → Prop
  | nil : EvQ a [] []
  | cons {k : Nat} {x : Operand} {v : Value} {xs : List (Nat × Operand)} {vs : List (Nat × Value)} (h : a.eval x = v) (t : EvQ a xs vs) : EvQ a ((k, x) :: xs) ((k, v) :: vs)
theorem EvQ.map {a : Act} {xs : List (Nat × Operand)} {vs : List (Nat × Value)} (h : EvQ a xs vs) : (xs.map fun p => (p.1, a.eval p.2)) = vs := by
  induction h with
  | nil => rfl
  | cons h _ ih => rw [List.map_cons, ih, h]
section
variable {P : Program} {a : Act} {w : World} {d : Option Tmp} {ty : TypeId} {pos : String} {aft : Array Edge} {g : Option (Nat × Bool)} {t : TypeId}
theorem c_buildQ {bytes sz : Nat} {td : TypeDesc} {zs zc : List Value} {pl : Array (Nat × Nat)} {ps : Array (Nat × Operand)} {qs : List (Nat × Value)} (hT : Ty P t td sz bytes zs) (hB : BP P t pl)
    (hps : EvQ a ps.toList qs) (hf : Instr.fill (fun i => pl[i]?) zs.toArray qs = some zc.toArray) :
    (execOp a.eval ⟨d, .build t ps, ty, pos, aft, g⟩).run P w = .ok (.value (.agg zc.toArray)) w := by
  obtain ⟨v, hzv, hzc⟩ := hT.zero (w := w)
  obtain ⟨hb1, hb2⟩ := hB
  have hb3 := hb2 w
  simp only [bind_pure_comp] at hb3
  simp [execOp, Instr.build, hzv, hzc, run_underlying hb1, hb3, hps.map, hf]
end
section
variable {P : Program} {ops : Array Oper} {Q : Exit → Act → World → Prop} {rest : List Oper} {N : Nat} {F F' : List (Nat × Value)} {L L' : List Ent} {M : Nat → Prop} {w0 w : World} {a : Act}
variable {d : Tmp} {op : Op} {ty : TypeId} {pos : String} {aft : Array Edge} {x y z : Operand} {t u : TypeId}
/-- An operation whose guard is itself guarded. -/
theorem s_gn {j s : Nat} {b b1 c1 q : Bool} {v : Value} (hs : St N F L M w0 a w) (hj : (ops[j]?).bind (·.dst) = some s) (hb : look F s = some (if c1 = b1 then .bool q else undef))
    (hr : c1 = b1 → q = b → (execOp a.eval ⟨some d, op, ty, pos, aft, none⟩).run P w = .ok (.value v) w) (hd : Nat.blt d N = true)
    (k : ∀ a, St N ((d, if c1 = b1 then (if q = b then v else undef) else undef) :: F) L M w0 a w → wpList P ops Q rest a w) : wpList P ops Q (⟨some d, op, ty, pos, aft, some (j, b)⟩ :: rest) a w := by
  by_cases e : c1 = b1
  · rw [if_pos e] at hb k
    exact s_g hs hj hb (hr e) hd k
  · rw [if_neg e] at hb k
    exact s_noU hs hj hb hd k
end
section
variable {P : Program} {ops : Array Oper} {N B1 : Nat} {w1 : World} {K : List (Nat × Value) → Fes → Prop} {Fc : List (Nat × Value)} {Fe : Fes} {rest : List Oper}
variable {d : Tmp} {op : Op} {ty : TypeId} {pos : String} {aft : Array Edge}
end
end Go.Fw
end

section
/- Ledgers in memory. -/
set_option linter.unusedSimpArgs false
set_option linter.unusedVariables false
set_option maxRecDepth 100000
namespace Go.Proofs.Ytklajbdbnnceiaa
open Go Go.Fw
def whF (wh : Int → Bool) : Lit → Option Value := fun q => match q with | .int .i64 d => if wh d then some (.bool true) else none | _ => none
theorem whF_get (wh : Int → Bool) (d : Int) : (whF wh (.int .i64 d)).getD (.bool false) = .bool (wh d) := by
  simp only [whF]
  cases wh d <;> rfl
theorem whF_none : whF (fun _ => false) = fun _ => none := by
  funext q
  unfold whF
  split <;> rfl
theorem whF_put (wh : Int → Bool) (d : Int) : putL (whF wh) (.int .i64 d) (.bool true) = whF (fun y => decide (y = d) || wh y) := by
  funext q
  by_cases e : q = .int .i64 d
  · subst e
    rw [putL_same]
    simp [whF]
  · rw [putL_other e]
    unfold whF
    split
    · rename_i d2
      have : ¬ d2 = d := fun h => e (by rw [h])
      simp [this]
    · rfl
/-- A ledger: its block, what was shown, whose seed is known. -/
def led (g mb nb : Nat) (v : Value) (l : List Cl) (wh : Int → Bool) : List Ent := [.seg g [v, .map (some mb)] 63, .row v l.length (clsC l) 40 5, .mapV Try.prog 3 mb nb (whF wh)]
structure LedR (w : World) (g mb nb : Nat) (v : Value) (l : List Cl) (wh : Int → Bool) : Prop where
  hg : w.heap[g]? = some (.cells #[v, .map (some mb)] 63 (0, 0))
  rd : Rd w v l.length (clsC l)
  mp : MapV Try.prog 3 mb nb (whF wh) w
theorem LedR.fr0 {w w' : World} {g mb nb : Nat} {v : Value} {l : List Cl} {wh : Int → Bool} (h : LedR w g mb nb v l wh) (hf : Fr0 w w') : LedR w' g mb nb v l wh := by
  obtain ⟨es, cl, hb⟩ := h.mp.blk
  exact ⟨(hf.block g (heap_lt h.hg) id).trans h.hg, h.rd.fr0 hf, h.mp.loc (hf.block mb (heap_lt hb) id)⟩
theorem led_get {w : World} {g mb nb : Nat} {v : Value} {l : List Cl} {wh : Int → Bool} (h : Has 0 w (led g mb nb v l wh)) : LedR w g mb nb v l wh :=
  ⟨h.holds _ (List.mem_of_getElem? (i := 0) rfl), Rd.of_row (h.holds _ (List.mem_of_getElem? (i := 1) rfl)), h.holds _ (List.mem_of_getElem? (i := 2) rfl)⟩
def shOk (c : Cl) : Bool := decide (0 ≤ c.d) && decide (c.d < 8) && decide (0 ≤ c.mt)
def addC (l : List Cl) (c : Cl) : List Cl := if shOk c = true then l ++ [c] else l
def wOk (d : Int) : Bool := decide (0 ≤ d) && decide (d < 8)
def addW (wh : Int → Bool) (d : Int) : Int → Bool := if wOk d = true then fun y => decide (y = d) || wh y else wh
def ec (b : Bool) : Int := if b = true then 0 else 1
def nearS (d : Int) (ep sq : UInt32) (b : Int) (c : Cl) : Int := if c.d = d ∧ c.ep = ep ∧ c.sq = sq ∧ (b < 0 ∨ c.mt < b) then c.mt else b
def nearK (l : List Cl) (d : Int) (ep sq : UInt32) (k : Nat) : Int := (l.take k).foldl (nearS d ep sq) (-1)
def near (l : List Cl) (d : Int) (ep sq : UInt32) : Int := l.foldl (nearS d ep sq) (-1)
theorem nearK_succ {l : List Cl} {d : Int} {ep sq : UInt32} {k : Nat} (h : k < l.length) : nearK l d ep sq (k + 1) = nearS d ep sq (nearK l d ep sq k) (l.getD k default) := by
  rw [nearK, nearK, List.take_add_one, List.foldl_append, getD_at h, List.getElem?_eq_getElem h]
  rfl
theorem nearK_all (l : List Cl) (d : Int) (ep sq : UInt32) : nearK l d ep sq l.length = near l d ep sq := by rw [nearK, List.take_length]; rfl
def mayP (wh : Int → Bool) (l : List Cl) (c : Cl) : Bool := wh c.d || decide (c ∈ l) || (decide (0 ≤ near l c.d c.ep c.sq) && decide (near l c.d c.ep c.sq < c.mt))
theorem map3 : Go.Maps.Keyed Try.prog 3 := Go.Maps.int_keyed un3
set_option maxHeartbeats 4000000 in
theorem tr_Open  (w : World)  : Ctr Try.prog 5 [] w (fun _ => False) (fun v w' => ∃ g mb, v = .pointer (some ⟨g, 0, none⟩) ∧ Has w.heap.size w' (led g mb 0 (.slice none 0 0) [] (fun _ => false))) := by
  refine fn_start (N := 4) Try.func5 rfl rfl rfl fun ac hk => ?_
  have hs := St.start hk w
  refine wp_seq ?_
  refine wp_reg ?_
  refine s_q hs (c_assign (hs.ev rfl)) rfl fun ac hs => ?_
  refine s_end ?_
  refine then_n ?_
  refine wp_seq ?_
  refine wp_reg ?_
  refine s_makeMapV (k := 3) hs rfl fun ac ww mb hs => ?_
  refine s_q hs (c_buildQ (zc := [.slice none 0 0, .map (some mb)]) ty63 bp63 (.cons (hs.ev rfl) .nil) rfl) rfl fun ac hs => ?_
  refine s_box hs rfl rfl rfl fun ac ww g3 hs => ?_
  refine s_q hs (c_assign (hs.ev rfl)) rfl fun ac hs => ?_
  refine s_end ?_
  replace hs := hs.sub (F' := [(0, _)]) ⟨rfl, trivial⟩
  refine then_n ?_
  refine wp_ret ?_
  replace hs := ((hs.nilrow 40 5).perm (List.Perm.swap _ _ _)).toL (show _ = led g3 mb 0 (.slice none 0 0) [] (fun _ => false) from by rw [led, whF_none]; rfl)
  refine s_ret hs rfl (.tmp (hs.tmp rfl) .nil) rfl ⟨_, rfl, hs.fr, ?_⟩
  exact ⟨g3, mb, rfl, hs.made⟩
set_option maxHeartbeats 4000000 in
theorem tr_Show (g mb nb : Nat) (v : Value) (l : List Cl) (wh : Int → Bool) (c : Cl) (hl : l.length ≤ 100000) (w : World) (hled : Has 0 w (led g mb nb v l wh)) : Ctr Try.prog 6 [.pointer (some ⟨g, 0, none⟩), c.v] w (Ent.grp (led g mb nb v l wh)).keys (fun v2 w' => v2 = I (ec (shOk c)) ∧ ∃ v', Has 0 w' (led g mb nb v' (addC l c) wh) ∧ ∀ k, (Ent.grp (led g mb nb v' (addC l c) wh)).keys k → (Ent.grp (led g mb nb v l wh)).keys k ∨ w.heap.size ≤ k) := by
  refine fn_start (N := 33) Try.func6 rfl rfl rfl fun ac hk => ?_
  have hs := St.startG hk hled
  refine wp_seq ?_
  refine wp_reg ?_
  refine s_box hs rfl rfl rfl fun ac ww g3 hs => ?_
  refine s_q hs (c_assign (hs.ev rfl)) rfl fun ac hs => ?_
  refine s_end ?_
  replace hs := hs.sub (F' := [(0, _), (3, _), (4, _)]) ⟨rfl, rfl, rfl, trivial⟩
  refine then_n ?_
  refine wp_seq ?_
  refine wp_block ?_
  refine wp_seq ?_
  refine wp_reg ?_
  refine s_q hs (c_move (hs.ev rfl)) rfl fun ac hs => ?_
  refine s_q hs (c_eqlNil un28 (hs.ev rfl) (hs.ev rfl)) rfl fun ac hs => ?_
  refine s_q hs (c_assign (hs.ev rfl)) rfl fun ac hs => ?_
  refine s_end ?_
  replace hs := hs.sub (F' := [(0, _), (3, _), (4, _), (5, _)]) ⟨rfl, rfl, rfl, rfl, trivial⟩
  refine then_n ?_
  refine wp_cond_false (hs.ev rfl) ?_
  refine wp_seq ?_
  refine wp_reg ?_
  refine s_q hs (c_fld fl40_0 (hs.ev rfl)) rfl fun ac hs => ?_
  refine s_q hs (c_loadS un3 rfl (hs.ev rfl) (hs.seg (i := 0) rfl) rfl) rfl fun ac hs => ?_
  refine s_q hs (c_lssI (hs.ev rfl) (hs.ev rfl)) rfl fun ac hs => ?_
  refine s_q hs (c_move (hs.ev rfl)) rfl fun ac hs => ?_
  refine s_g hs rfl rfl (fun hg => c_fld fl40_0 (hs.ev rfl)) rfl fun ac hs => ?_
  refine s_g hs rfl rfl (fun hg => c_loadS un3 rfl (gev (hs.ev rfl) hg) (hs.seg (i := 0) rfl) rfl) rfl fun ac hs => ?_
  refine s_g hs rfl rfl (fun hg => c_geqI (gev (hs.ev rfl) hg) (hs.ev rfl)) rfl fun ac hs => ?_
  refine s_q hs (c_or (hs.ev rfl) (hs.ev rfl)) rfl fun ac hs => ?_
  refine s_q hs (c_move (hs.ev rfl)) rfl fun ac hs => ?_
  refine s_g hs rfl rfl (fun hg => c_fld fl40_1 (hs.ev rfl)) rfl fun ac hs => ?_
  refine s_g hs rfl rfl (fun hg => c_fld fl38_2 (gev (hs.ev rfl) hg)) rfl fun ac hs => ?_
  refine s_g hs rfl rfl (fun hg => c_loadS un3 rfl (gev (hs.ev rfl) hg) (hs.seg (i := 0) rfl) rfl) rfl fun ac hs => ?_
  refine s_g hs rfl rfl (fun hg => c_lssI (gev (hs.ev rfl) hg) (hs.ev rfl)) rfl fun ac hs => ?_
  refine s_q hs (c_or (hs.ev rfl) (hs.ev rfl)) rfl fun ac hs => ?_
  refine s_q hs (c_assign (hs.ev rfl)) rfl fun ac hs => ?_
  refine s_end ?_
  replace hs := hs.sub (F' := [(0, _), (3, _), (4, _), (8, _)]) ⟨rfl, rfl, rfl, rfl, trivial⟩
  refine then_n ?_
  refine s_cond hs rfl (fun hc => ?_) (fun hc => ?_)
  · skip
    have hno : shOk c = false := by
      simp [shOk] at hc ⊢
      omega
    refine wp_seq ?_
    refine wp_reg ?_
    refine s_q hs (c_assign (hs.ev rfl)) rfl fun ac hs => ?_
    refine s_end ?_
    replace hs := hs.sub (F' := [(0, _), (3, _), (4, _)]) ⟨rfl, rfl, rfl, trivial⟩
    refine then_n ?_
    refine wp_ret ?_
    refine blk_r ?_
    refine then_r ?_
    refine s_ret hs rfl (.tmp (hs.tmp rfl) .nil) rfl ⟨_, rfl, hs.fr, ?_⟩
    refine ⟨by rw [hno]; rfl, v, ?_⟩
    rw [addC, hno]
    exact (hs.pick (L' := led g mb nb v l wh) (.cons _ (.refl _))).grp
  · skip
    have hyes : shOk c = true := by
      simp [shOk] at hc ⊢
      omega
    refine wp_skip ?_
    refine blk_n ?_
    refine then_n ?_
    refine wp_seq ?_
    obtain ⟨vad, vcap, rfl, hvc, hvm⟩ := Rd.sl (Rd.of_row (hs.get (i := 2) rfl))
    refine wp_region_rgX (J := [0]) pmix 7 (by kernel_rfl) (by kernel_rfl) rfl rfl hs ?_
    simp only [List.take_succ_cons, List.take_zero]
    refine rg_q (fun ac ww h => c_move (h.ev rfl)) rfl ?_
    refine rg_q (fun ac ww h => c_move (h.ev rfl)) rfl ?_
    refine rg_q (fun ac ww h => c_nil (h.ev rfl)) rfl ?_
    refine rg_q (fun ac ww h => c_fld fl63_0 (h.ev rfl)) rfl ?_
    refine rg_q (fun ac ww h => c_loadS un61 rfl (h.ev rfl) (h.blk (hs.seg (i := 1) rfl)) rfl) rfl ?_
    refine rg_q (fun ac ww h => c_loadW ty40 ag40 (h.ev rfl) (h.blk (hs.seg (i := 0) rfl)) (by rfl)) rfl ?_
    refine rg_bslice un61 ty40 (fun ac ww h => (.cons (h.ev rfl) .nil)) rfl (by simp [Value.cells]) (by decide) rfl rfl ?_
    refine rg_nil fun ac ww L' hf hfe hs hlk => ?_
    simp only [List.drop_succ_cons, List.drop_zero]
    obtain ⟨v29, L29, M29, h29, e29, rfl, rfl⟩ := hfe
    replace hs := hs.add h29
    obtain ⟨g29, rfl, rfl⟩ := e29
    refine sk_append (i := 3) hs un61 ty40 (by decide) rfl rfl rfl (Rd.of_seg (n := 1) (hs.seg (i := 0) rfl) (Nat.le_refl _) (by decide) (List.take_of_length_le (by simp [flatCells, Value.cells]))) (by simp [flatCells, Value.cells]) (by simp [flatCells, Value.cells, Value.oneCell', U]) (by unfold maxLen; omega) (by omega) rfl (fun ac ww v30 hf hnil hs => late_turn rfl rfl (late_nil)) fun ac ww v30 hf hnil hs => ?_
    obtain ⟨ad30, cap30, rfl, _, _⟩ := Rd.sl (Rd.of_row (hs.get (i := 3) rfl))
    refine s_q hs (c_nil (hs.ev rfl)) rfl fun ac hs => ?_
    refine s_q hs (c_fld fl63_0 (hs.ev rfl)) rfl fun ac hs => ?_
    refine s_store (i := 2) hs ty61 rfl rfl rfl rfl rfl rfl (by simp) rfl fun ww hs => ?_
    refine s_end ?_
    replace hs := hs.sub (F' := [(4, _)]) ⟨rfl, trivial⟩
    refine then_n ?_
    refine wp_seq ?_
    refine wp_reg ?_
    refine s_q hs (c_assign (hs.ev rfl)) rfl fun ac hs => ?_
    refine s_end ?_
    refine then_n ?_
    refine wp_ret ?_
    refine s_ret hs rfl (.tmp (hs.tmp rfl) .nil) rfl ⟨_, rfl, hs.fr, ?_⟩
    rw [show addC l c = l ++ [c] from if_pos hyes]
    exact ⟨by rw [hyes]; rfl, _, ((hs.pick (L' := [_, _, _]) (.cons _ (.cons _ (.refl _)))).toL (L' := led g mb nb _ (l ++ [c]) wh) (by rw [led, clsC_append, clsC_one, List.length_append]; rfl)).grp⟩
set_option maxHeartbeats 4000000 in
theorem tr_Whole (g mb nb : Nat) (v : Value) (l : List Cl) (wh : Int → Bool) (d : Int) (hn : nb ≤ 100000) (w : World) (hled : Has 0 w (led g mb nb v l wh)) : Ctr Try.prog 8 [.pointer (some ⟨g, 0, none⟩), I d] w (Ent.grp (led g mb nb v l wh)).keys (fun v2 w' => v2 = I (ec (wOk d)) ∧ ∃ nb', nb' ≤ nb + 1 ∧ Has 0 w' (led g mb nb' v l (addW wh d)) ∧ ∀ k, (Ent.grp (led g mb nb' v l (addW wh d))).keys k → (Ent.grp (led g mb nb v l wh)).keys k ∨ w.heap.size ≤ k) := by
  refine fn_start (N := 20) Try.func8 rfl rfl rfl fun ac hk => ?_
  have hs := St.startG hk hled
  refine wp_seq ?_
  refine wp_reg ?_
  refine s_q hs (c_assign (hs.ev rfl)) rfl fun ac hs => ?_
  refine s_end ?_
  refine then_n ?_
  refine wp_seq ?_
  refine wp_block ?_
  refine wp_seq ?_
  refine wp_reg ?_
  refine s_q hs (c_move (hs.ev rfl)) rfl fun ac hs => ?_
  refine s_q hs (c_eqlNil un28 (hs.ev rfl) (hs.ev rfl)) rfl fun ac hs => ?_
  refine s_q hs (c_assign (hs.ev rfl)) rfl fun ac hs => ?_
  refine s_end ?_
  replace hs := hs.sub (F' := [(0, _), (1, _), (4, _), (5, _)]) ⟨rfl, rfl, rfl, rfl, trivial⟩
  refine then_n ?_
  refine wp_cond_false (hs.ev rfl) ?_
  refine wp_seq ?_
  refine wp_reg ?_
  refine s_q hs (c_move (hs.ev rfl)) rfl fun ac hs => ?_
  refine s_q hs (c_lssI (hs.ev rfl) (hs.ev rfl)) rfl fun ac hs => ?_
  refine s_q hs (c_move (hs.ev rfl)) rfl fun ac hs => ?_
  refine s_g hs rfl rfl (fun hg => c_move (hs.ev rfl)) rfl fun ac hs => ?_
  refine s_g hs rfl rfl (fun hg => c_geqI (gev (hs.ev rfl) hg) (hs.ev rfl)) rfl fun ac hs => ?_
  refine s_q hs (c_or (hs.ev rfl) (hs.ev rfl)) rfl fun ac hs => ?_
  refine s_q hs (c_assign (hs.ev rfl)) rfl fun ac hs => ?_
  refine s_end ?_
  replace hs := hs.sub (F' := [(0, _), (1, _), (4, _), (8, _)]) ⟨rfl, rfl, rfl, rfl, trivial⟩
  refine then_n ?_
  refine s_cond hs rfl (fun hc => ?_) (fun hc => ?_)
  · skip
    have hno : wOk d = false := by
      simp [wOk] at hc ⊢
      omega
    refine wp_seq ?_
    refine wp_reg ?_
    refine s_q hs (c_assign (hs.ev rfl)) rfl fun ac hs => ?_
    refine s_end ?_
    replace hs := hs.sub (F' := [(0, _), (1, _), (4, _)]) ⟨rfl, rfl, rfl, trivial⟩
    refine then_n ?_
    refine wp_ret ?_
    refine blk_r ?_
    refine then_r ?_
    refine s_ret hs rfl (.tmp (hs.tmp rfl) .nil) rfl ⟨_, rfl, hs.fr, ?_⟩
    rw [show addW wh d = wh from by rw [addW, hno]; rfl]
    exact ⟨by rw [hno]; rfl, nb, by omega, hs.grp⟩
  · skip
    have hyes : wOk d = true := by
      simp [wOk] at hc ⊢
      omega
    have hd8 : 0 ≤ d ∧ d < 8 := by simpa [wOk] using hyes
    refine wp_skip ?_
    refine blk_n ?_
    refine then_n ?_
    refine wp_seq ?_
    refine wp_reg ?_
    refine s_q hs (c_move (hs.ev rfl)) rfl fun ac hs => ?_
    refine s_q hs (c_nil (hs.ev rfl)) rfl fun ac hs => ?_
    refine s_q hs (c_fld fl63_1 (hs.ev rfl)) rfl fun ac hs => ?_
    refine s_q hs (c_loadS un60 rfl (hs.ev rfl) (hs.seg (i := 0) rfl) rfl) rfl fun ac hs => ?_
    refine s_q hs (c_move (hs.ev rfl)) rfl fun ac hs => ?_
    refine s_mapPut (i := 2) hs map3 Try.underlying60 rfl rfl rfl (int_key un3 (by omega)) rfl (by unfold maxLen; omega) fun ww hs => ?_
    refine s_end ?_
    replace hs := hs.sub (F' := [(4, _)]) ⟨rfl, trivial⟩
    refine then_n ?_
    refine wp_seq ?_
    refine wp_reg ?_
    refine s_q hs (c_assign (hs.ev rfl)) rfl fun ac hs => ?_
    refine s_end ?_
    refine then_n ?_
    refine wp_ret ?_
    refine s_ret hs rfl (.tmp (hs.tmp rfl) .nil) rfl ⟨_, rfl, hs.fr, ?_⟩
    rw [show addW wh d = fun y => decide (y = d) || wh y from if_pos hyes]
    exact ⟨by rw [hyes]; rfl, nb + 1, Nat.le_refl _, (hs.toL (L' := led g mb (nb + 1) v l (fun y => decide (y = d) || wh y)) (by rw [whF_put]; rfl)).grp⟩
set_option maxHeartbeats 4000000 in
theorem tr_Nearest (g mb nb : Nat) (v : Value) (l : List Cl) (wh : Int → Bool) (d : Int) (ep sq : UInt32) (w : World) (hlr : LedR w g mb nb v l wh) : Ctr Try.prog 11 [.pointer (some ⟨g, 0, none⟩), I d, U ep, U sq] w (fun _ => False) (fun v2 _ => v2 = I (near l d ep sq)) := by
  have hnl := hlr.rd.le
  obtain ⟨vad, vcap, rfl, hvc, hvm⟩ := Rd.sl hlr.rd
  refine fn_start (N := 58) Try.func11 rfl rfl rfl fun ac hk => ?_
  have hs := St.start hk w
  refine wp_seq ?_
  refine wp_reg ?_
  refine s_q hs (c_assign (hs.ev rfl)) rfl fun ac hs => ?_
  refine s_end ?_
  refine then_n ?_
  refine wp_seq ?_
  refine wp_reg ?_
  refine s_q hs (c_assign (hs.ev rfl)) rfl fun ac hs => ?_
  refine s_end ?_
  refine then_n ?_
  refine wp_seq ?_
  refine wp_seq ?_
  refine wp_reg ?_
  refine s_q hs (c_move (hs.ev rfl)) rfl fun ac hs => ?_
  refine s_q hs (c_eqlNil un28 (hs.ev rfl) (hs.ev rfl)) rfl fun ac hs => ?_
  refine s_end ?_
  replace hs := hs.sub (F' := [(0, _), (1, _), (2, _), (3, _), (8, _), (9, _), (13, _)]) ⟨rfl, rfl, rfl, rfl, rfl, rfl, rfl, trivial⟩
  refine then_n ?_
  refine wp_cond_false (hs.ev rfl) ?_
  refine wp_skip ?_
  refine then_n ?_
  refine wp_seq ?_
  refine wp_seq ?_
  refine wp_reg ?_
  refine s_q hs (c_move (hs.ev rfl)) rfl fun ac hs => ?_
  refine s_q hs (c_nil (hs.ev rfl)) rfl fun ac hs => ?_
  refine s_q hs (c_fld fl63_0 (hs.ev rfl)) rfl fun ac hs => ?_
  refine s_q hs (c_loadS un61 rfl (hs.ev rfl) (hs.old hlr.hg id) rfl) rfl fun ac hs => ?_
  refine s_q hs (c_lenS un61 (hs.ev rfl)) rfl fun ac hs => ?_
  refine s_q hs (c_move (hs.ev rfl)) rfl fun ac hs => ?_
  refine s_end ?_
  replace hs := hs.sub (F' := [(1, _), (2, _), (3, _), (8, _), (9, _), (18, _), (19, _), (20, _)]) ⟨rfl, rfl, rfl, rfl, rfl, rfl, rfl, rfl, trivial⟩
  refine then_n ?_
  refine wp_block ?_
  refine s_loop hs (X := Nat) (fun k => [(9, I (nearK l d ep sq k)), (20, I k)]) [(1, _), (2, _), (3, _), (8, _), (18, _), (19, _)] (fun _ => []) (fun n k => k ≤ l.length ∧ n = l.length - k) (_) (0) (⟨Nat.zero_le _, rfl⟩) ⟨rfl, rfl, rfl, rfl, rfl, rfl, rfl, rfl, trivial⟩ rfl ?_
  rintro n k ac ww hok hs
  simp only [List.cons_append, List.nil_append] at hs
  obtain ⟨hk, rfl⟩ := hok
  refine wp_seq ?_
  refine wp_reg ?_
  refine s_q hs (c_lssI (hs.ev rfl) (hs.ev rfl)) rfl fun ac hs => ?_
  refine s_end ?_
  refine then_n ?_
  refine wp_seq ?_
  refine s_cond hs rfl (fun hc => ?_) (fun hc => ?_)
  · try simp only [decide_eq_true_eq, decide_eq_false_iff_not, Bool.not_eq_true', Bool.not_eq_false', Bool.and_eq_true, Bool.or_eq_true, Bool.or_eq_false_iff] at hc
    have hkn : k < l.length := by omega
    obtain ⟨pb, po, pT, pf, pall, rfl, hpb, hps⟩ := Rd.cls_at hlr.rd (by omega)
    have hsu := nearK_succ (d := d) (ep := ep) (sq := sq) hkn
    obtain ⟨x, hx⟩ : ∃ x, l.getD k default = x := ⟨_, rfl⟩
    rw [hx] at hsu
    refine wp_skip ?_
    refine then_n ?_
    refine wp_seq ?_
    refine wp_block ?_
    refine wp_seq ?_
    refine wp_reg ?_
    refine s_q hs (c_idxS (j := k) un61 ty40 (hs.ev rfl) (hs.ev rfl) (by omega) (by omega)) rfl fun ac hs => ?_
    refine s_q hs (c_loadA ty40 ag40 (hs.ev rfl) (hs.old hpb id) ((cls_piece hps hkn).trans (congrArg Cl.c hx)) (by rfl)) rfl fun ac hs => ?_
    refine s_alloc hs ty40 rfl fun ac ww g11 hs => ?_
    refine s_storeW (i := 0) hs ty40 rfl rfl rfl (by rfl) (by rfl) rfl fun ww hs => ?_
    refine s_end ?_
    refine then_n ?_
    refine wp_seq ?_
    refine wp_reg ?_
    refine s_q hs (c_fld fl40_0 (hs.ev rfl)) rfl fun ac hs => ?_
    refine s_q hs (c_loadS un3 rfl (hs.ev rfl) (hs.seg (i := 0) rfl) rfl) rfl fun ac hs => ?_
    refine s_q hs (c_move (hs.ev rfl)) rfl fun ac hs => ?_
    refine s_q hs (c_eqlI (hs.ev rfl) (hs.ev rfl)) rfl fun ac hs => ?_
    refine s_q hs (c_move (hs.ev rfl)) rfl fun ac hs => ?_
    refine s_g hs rfl rfl (fun hg => c_fld fl40_1 (hs.ev rfl)) rfl fun ac hs => ?_
    refine s_g hs rfl rfl (fun hg => c_fld fl38_0 (gev (hs.ev rfl) hg)) rfl fun ac hs => ?_
    refine s_g hs rfl rfl (fun hg => c_loadS un23 rfl (gev (hs.ev rfl) hg) (hs.seg (i := 0) rfl) rfl) rfl fun ac hs => ?_
    refine s_g hs rfl rfl (fun hg => c_move (hs.ev rfl)) rfl fun ac hs => ?_
    refine s_g hs rfl rfl (fun hg => c_eqlU (gev (hs.ev rfl) hg) (gev (hs.ev rfl) hg)) rfl fun ac hs => ?_
    refine s_q hs (c_and (hs.ev rfl) (hs.ev rfl)) rfl fun ac hs => ?_
    refine s_q hs (c_move (hs.ev rfl)) rfl fun ac hs => ?_
    refine s_g hs rfl rfl (fun hg => c_fld fl40_1 (hs.ev rfl)) rfl fun ac hs => ?_
    refine s_g hs rfl rfl (fun hg => c_fld fl38_1 (gev (hs.ev rfl) hg)) rfl fun ac hs => ?_
    refine s_g hs rfl rfl (fun hg => c_loadS un23 rfl (gev (hs.ev rfl) hg) (hs.seg (i := 0) rfl) rfl) rfl fun ac hs => ?_
    refine s_g hs rfl rfl (fun hg => c_move (hs.ev rfl)) rfl fun ac hs => ?_
    refine s_g hs rfl rfl (fun hg => c_eqlU (gev (hs.ev rfl) hg) (gev (hs.ev rfl) hg)) rfl fun ac hs => ?_
    refine s_q hs (c_and (hs.ev rfl) (hs.ev rfl)) rfl fun ac hs => ?_
    refine s_q hs (c_move (hs.ev rfl)) rfl fun ac hs => ?_
    refine s_g hs rfl rfl (fun hg => c_move (hs.ev rfl)) rfl fun ac hs => ?_
    refine s_g hs rfl rfl (fun hg => c_lssI (gev (hs.ev rfl) hg) (hs.ev rfl)) rfl fun ac hs => ?_
    refine s_g hs rfl rfl (fun hg => c_move (gev (hs.ev rfl) hg)) rfl fun ac hs => ?_
    refine s_gn hs rfl rfl (fun hc hg => c_fld fl40_1 (hs.ev rfl)) rfl fun ac hs => ?_
    refine s_gn hs rfl rfl (fun hc hg => c_fld fl38_2 (gev (gev (hs.ev rfl) hc) hg)) rfl fun ac hs => ?_
    refine s_gn hs rfl rfl (fun hc hg => c_loadS un3 rfl (gev (gev (hs.ev rfl) hc) hg) (hs.seg (i := 0) rfl) rfl) rfl fun ac hs => ?_
    refine s_gn hs rfl rfl (fun hc hg => c_move (hs.ev rfl)) rfl fun ac hs => ?_
    refine s_gn hs rfl rfl (fun hc hg => c_lssI (gev (gev (hs.ev rfl) hc) hg) (gev (gev (hs.ev rfl) hc) hg)) rfl fun ac hs => ?_
    refine s_g hs rfl rfl (fun hg => c_or (gev (hs.ev rfl) hg) (gev (hs.ev rfl) hg)) rfl fun ac hs => ?_
    refine s_q hs (c_and (hs.ev rfl) (hs.ev rfl)) rfl fun ac hs => ?_
    refine s_end ?_
    refine then_n ?_
    refine s_cond hs rfl (fun hc => ?_) (fun hc => ?_)
    · skip
      have hnx : nearK l d ep sq (k + 1) = x.mt := by
        rw [hsu, nearS, if_pos]
        simp at hc
        obtain ⟨⟨⟨h1, h2⟩, h3⟩, h4⟩ := hc
        exact ⟨h1, h2, h3, h4⟩
      refine wp_reg ?_
      refine s_q hs (c_fld fl40_1 (hs.ev rfl)) rfl fun ac hs => ?_
      refine s_q hs (c_fld fl38_2 (hs.ev rfl)) rfl fun ac hs => ?_
      refine s_q hs (c_loadS un3 rfl (hs.ev rfl) (hs.seg (i := 0) rfl) rfl) rfl fun ac hs => ?_
      refine s_q hs (c_assign (hs.ev rfl)) rfl fun ac hs => ?_
      refine s_end ?_
      refine blk_n ?_
      refine then_n ?_
      refine wp_reg ?_
      refine s_q hs (c_addI (hs.ev rfl) (hs.ev rfl) (by omega) (by omega)) rfl fun ac hs => ?_
      refine s_q hs (c_move (hs.ev rfl)) rfl fun ac hs => ?_
      refine s_end ?_
      refine then_n ?_
      replace hs := hs.pick (L' := []) (.cons _ (.refl _))
      exact ⟨l.length - (k + 1), by omega, k + 1, ⟨by omega, rfl⟩, St.next hs ⟨(congrArg (fun z => some (I z)) hnx.symm), rfl, rfl, rfl, rfl, rfl, rfl, rfl, trivial⟩ rfl⟩
    · skip
      have hnx : nearK l d ep sq (k + 1) = nearK l d ep sq k := by
        rw [hsu, nearS, if_neg]
        rintro ⟨h1, h2, h3, h4⟩
        simp [h1, h2, h3] at hc
        omega
      refine wp_skip ?_
      refine blk_n ?_
      refine then_n ?_
      refine wp_reg ?_
      refine s_q hs (c_addI (hs.ev rfl) (hs.ev rfl) (by omega) (by omega)) rfl fun ac hs => ?_
      refine s_q hs (c_move (hs.ev rfl)) rfl fun ac hs => ?_
      refine s_end ?_
      refine then_n ?_
      replace hs := hs.pick (L' := []) (.cons _ (.refl _))
      exact ⟨l.length - (k + 1), by omega, k + 1, ⟨by omega, rfl⟩, St.next hs ⟨(congrArg (fun z => some (I z)) hnx.symm), rfl, rfl, rfl, rfl, rfl, rfl, rfl, trivial⟩ rfl⟩
  · try simp only [decide_eq_true_eq, decide_eq_false_iff_not, Bool.not_eq_true', Bool.not_eq_false', Bool.and_eq_true, Bool.or_eq_true, Bool.or_eq_false_iff] at hc
    obtain rfl : k = l.length := by omega
    refine wp_exit ?_
    refine then_e ?_
    refine then_e ?_
    refine blk_hit ?_
    refine then_n ?_
    refine wp_seq ?_
    refine wp_reg ?_
    refine s_q hs (c_move (hs.ev rfl)) rfl fun ac hs => ?_
    refine s_q hs (c_assign (hs.ev rfl)) rfl fun ac hs => ?_
    refine s_end ?_
    replace hs := hs.sub (F' := [(8, _)]) ⟨rfl, trivial⟩
    refine then_n ?_
    refine wp_ret ?_
    refine s_ret hs rfl (.tmp (hs.tmp rfl) .nil) rfl ⟨_, rfl, hs.fr, ?_⟩
    rw [nearK_all]
    rfl
set_option maxHeartbeats 4000000 in
theorem tr_May (g mb nb : Nat) (v : Value) (l : List Cl) (wh : Int → Bool) (c : Cl) (hcd : -9223372036854775808 ≤ c.d ∧ c.d ≤ 9223372036854775807) (w : World) (hlr : LedR w g mb nb v l wh) : Ctr Try.prog 9 [.pointer (some ⟨g, 0, none⟩), c.v] w (fun _ => False) (fun v2 _ => v2 = .bool (mayP wh l c)) := by
  have hnl := hlr.rd.le
  obtain ⟨vad, vcap, rfl, hvc, hvm⟩ := Rd.sl hlr.rd
  refine fn_start (N := 42) Try.func9 rfl rfl rfl fun ac hk => ?_
  have hs := St.start hk w
  refine wp_seq ?_
  refine wp_reg ?_
  refine s_box hs rfl rfl rfl fun ac ww g3 hs => ?_
  refine s_q hs (c_assign (hs.ev rfl)) rfl fun ac hs => ?_
  refine s_end ?_
  replace hs := hs.sub (F' := [(0, _), (3, _), (4, _)]) ⟨rfl, rfl, rfl, trivial⟩
  refine then_n ?_
  refine wp_seq ?_
  refine wp_seq ?_
  refine wp_reg ?_
  refine s_q hs (c_move (hs.ev rfl)) rfl fun ac hs => ?_
  refine s_q hs (c_eqlNil un28 (hs.ev rfl) (hs.ev rfl)) rfl fun ac hs => ?_
  refine s_end ?_
  replace hs := hs.sub (F' := [(0, _), (3, _), (4, _), (7, _)]) ⟨rfl, rfl, rfl, rfl, trivial⟩
  refine then_n ?_
  refine wp_cond_false (hs.ev rfl) ?_
  refine wp_skip ?_
  refine then_n ?_
  refine wp_seq ?_
  refine wp_seq ?_
  refine wp_region_rg pmix 15 (by kernel_rfl) rfl hs ?_
  simp only [List.take_succ_cons, List.take_zero]
  refine rg_q (fun ac ww h => c_move (h.ev rfl)) rfl ?_
  refine rg_q (fun ac ww h => c_nil (h.ev rfl)) rfl ?_
  refine rg_q (fun ac ww h => c_fld fl63_1 (h.ev rfl)) rfl ?_
  refine rg_q (fun ac ww h => c_loadS un60 rfl (h.ev rfl) (h.blk (hs.old hlr.hg id)) rfl) rfl ?_
  refine rg_q (fun ac ww h => c_fld fl40_0 (h.ev rfl)) rfl ?_
  refine rg_q (fun ac ww h => c_loadS un3 rfl (h.ev rfl) (h.blk (hs.seg (i := 0) rfl)) rfl) rfl ?_
  refine rg_q (fun ac ww h => c_to (c_lookupW map3 Try.underlying60 (by kernel_rfl) (hlr.fr0 (hs.fr.trans0 h.fr)).mp (h.ev rfl) (h.ev rfl) (int_key un3 hcd)) ((whF_get wh c.d))) rfl ?_
  refine rg_q (fun ac ww h => c_move (h.ev rfl)) rfl ?_
  refine rg_g rfl rfl (fun hg ac ww h => c_move (h.ev rfl)) rfl ?_
  refine rg_g rfl rfl (fun hg ac ww h => c_nil (gev (h.ev rfl) hg)) rfl ?_
  refine rg_g rfl rfl (fun hg ac ww h => c_fld fl63_0 (gev (h.ev rfl) hg)) rfl ?_
  refine rg_g rfl rfl (fun hg ac ww h => c_loadS un61 rfl (gev (h.ev rfl) hg) (h.blk (hs.old hlr.hg id)) rfl) rfl ?_
  refine rg_g rfl rfl (fun hg ac ww h => c_loadW ty40 ag40 (h.ev rfl) (h.blk (hs.seg (i := 0) rfl)) (by rfl)) rfl ?_
  refine rg_gcall rfl rfl fu19 (fun hg ac ww h => (.cons (gev (h.ev rfl) hg) (.cons (gev (h.ev rfl) hg) .nil))) (fun hg ww hf => tr_Contains l _ c _ (hlr.rd.fr0 (hs.fr.trans0 hf))) rfl ?_
  refine rg_q (fun ac ww h => c_or (h.ev rfl) (h.ev rfl)) rfl ?_
  refine rg_nil fun ac ww L' hf hfe hs => ?_
  simp only [List.drop_succ_cons, List.drop_zero]
  obtain rfl : L' = [] := hfe
  replace hs := hs.toL (List.nil_append _)
  refine s_end ?_
  replace hs := hs.sub (F' := [(0, _), (3, _), (4, _), (22, _)]) ⟨rfl, rfl, rfl, rfl, trivial⟩
  refine then_n ?_
  refine s_cond hs rfl (fun hc => ?_) (fun hc => ?_)
  · skip
    refine wp_seq ?_
    refine wp_reg ?_
    refine s_q hs (c_assign (hs.ev rfl)) rfl fun ac hs => ?_
    refine s_end ?_
    replace hs := hs.sub (F' := [(0, _), (3, _), (4, _)]) ⟨rfl, rfl, rfl, trivial⟩
    refine then_n ?_
    refine wp_ret ?_
    refine then_r ?_
    refine s_ret hs rfl (.tmp (hs.tmp rfl) .nil) rfl ⟨_, rfl, hs.fr, ?_⟩
    show _ = Value.bool (mayP wh l c)
    rw [mayP, hc]
    rfl
  · skip
    refine wp_skip ?_
    refine then_n ?_
    refine wp_seq ?_
    refine wp_reg ?_
    refine s_q hs (c_move (hs.ev rfl)) rfl fun ac hs => ?_
    refine s_q hs (c_fld fl40_0 (hs.ev rfl)) rfl fun ac hs => ?_
    refine s_q hs (c_loadS un3 rfl (hs.ev rfl) (hs.seg (i := 0) rfl) rfl) rfl fun ac hs => ?_
    refine s_q hs (c_fld fl40_1 (hs.ev rfl)) rfl fun ac hs => ?_
    refine s_q hs (c_fld fl38_0 (hs.ev rfl)) rfl fun ac hs => ?_
    refine s_q hs (c_loadS un23 rfl (hs.ev rfl) (hs.seg (i := 0) rfl) rfl) rfl fun ac hs => ?_
    refine s_q hs (c_fld fl40_1 (hs.ev rfl)) rfl fun ac hs => ?_
    refine s_q hs (c_fld fl38_1 (hs.ev rfl)) rfl fun ac hs => ?_
    refine s_q hs (c_loadS un23 rfl (hs.ev rfl) (hs.seg (i := 0) rfl) rfl) rfl fun ac hs => ?_
    refine s_call hs fu11 (.cons (hs.ev rfl) (.cons (hs.ev rfl) (.cons (hs.ev rfl) (.cons (hs.ev rfl) .nil)))) (tr_Nearest _ _ _ _ _ _ _ _ _ _ (hlr.fr0 hs.fr)) rfl fun ac ww v32 hf hp hs => ?_
    obtain rfl := hp
    replace hs := hs [] (.nil _ _)
    refine s_q hs (c_assign (hs.ev rfl)) rfl fun ac hs => ?_
    refine s_end ?_
    replace hs := hs.sub (F' := [(3, _), (4, _), (5, _)]) ⟨rfl, rfl, rfl, trivial⟩
    refine then_n ?_
    refine wp_seq ?_
    refine wp_reg ?_
    refine s_q hs (c_move (hs.ev rfl)) rfl fun ac hs => ?_
    refine s_q hs (c_geqI (hs.ev rfl) (hs.ev rfl)) rfl fun ac hs => ?_
    refine s_q hs (c_move (hs.ev rfl)) rfl fun ac hs => ?_
    refine s_g hs rfl rfl (fun hg => c_move (hs.ev rfl)) rfl fun ac hs => ?_
    refine s_g hs rfl rfl (fun hg => c_fld fl40_1 (hs.ev rfl)) rfl fun ac hs => ?_
    refine s_g hs rfl rfl (fun hg => c_fld fl38_2 (gev (hs.ev rfl) hg)) rfl fun ac hs => ?_
    refine s_g hs rfl rfl (fun hg => c_loadS un3 rfl (gev (hs.ev rfl) hg) (hs.seg (i := 0) rfl) rfl) rfl fun ac hs => ?_
    refine s_g hs rfl rfl (fun hg => c_lssI (gev (hs.ev rfl) hg) (gev (hs.ev rfl) hg)) rfl fun ac hs => ?_
    refine s_q hs (c_and (hs.ev rfl) (hs.ev rfl)) rfl fun ac hs => ?_
    refine s_q hs (c_assign (hs.ev rfl)) rfl fun ac hs => ?_
    refine s_end ?_
    replace hs := hs.sub (F' := [(4, _)]) ⟨rfl, trivial⟩
    refine then_n ?_
    refine wp_ret ?_
    refine s_ret hs rfl (.tmp (hs.tmp rfl) .nil) rfl ⟨_, rfl, hs.fr, ?_⟩
    show _ = Value.bool (mayP wh l c)
    rw [mayP]
    rw [show (wh c.d || decide (c ∈ l)) = false from hc, Bool.false_or]
    rfl
end Go.Proofs.Ytklajbdbnnceiaa
end

section
/- The reference's ledger. -/
set_option linter.unusedSimpArgs false
set_option linter.unusedVariables false
set_option maxRecDepth 100000
namespace Go.Proofs.Ytklajbdbnnceiaa
open Go Go.Fw
def ledC (v : Value) (wh : Int → Bool) : List Value := [v, .bool (wh 0), .bool (wh 1), .bool (wh 2), .bool (wh 3), .bool (wh 4), .bool (wh 5), .bool (wh 6), .bool (wh 7)]
theorem dlt {d : Int} (h : (decide (0 ≤ d) && decide (d < 8)) = true) : d = (d.toNat : Int) ∧ d.toNat < 8 := by
  simp at h
  omega
theorem ledC_at (v : Value) (wh : Int → Bool) {d : Int} (h : (decide (0 ≤ d) && decide (d < 8)) = true) : (ledC v wh)[0 + 1 + d.toNat * 1]? = some (.bool (wh d)) := by
  obtain ⟨e, h8⟩ := dlt h
  generalize d.toNat = n at e h8
  subst e
  have : n = 0 ∨ n = 1 ∨ n = 2 ∨ n = 3 ∨ n = 4 ∨ n = 5 ∨ n = 6 ∨ n = 7 := by omega
  rcases this with rfl | rfl | rfl | rfl | rfl | rfl | rfl | rfl <;> rfl
def hit (c s : Cl) : Bool := decide (s = c) || (decide (s.d = c.d) && decide (s.ep = c.ep) && decide (s.sq = c.sq) && decide (s.mt < c.mt))
def mayR (wh : Int → Bool) (l : List Cl) (c : Cl) : Bool := (wOk c.d && wh c.d) || l.any (hit c)
theorem any_succ {l : List Cl} {k : Nat} (h : k < l.length) (f : Cl → Bool) : (l.take (k + 1)).any f = ((l.take k).any f || f (l.getD k default)) := by
  rw [List.take_add_one, List.any_append, getD_at h, List.getElem?_eq_getElem h]
  simp
set_option maxHeartbeats 4000000 in
theorem ref28_Nearest (v : Value) (l : List Cl) (wh : Int → Bool) (d : Int) (ep sq : UInt32) (w : World) (hlr : Rd w v l.length (clsC l)) : Ctr Try.prog 12 [.agg (ledC v wh).toArray, I d, U ep, U sq] w (fun _ => False) (fun v2 _ => v2 = I (near l d ep sq)) := by
  have hnl := hlr.le
  obtain ⟨vad, vcap, rfl, hvc, hvm⟩ := Rd.sl hlr
  refine fn_start (N := 55) Try.func12 rfl rfl rfl fun ac hk => ?_
  have hs := St.start hk w
  refine wp_seq ?_
  refine wp_reg ?_
  refine s_box hs rfl rfl rfl fun ac ww g4 hs => ?_
  refine s_q hs (c_assign (hs.ev rfl)) rfl fun ac hs => ?_
  refine s_end ?_
  replace hs := hs.sub (F' := [(1, _), (2, _), (3, _), (4, _), (8, _)]) ⟨rfl, rfl, rfl, rfl, rfl, trivial⟩
  refine then_n ?_
  refine wp_seq ?_
  refine wp_reg ?_
  refine s_q hs (c_assign (hs.ev rfl)) rfl fun ac hs => ?_
  refine s_end ?_
  refine then_n ?_
  refine wp_seq ?_
  refine wp_seq ?_
  refine wp_reg ?_
  refine s_q hs (c_assign (hs.ev rfl)) rfl fun ac hs => ?_
  refine s_end ?_
  refine then_n ?_
  refine wp_block ?_
  refine s_loop hs (X := Nat) (fun k => [(9, I (nearK l d ep sq k)), (10, I k)]) [(1, _), (2, _), (3, _), (4, _), (8, _)] (fun _ => [.seg g4 (ledC (.slice vad l.length vcap) wh) 33]) (fun n k => k ≤ l.length ∧ n = l.length - k) (_) (0) (⟨Nat.zero_le _, rfl⟩) ⟨rfl, rfl, rfl, rfl, rfl, rfl, rfl, trivial⟩ rfl ?_
  rintro n k ac ww hok hs
  simp only [List.cons_append, List.nil_append] at hs
  obtain ⟨hk, rfl⟩ := hok
  refine wp_seq ?_
  refine wp_seq ?_
  refine wp_reg ?_
  refine s_q hs (c_move (hs.ev rfl)) rfl fun ac hs => ?_
  refine s_q hs (c_fld fl33_0 (hs.ev rfl)) rfl fun ac hs => ?_
  refine s_q hs (c_loadS un30 rfl (hs.ev rfl) (hs.seg (i := 0) rfl) rfl) rfl fun ac hs => ?_
  refine s_q hs (c_lenS un30 (hs.ev rfl)) rfl fun ac hs => ?_
  refine s_q hs (c_lssI (hs.ev rfl) (hs.ev rfl)) rfl fun ac hs => ?_
  refine s_end ?_
  refine then_n ?_
  refine s_cond hs rfl (fun hc => ?_) (fun hc => ?_)
  · try simp only [decide_eq_true_eq, decide_eq_false_iff_not, Bool.not_eq_true', Bool.not_eq_false', Bool.and_eq_true, Bool.or_eq_true, Bool.or_eq_false_iff] at hc
    have hkn : k < l.length := by omega
    obtain ⟨pb, po, pT, pf, pall, rfl, hpb, hps⟩ := Rd.cls_at hlr (by omega)
    have hsu := nearK_succ (d := d) (ep := ep) (sq := sq) hkn
    obtain ⟨x, hx⟩ : ∃ x, l.getD k default = x := ⟨_, rfl⟩
    rw [hx] at hsu
    refine wp_skip ?_
    refine then_n ?_
    refine wp_seq ?_
    refine wp_block ?_
    refine wp_seq ?_
    refine wp_reg ?_
    refine s_q hs (c_fld fl33_0 (hs.ev rfl)) rfl fun ac hs => ?_
    refine s_q hs (c_loadS un30 rfl (hs.ev rfl) (hs.seg (i := 0) rfl) rfl) rfl fun ac hs => ?_
    refine s_q hs (c_move (hs.ev rfl)) rfl fun ac hs => ?_
    refine s_q hs (c_idxS (j := k) un30 ty27 (hs.ev rfl) (hs.ev rfl) (by omega) (by omega)) rfl fun ac hs => ?_
    refine s_q hs (c_loadA ty27 ag27 (hs.ev rfl) (hs.old hpb id) ((cls_piece hps hkn).trans (congrArg Cl.c hx)) (by rfl)) rfl fun ac hs => ?_
    refine s_alloc hs ty27 rfl fun ac ww g11 hs => ?_
    refine s_storeW (i := 0) hs ty27 rfl rfl rfl (by rfl) (by rfl) rfl fun ww hs => ?_
    refine s_end ?_
    refine then_n ?_
    refine wp_seq ?_
    refine wp_seq ?_
    refine wp_reg ?_
    refine s_q hs (c_fld fl27_0 (hs.ev rfl)) rfl fun ac hs => ?_
    refine s_q hs (c_loadS un3 rfl (hs.ev rfl) (hs.seg (i := 0) rfl) rfl) rfl fun ac hs => ?_
    refine s_q hs (c_move (hs.ev rfl)) rfl fun ac hs => ?_
    refine s_q hs (c_neqI (hs.ev rfl) (hs.ev rfl)) rfl fun ac hs => ?_
    refine s_q hs (c_move (hs.ev rfl)) rfl fun ac hs => ?_
    refine s_g hs rfl rfl (fun hg => c_fld fl27_1 (hs.ev rfl)) rfl fun ac hs => ?_
    refine s_g hs rfl rfl (fun hg => c_fld fl25_0 (gev (hs.ev rfl) hg)) rfl fun ac hs => ?_
    refine s_g hs rfl rfl (fun hg => c_loadS un23 rfl (gev (hs.ev rfl) hg) (hs.seg (i := 0) rfl) rfl) rfl fun ac hs => ?_
    refine s_g hs rfl rfl (fun hg => c_move (hs.ev rfl)) rfl fun ac hs => ?_
    refine s_g hs rfl rfl (fun hg => c_neqU (gev (hs.ev rfl) hg) (gev (hs.ev rfl) hg)) rfl fun ac hs => ?_
    refine s_q hs (c_or (hs.ev rfl) (hs.ev rfl)) rfl fun ac hs => ?_
    refine s_q hs (c_move (hs.ev rfl)) rfl fun ac hs => ?_
    refine s_g hs rfl rfl (fun hg => c_fld fl27_1 (hs.ev rfl)) rfl fun ac hs => ?_
    refine s_g hs rfl rfl (fun hg => c_fld fl25_1 (gev (hs.ev rfl) hg)) rfl fun ac hs => ?_
    refine s_g hs rfl rfl (fun hg => c_loadS un23 rfl (gev (hs.ev rfl) hg) (hs.seg (i := 0) rfl) rfl) rfl fun ac hs => ?_
    refine s_g hs rfl rfl (fun hg => c_move (hs.ev rfl)) rfl fun ac hs => ?_
    refine s_g hs rfl rfl (fun hg => c_neqU (gev (hs.ev rfl) hg) (gev (hs.ev rfl) hg)) rfl fun ac hs => ?_
    refine s_q hs (c_or (hs.ev rfl) (hs.ev rfl)) rfl fun ac hs => ?_
    refine s_end ?_
    refine then_n ?_
    refine s_cond hs rfl (fun hc => ?_) (fun hc => ?_)
    · skip
      have hnx : nearK l d ep sq (k + 1) = nearK l d ep sq k := by
        rw [hsu, nearS, if_neg]
        rintro ⟨h1, h2, h3, h4⟩
        simp [h1, h2, h3] at hc
      refine wp_exit ?_
      refine then_e ?_
      refine blk_hit ?_
      refine then_n ?_
      refine wp_reg ?_
      refine s_q hs (c_move (hs.ev rfl)) rfl fun ac hs => ?_
      refine s_q hs (c_addI (hs.ev rfl) (hs.ev rfl) (by omega) (by omega)) rfl fun ac hs => ?_
      refine s_q hs (c_assign (hs.ev rfl)) rfl fun ac hs => ?_
      refine s_end ?_
      refine then_n ?_
      replace hs := hs.pick (L' := [_]) (.cons _ (.refl _))
      exact ⟨l.length - (k + 1), by omega, k + 1, ⟨by omega, rfl⟩, St.next hs ⟨(congrArg (fun z => some (I z)) hnx.symm), rfl, rfl, rfl, rfl, rfl, rfl, trivial⟩ rfl⟩
    · skip
      have heq : x.d = d ∧ x.ep = ep ∧ x.sq = sq := by
        simp at hc
        exact ⟨hc.1.1, hc.1.2, hc.2⟩
      refine wp_skip ?_
      refine then_n ?_
      refine wp_seq ?_
      refine wp_reg ?_
      refine s_q hs (c_move (hs.ev rfl)) rfl fun ac hs => ?_
      refine s_q hs (c_lssI (hs.ev rfl) (hs.ev rfl)) rfl fun ac hs => ?_
      refine s_q hs (c_move (hs.ev rfl)) rfl fun ac hs => ?_
      refine s_g hs rfl rfl (fun hg => c_fld fl27_1 (hs.ev rfl)) rfl fun ac hs => ?_
      refine s_g hs rfl rfl (fun hg => c_fld fl25_2 (gev (hs.ev rfl) hg)) rfl fun ac hs => ?_
      refine s_g hs rfl rfl (fun hg => c_loadS un3 rfl (gev (hs.ev rfl) hg) (hs.seg (i := 0) rfl) rfl) rfl fun ac hs => ?_
      refine s_g hs rfl rfl (fun hg => c_move (hs.ev rfl)) rfl fun ac hs => ?_
      refine s_g hs rfl rfl (fun hg => c_lssI (gev (hs.ev rfl) hg) (gev (hs.ev rfl) hg)) rfl fun ac hs => ?_
      refine s_q hs (c_or (hs.ev rfl) (hs.ev rfl)) rfl fun ac hs => ?_
      refine s_end ?_
      refine then_n ?_
      refine s_cond hs rfl (fun hc => ?_) (fun hc => ?_)
      · skip
        have hnx : nearK l d ep sq (k + 1) = x.mt := by
          rw [hsu, nearS, if_pos]
          simp at hc
          exact ⟨heq.1, heq.2.1, heq.2.2, hc⟩
        refine wp_reg ?_
        refine s_q hs (c_fld fl27_1 (hs.ev rfl)) rfl fun ac hs => ?_
        refine s_q hs (c_fld fl25_2 (hs.ev rfl)) rfl fun ac hs => ?_
        refine s_q hs (c_loadS un3 rfl (hs.ev rfl) (hs.seg (i := 0) rfl) rfl) rfl fun ac hs => ?_
        refine s_q hs (c_assign (hs.ev rfl)) rfl fun ac hs => ?_
        refine s_end ?_
        refine blk_n ?_
        refine then_n ?_
        refine wp_reg ?_
        refine s_q hs (c_move (hs.ev rfl)) rfl fun ac hs => ?_
        refine s_q hs (c_addI (hs.ev rfl) (hs.ev rfl) (by omega) (by omega)) rfl fun ac hs => ?_
        refine s_q hs (c_assign (hs.ev rfl)) rfl fun ac hs => ?_
        refine s_end ?_
        refine then_n ?_
        replace hs := hs.pick (L' := [_]) (.cons _ (.refl _))
        exact ⟨l.length - (k + 1), by omega, k + 1, ⟨by omega, rfl⟩, St.next hs ⟨(congrArg (fun z => some (I z)) hnx.symm), rfl, rfl, rfl, rfl, rfl, rfl, trivial⟩ rfl⟩
      · skip
        have hnx : nearK l d ep sq (k + 1) = nearK l d ep sq k := by
          rw [hsu, nearS, if_neg]
          rintro ⟨h1, h2, h3, h4⟩
          simp at hc
          omega
        refine wp_skip ?_
        refine blk_n ?_
        refine then_n ?_
        refine wp_reg ?_
        refine s_q hs (c_move (hs.ev rfl)) rfl fun ac hs => ?_
        refine s_q hs (c_addI (hs.ev rfl) (hs.ev rfl) (by omega) (by omega)) rfl fun ac hs => ?_
        refine s_q hs (c_assign (hs.ev rfl)) rfl fun ac hs => ?_
        refine s_end ?_
        refine then_n ?_
        replace hs := hs.pick (L' := [_]) (.cons _ (.refl _))
        exact ⟨l.length - (k + 1), by omega, k + 1, ⟨by omega, rfl⟩, St.next hs ⟨(congrArg (fun z => some (I z)) hnx.symm), rfl, rfl, rfl, rfl, rfl, rfl, trivial⟩ rfl⟩
  · try simp only [decide_eq_true_eq, decide_eq_false_iff_not, Bool.not_eq_true', Bool.not_eq_false', Bool.and_eq_true, Bool.or_eq_true, Bool.or_eq_false_iff] at hc
    obtain rfl : k = l.length := by omega
    refine wp_exit ?_
    refine then_e ?_
    refine then_e ?_
    refine blk_hit ?_
    refine then_n ?_
    refine wp_seq ?_
    refine wp_reg ?_
    refine s_q hs (c_move (hs.ev rfl)) rfl fun ac hs => ?_
    refine s_q hs (c_assign (hs.ev rfl)) rfl fun ac hs => ?_
    refine s_end ?_
    replace hs := hs.sub (F' := [(8, _)]) ⟨rfl, trivial⟩
    refine then_n ?_
    refine wp_ret ?_
    refine s_ret hs rfl (.tmp (hs.tmp rfl) .nil) rfl ⟨_, rfl, hs.fr, ?_⟩
    rw [nearK_all]
    rfl
set_option maxHeartbeats 4000000 in
theorem ref28_May (v : Value) (l : List Cl) (wh : Int → Bool) (c : Cl) (w : World) (hlr : Rd w v l.length (clsC l)) : Ctr Try.prog 10 [.agg (ledC v wh).toArray, c.v] w (fun _ => False) (fun v2 _ => v2 = .bool (mayR wh l c)) := by
  have hnl := hlr.le
  obtain ⟨vad, vcap, rfl, hvc, hvm⟩ := Rd.sl hlr
  refine fn_start (N := 71) Try.func10 rfl rfl rfl fun ac hk => ?_
  have hs := St.start hk w
  refine wp_seq ?_
  refine wp_reg ?_
  refine s_box hs rfl rfl rfl fun ac ww g2 hs => ?_
  refine s_box hs rfl rfl rfl fun ac ww g3 hs => ?_
  refine s_q hs (c_assign (hs.ev rfl)) rfl fun ac hs => ?_
  refine s_end ?_
  replace hs := hs.sub (F' := [(2, _), (3, _), (4, _)]) ⟨rfl, rfl, rfl, trivial⟩
  refine then_n ?_
  refine wp_seq ?_
  refine wp_seq ?_
  refine wp_reg ?_
  refine s_q hs (c_fld fl27_0 (hs.ev rfl)) rfl fun ac hs => ?_
  refine s_q hs (c_loadS un3 rfl (hs.ev rfl) (hs.seg (i := 0) rfl) rfl) rfl fun ac hs => ?_
  refine s_q hs (c_geqI (hs.ev rfl) (hs.ev rfl)) rfl fun ac hs => ?_
  refine s_q hs (c_move (hs.ev rfl)) rfl fun ac hs => ?_
  refine s_g hs rfl rfl (fun hg => c_fld fl27_0 (hs.ev rfl)) rfl fun ac hs => ?_
  refine s_g hs rfl rfl (fun hg => c_loadS un3 rfl (gev (hs.ev rfl) hg) (hs.seg (i := 0) rfl) rfl) rfl fun ac hs => ?_
  refine s_g hs rfl rfl (fun hg => c_lssI (gev (hs.ev rfl) hg) (hs.ev rfl)) rfl fun ac hs => ?_
  refine s_q hs (c_and (hs.ev rfl) (hs.ev rfl)) rfl fun ac hs => ?_
  refine s_q hs (c_move (hs.ev rfl)) rfl fun ac hs => ?_
  refine s_g hs rfl rfl (fun hg => c_fld fl27_0 (hs.ev rfl)) rfl fun ac hs => ?_
  refine s_g hs rfl rfl (fun hg => c_loadS un3 rfl (gev (hs.ev rfl) hg) (hs.seg (i := 0) rfl) rfl) rfl fun ac hs => ?_
  refine s_g hs rfl rfl (fun hg => c_fld fl33_1 (hs.ev rfl)) rfl fun ac hs => ?_
  refine s_g hs rfl rfl (fun hg => c_idxA (j := c.d.toNat) un31 ty4 (gev (hs.ev rfl) hg) (gev (hs.ev rfl) hg) (dlt hg).1 (dlt hg).2) rfl fun ac hs => ?_
  refine s_g hs rfl rfl (fun hg => c_loadS un4 rfl (gev (hs.ev rfl) hg) (hs.seg (i := 1) rfl) (ledC_at _ wh hg)) rfl fun ac hs => ?_
  refine s_q hs (c_and (hs.ev rfl) (hs.ev rfl)) rfl fun ac hs => ?_
  refine s_end ?_
  replace hs := hs.sub (F' := [(2, _), (3, _), (4, _), (21, _)]) ⟨rfl, rfl, rfl, rfl, trivial⟩
  refine then_n ?_
  refine s_cond hs rfl (fun hc => ?_) (fun hc => ?_)
  · skip
    refine wp_seq ?_
    refine wp_reg ?_
    refine s_q hs (c_assign (hs.ev rfl)) rfl fun ac hs => ?_
    refine s_end ?_
    replace hs := hs.sub (F' := [(2, _), (3, _), (4, _)]) ⟨rfl, rfl, rfl, trivial⟩
    refine then_n ?_
    refine wp_ret ?_
    refine then_r ?_
    refine s_ret hs rfl (.tmp (hs.tmp rfl) .nil) rfl ⟨_, rfl, hs.fr, ?_⟩
    show _ = Value.bool (mayR wh l c)
    rw [mayR, wOk, hc]
    rfl
  · skip
    refine wp_skip ?_
    refine then_n ?_
    refine wp_seq ?_
    refine wp_seq ?_
    refine wp_reg ?_
    refine s_q hs (c_assign (hs.ev rfl)) rfl fun ac hs => ?_
    refine s_end ?_
    replace hs := hs.sub (F' := [(2, _), (3, _), (4, _), (5, _)]) ⟨rfl, rfl, rfl, rfl, trivial⟩
    refine then_n ?_
    refine wp_block ?_
    have hc0 : (wOk c.d && wh c.d) = false := hc
    refine s_loop hs (X := Nat) (fun k => [(5, I k)]) [(2, _), (3, _)] (fun _ => [.seg g3 c.c 27, .seg g2 (ledC (.slice vad l.length vcap) wh) 33]) (fun n k => k ≤ l.length ∧ (l.take k).any (hit c) = false ∧ n = l.length - k) (_) (0) (⟨Nat.zero_le _, rfl, rfl⟩) ⟨rfl, rfl, rfl, trivial⟩ rfl ?_
    rintro n k ac ww hok hs
    simp only [List.cons_append, List.nil_append] at hs
    obtain ⟨hk, hne, rfl⟩ := hok
    refine wp_seq ?_
    refine wp_seq ?_
    refine wp_reg ?_
    refine s_q hs (c_move (hs.ev rfl)) rfl fun ac hs => ?_
    refine s_q hs (c_fld fl33_0 (hs.ev rfl)) rfl fun ac hs => ?_
    refine s_q hs (c_loadS un30 rfl (hs.ev rfl) (hs.seg (i := 1) rfl) rfl) rfl fun ac hs => ?_
    refine s_q hs (c_lenS un30 (hs.ev rfl)) rfl fun ac hs => ?_
    refine s_q hs (c_lssI (hs.ev rfl) (hs.ev rfl)) rfl fun ac hs => ?_
    refine s_end ?_
    refine then_n ?_
    refine s_cond hs rfl (fun hc => ?_) (fun hc => ?_)
    · try simp only [decide_eq_true_eq, decide_eq_false_iff_not, Bool.not_eq_true', Bool.not_eq_false', Bool.and_eq_true, Bool.or_eq_true, Bool.or_eq_false_iff] at hc
      have hkn : k < l.length := by omega
      obtain ⟨pb, po, pT, pf, pall, rfl, hpb, hps⟩ := Rd.cls_at hlr (by omega)
      obtain ⟨x, hx⟩ : ∃ x, l.getD k default = x := ⟨_, rfl⟩
      refine wp_skip ?_
      refine then_n ?_
      refine wp_seq ?_
      refine wp_block ?_
      refine wp_seq ?_
      refine wp_reg ?_
      refine s_q hs (c_fld fl33_0 (hs.ev rfl)) rfl fun ac hs => ?_
      refine s_q hs (c_loadS un30 rfl (hs.ev rfl) (hs.seg (i := 1) rfl) rfl) rfl fun ac hs => ?_
      refine s_q hs (c_move (hs.ev rfl)) rfl fun ac hs => ?_
      refine s_q hs (c_idxS (j := k) un30 ty27 (hs.ev rfl) (hs.ev rfl) (by omega) (by omega)) rfl fun ac hs => ?_
      refine s_q hs (c_loadA ty27 ag27 (hs.ev rfl) (hs.old hpb id) ((cls_piece hps hkn).trans (congrArg Cl.c hx)) (by rfl)) rfl fun ac hs => ?_
      refine s_alloc hs ty27 rfl fun ac ww g6 hs => ?_
      refine s_storeW (i := 0) hs ty27 rfl rfl rfl (by rfl) (by rfl) rfl fun ww hs => ?_
      refine s_end ?_
      refine then_n ?_
      refine wp_seq ?_
      refine wp_reg ?_
      refine s_q hs (c_loadW ty27 ag27 (hs.ev rfl) (hs.seg (i := 0) rfl) (by rfl)) rfl fun ac hs => ?_
      refine s_q hs (c_loadW ty27 ag27 (hs.ev rfl) (hs.seg (i := 1) rfl) (by rfl)) rfl fun ac hs => ?_
      refine s_q hs (c_eqlClaimR (s := x) (c := c) (hs.ev rfl) (hs.ev rfl)) rfl fun ac hs => ?_
      refine s_q hs (c_move (hs.ev rfl)) rfl fun ac hs => ?_
      refine s_g hs rfl rfl (fun hg => c_fld fl27_0 (hs.ev rfl)) rfl fun ac hs => ?_
      refine s_g hs rfl rfl (fun hg => c_loadS un3 rfl (gev (hs.ev rfl) hg) (hs.seg (i := 0) rfl) rfl) rfl fun ac hs => ?_
      refine s_g hs rfl rfl (fun hg => c_fld fl27_0 (hs.ev rfl)) rfl fun ac hs => ?_
      refine s_g hs rfl rfl (fun hg => c_loadS un3 rfl (gev (hs.ev rfl) hg) (hs.seg (i := 1) rfl) rfl) rfl fun ac hs => ?_
      refine s_g hs rfl rfl (fun hg => c_eqlI (gev (hs.ev rfl) hg) (gev (hs.ev rfl) hg)) rfl fun ac hs => ?_
      refine s_g hs rfl rfl (fun hg => c_move (gev (hs.ev rfl) hg)) rfl fun ac hs => ?_
      refine s_gn hs rfl rfl (fun hc hg => c_fld fl27_1 (hs.ev rfl)) rfl fun ac hs => ?_
      refine s_gn hs rfl rfl (fun hc hg => c_fld fl25_0 (gev (gev (hs.ev rfl) hc) hg)) rfl fun ac hs => ?_
      refine s_gn hs rfl rfl (fun hc hg => c_loadS un23 rfl (gev (gev (hs.ev rfl) hc) hg) (hs.seg (i := 0) rfl) rfl) rfl fun ac hs => ?_
      refine s_gn hs rfl rfl (fun hc hg => c_fld fl27_1 (hs.ev rfl)) rfl fun ac hs => ?_
      refine s_gn hs rfl rfl (fun hc hg => c_fld fl25_0 (gev (gev (hs.ev rfl) hc) hg)) rfl fun ac hs => ?_
      refine s_gn hs rfl rfl (fun hc hg => c_loadS un23 rfl (gev (gev (hs.ev rfl) hc) hg) (hs.seg (i := 1) rfl) rfl) rfl fun ac hs => ?_
      refine s_gn hs rfl rfl (fun hc hg => c_eqlU (gev (gev (hs.ev rfl) hc) hg) (gev (gev (hs.ev rfl) hc) hg)) rfl fun ac hs => ?_
      refine s_g hs rfl rfl (fun hg => c_and (gev (hs.ev rfl) hg) (gev (hs.ev rfl) hg)) rfl fun ac hs => ?_
      refine s_g hs rfl rfl (fun hg => c_move (gev (hs.ev rfl) hg)) rfl fun ac hs => ?_
      refine s_gn hs rfl rfl (fun hc hg => c_fld fl27_1 (hs.ev rfl)) rfl fun ac hs => ?_
      refine s_gn hs rfl rfl (fun hc hg => c_fld fl25_1 (gev (gev (hs.ev rfl) hc) hg)) rfl fun ac hs => ?_
      refine s_gn hs rfl rfl (fun hc hg => c_loadS un23 rfl (gev (gev (hs.ev rfl) hc) hg) (hs.seg (i := 0) rfl) rfl) rfl fun ac hs => ?_
      refine s_gn hs rfl rfl (fun hc hg => c_fld fl27_1 (hs.ev rfl)) rfl fun ac hs => ?_
      refine s_gn hs rfl rfl (fun hc hg => c_fld fl25_1 (gev (gev (hs.ev rfl) hc) hg)) rfl fun ac hs => ?_
      refine s_gn hs rfl rfl (fun hc hg => c_loadS un23 rfl (gev (gev (hs.ev rfl) hc) hg) (hs.seg (i := 1) rfl) rfl) rfl fun ac hs => ?_
      refine s_gn hs rfl rfl (fun hc hg => c_eqlU (gev (gev (hs.ev rfl) hc) hg) (gev (gev (hs.ev rfl) hc) hg)) rfl fun ac hs => ?_
      refine s_g hs rfl rfl (fun hg => c_and (gev (hs.ev rfl) hg) (gev (hs.ev rfl) hg)) rfl fun ac hs => ?_
      refine s_g hs rfl rfl (fun hg => c_move (gev (hs.ev rfl) hg)) rfl fun ac hs => ?_
      refine s_gn hs rfl rfl (fun hc hg => c_fld fl27_1 (hs.ev rfl)) rfl fun ac hs => ?_
      refine s_gn hs rfl rfl (fun hc hg => c_fld fl25_2 (gev (gev (hs.ev rfl) hc) hg)) rfl fun ac hs => ?_
      refine s_gn hs rfl rfl (fun hc hg => c_loadS un3 rfl (gev (gev (hs.ev rfl) hc) hg) (hs.seg (i := 0) rfl) rfl) rfl fun ac hs => ?_
      refine s_gn hs rfl rfl (fun hc hg => c_fld fl27_1 (hs.ev rfl)) rfl fun ac hs => ?_
      refine s_gn hs rfl rfl (fun hc hg => c_fld fl25_2 (gev (gev (hs.ev rfl) hc) hg)) rfl fun ac hs => ?_
      refine s_gn hs rfl rfl (fun hc hg => c_loadS un3 rfl (gev (gev (hs.ev rfl) hc) hg) (hs.seg (i := 1) rfl) rfl) rfl fun ac hs => ?_
      refine s_gn hs rfl rfl (fun hc hg => c_lssI (gev (gev (hs.ev rfl) hc) hg) (gev (gev (hs.ev rfl) hc) hg)) rfl fun ac hs => ?_
      refine s_g hs rfl rfl (fun hg => c_and (gev (hs.ev rfl) hg) (gev (hs.ev rfl) hg)) rfl fun ac hs => ?_
      refine s_q hs (c_or (hs.ev rfl) (hs.ev rfl)) rfl fun ac hs => ?_
      refine s_end ?_
      refine then_n ?_
      refine s_cond hs rfl (fun hc => ?_) (fun hc => ?_)
      · skip
        have hyes : hit c x = true := hc
        refine wp_seq ?_
        refine wp_reg ?_
        refine s_q hs (c_assign (hs.ev rfl)) rfl fun ac hs => ?_
        refine s_end ?_
        refine then_n ?_
        refine wp_ret ?_
        refine blk_r ?_
        refine then_r ?_
        refine then_r ?_
        refine blk_r ?_
        refine then_r ?_
        refine s_ret hs rfl (.tmp (hs.tmp rfl) .nil) rfl ⟨_, rfl, hs.fr, ?_⟩
        show _ = Value.bool (mayR wh l c)
        rw [mayR, hc0, List.any_eq_true.2 ⟨x, hx ▸ (getD_at hkn ▸ List.getElem_mem hkn), hyes⟩]
        rfl
      · skip
        have hno : hit c x = false := hc
        refine wp_skip ?_
        refine blk_n ?_
        refine then_n ?_
        refine wp_reg ?_
        refine s_q hs (c_move (hs.ev rfl)) rfl fun ac hs => ?_
        refine s_q hs (c_addI (hs.ev rfl) (hs.ev rfl) (by omega) (by omega)) rfl fun ac hs => ?_
        refine s_q hs (c_assign (hs.ev rfl)) rfl fun ac hs => ?_
        refine s_end ?_
        refine then_n ?_
        replace hs := hs.pick (L' := [_, _]) (.cons _ (.refl _))
        exact ⟨l.length - (k + 1), by omega, k + 1, ⟨by omega, by rw [any_succ hkn, hne, hx, hno]; rfl, rfl⟩, St.next hs ⟨rfl, rfl, rfl, trivial⟩ rfl⟩
    · try simp only [decide_eq_true_eq, decide_eq_false_iff_not, Bool.not_eq_true', Bool.not_eq_false', Bool.and_eq_true, Bool.or_eq_true, Bool.or_eq_false_iff] at hc
      obtain rfl : k = l.length := by omega
      refine wp_exit ?_
      refine then_e ?_
      refine then_e ?_
      refine blk_hit ?_
      refine then_n ?_
      refine wp_seq ?_
      refine wp_reg ?_
      refine s_q hs (c_assign (hs.ev rfl)) rfl fun ac hs => ?_
      refine s_end ?_
      replace hs := hs.sub (F' := [(4, _)]) ⟨rfl, trivial⟩
      refine then_n ?_
      refine wp_ret ?_
      refine s_ret hs rfl (.tmp (hs.tmp rfl) .nil) rfl ⟨_, rfl, hs.fr, ?_⟩
      show _ = Value.bool (mayR wh l c)
      rw [List.take_length] at hne
      rw [mayR, hc0, hne]
      rfl
end Go.Proofs.Ytklajbdbnnceiaa
end

section
/- No oracle, no ledger; a ledger awake. -/
set_option linter.unusedSimpArgs false
set_option linter.unusedVariables false
set_option maxRecDepth 100000
namespace Go.Proofs.Ytklajbdbnnceiaa
open Go Go.Fw
set_option maxHeartbeats 4000000 in
theorem nil_Show (c : Cl) (w : World)  : Ctr Try.prog 6 [.pointer none, c.v] w (fun _ => False) (fun v _ => v = I 2) := by
  refine fn_start (N := 33) Try.func6 rfl rfl rfl fun ac hk => ?_
  have hs := St.start hk w
  refine wp_seq ?_
  refine wp_reg ?_
  refine s_box hs rfl rfl rfl fun ac ww g3 hs => ?_
  refine s_q hs (c_assign (hs.ev rfl)) rfl fun ac hs => ?_
  refine s_end ?_
  replace hs := hs.sub (F' := [(0, _), (3, _), (4, _)]) ⟨rfl, rfl, rfl, trivial⟩
  refine then_n ?_
  refine wp_seq ?_
  refine wp_block ?_
  refine wp_seq ?_
  refine wp_reg ?_
  refine s_q hs (c_move (hs.ev rfl)) rfl fun ac hs => ?_
  refine s_q hs (c_eqlNil0 un28 (hs.ev rfl) (hs.ev rfl)) rfl fun ac hs => ?_
  refine s_q hs (c_assign (hs.ev rfl)) rfl fun ac hs => ?_
  refine s_end ?_
  replace hs := hs.sub (F' := [(0, _), (3, _), (4, _), (5, _)]) ⟨rfl, rfl, rfl, rfl, trivial⟩
  refine then_n ?_
  refine wp_cond_true (hs.ev rfl) ?_
  refine wp_seq ?_
  refine wp_reg ?_
  refine s_q hs (c_assign (hs.ev rfl)) rfl fun ac hs => ?_
  refine s_end ?_
  replace hs := hs.sub (F' := [(0, _), (3, _), (4, _)]) ⟨rfl, rfl, rfl, trivial⟩
  refine then_n ?_
  refine wp_ret ?_
  refine blk_r ?_
  refine then_r ?_
  refine s_ret hs rfl (.tmp (hs.tmp rfl) .nil) rfl ⟨_, rfl, hs.fr, ?_⟩
  rfl
set_option maxHeartbeats 4000000 in
theorem nil_Whole (d : Int) (w : World)  : Ctr Try.prog 8 [.pointer none, I d] w (fun _ => False) (fun v _ => v = I 2) := by
  refine fn_start (N := 20) Try.func8 rfl rfl rfl fun ac hk => ?_
  have hs := St.start hk w
  refine wp_seq ?_
  refine wp_reg ?_
  refine s_q hs (c_assign (hs.ev rfl)) rfl fun ac hs => ?_
  refine s_end ?_
  refine then_n ?_
  refine wp_seq ?_
  refine wp_block ?_
  refine wp_seq ?_
  refine wp_reg ?_
  refine s_q hs (c_move (hs.ev rfl)) rfl fun ac hs => ?_
  refine s_q hs (c_eqlNil0 un28 (hs.ev rfl) (hs.ev rfl)) rfl fun ac hs => ?_
  refine s_q hs (c_assign (hs.ev rfl)) rfl fun ac hs => ?_
  refine s_end ?_
  replace hs := hs.sub (F' := [(0, _), (1, _), (4, _), (5, _)]) ⟨rfl, rfl, rfl, rfl, trivial⟩
  refine then_n ?_
  refine wp_cond_true (hs.ev rfl) ?_
  refine wp_seq ?_
  refine wp_reg ?_
  refine s_q hs (c_assign (hs.ev rfl)) rfl fun ac hs => ?_
  refine s_end ?_
  replace hs := hs.sub (F' := [(0, _), (1, _), (4, _)]) ⟨rfl, rfl, rfl, trivial⟩
  refine then_n ?_
  refine wp_ret ?_
  refine blk_r ?_
  refine then_r ?_
  refine s_ret hs rfl (.tmp (hs.tmp rfl) .nil) rfl ⟨_, rfl, hs.fr, ?_⟩
  rfl
set_option maxHeartbeats 4000000 in
theorem nil_Nearest (d : Int) (ep sq : UInt32) (w : World)  : Ctr Try.prog 11 [.pointer none, I d, U ep, U sq] w (fun _ => False) (fun v _ => v = I (-1)) := by
  refine fn_start (N := 58) Try.func11 rfl rfl rfl fun ac hk => ?_
  have hs := St.start hk w
  refine wp_seq ?_
  refine wp_reg ?_
  refine s_q hs (c_assign (hs.ev rfl)) rfl fun ac hs => ?_
  refine s_end ?_
  refine then_n ?_
  refine wp_seq ?_
  refine wp_reg ?_
  refine s_q hs (c_assign (hs.ev rfl)) rfl fun ac hs => ?_
  refine s_end ?_
  refine then_n ?_
  refine wp_seq ?_
  refine wp_seq ?_
  refine wp_reg ?_
  refine s_q hs (c_move (hs.ev rfl)) rfl fun ac hs => ?_
  refine s_q hs (c_eqlNil0 un28 (hs.ev rfl) (hs.ev rfl)) rfl fun ac hs => ?_
  refine s_end ?_
  replace hs := hs.sub (F' := [(0, _), (1, _), (2, _), (3, _), (8, _), (9, _), (13, _)]) ⟨rfl, rfl, rfl, rfl, rfl, rfl, rfl, trivial⟩
  refine then_n ?_
  refine wp_cond_true (hs.ev rfl) ?_
  refine wp_seq ?_
  refine wp_reg ?_
  refine s_q hs (c_move (hs.ev rfl)) rfl fun ac hs => ?_
  refine s_q hs (c_assign (hs.ev rfl)) rfl fun ac hs => ?_
  refine s_end ?_
  replace hs := hs.sub (F' := [(0, _), (1, _), (2, _), (3, _), (8, _), (9, _)]) ⟨rfl, rfl, rfl, rfl, rfl, rfl, trivial⟩
  refine then_n ?_
  refine wp_ret ?_
  refine then_r ?_
  refine s_ret hs rfl (.tmp (hs.tmp rfl) .nil) rfl ⟨_, rfl, hs.fr, ?_⟩
  rfl
set_option maxHeartbeats 4000000 in
theorem nil_May (c : Cl) (w : World)  : Ctr Try.prog 9 [.pointer none, c.v] w (fun _ => False) (fun v _ => v = .bool false) := by
  refine fn_start (N := 42) Try.func9 rfl rfl rfl fun ac hk => ?_
  have hs := St.start hk w
  refine wp_seq ?_
  refine wp_reg ?_
  refine s_box hs rfl rfl rfl fun ac ww g3 hs => ?_
  refine s_q hs (c_assign (hs.ev rfl)) rfl fun ac hs => ?_
  refine s_end ?_
  replace hs := hs.sub (F' := [(0, _), (3, _), (4, _)]) ⟨rfl, rfl, rfl, trivial⟩
  refine then_n ?_
  refine wp_seq ?_
  refine wp_seq ?_
  refine wp_reg ?_
  refine s_q hs (c_move (hs.ev rfl)) rfl fun ac hs => ?_
  refine s_q hs (c_eqlNil0 un28 (hs.ev rfl) (hs.ev rfl)) rfl fun ac hs => ?_
  refine s_end ?_
  replace hs := hs.sub (F' := [(0, _), (3, _), (4, _), (7, _)]) ⟨rfl, rfl, rfl, rfl, trivial⟩
  refine then_n ?_
  refine wp_cond_true (hs.ev rfl) ?_
  refine wp_seq ?_
  refine wp_reg ?_
  refine s_q hs (c_assign (hs.ev rfl)) rfl fun ac hs => ?_
  refine s_end ?_
  replace hs := hs.sub (F' := [(0, _), (3, _), (4, _)]) ⟨rfl, rfl, rfl, trivial⟩
  refine then_n ?_
  refine wp_ret ?_
  refine then_r ?_
  refine s_ret hs rfl (.tmp (hs.tmp rfl) .nil) rfl ⟨_, rfl, hs.fr, ?_⟩
  rfl
set_option maxHeartbeats 4000000 in
theorem nil_spring (d : Int) (ep : UInt32) (w : World)  : Ctr Try.prog 20 [.pointer none, I d, U ep] w (fun _ => False) (fun v _ => v = .tuple #[.pointer none, I 2]) := by
  refine fn_start (N := 73) Try.func20 rfl rfl rfl fun ac hk => ?_
  have hs := St.start hk w
  refine wp_seq ?_
  refine wp_reg ?_
  refine s_q hs (c_assign (hs.ev rfl)) rfl fun ac hs => ?_
  refine s_q hs (c_assign (hs.ev rfl)) rfl fun ac hs => ?_
  refine s_end ?_
  refine then_n ?_
  refine wp_seq ?_
  refine wp_block ?_
  refine wp_seq ?_
  refine wp_reg ?_
  refine s_q hs (c_move (hs.ev rfl)) rfl fun ac hs => ?_
  refine s_q hs (c_eqlNil0 un48 (hs.ev rfl) (hs.ev rfl)) rfl fun ac hs => ?_
  refine s_q hs (c_assign (hs.ev rfl)) rfl fun ac hs => ?_
  refine s_end ?_
  replace hs := hs.sub (F' := [(0, _), (1, _), (2, _), (6, _), (7, _), (12, _)]) ⟨rfl, rfl, rfl, rfl, rfl, rfl, trivial⟩
  refine then_n ?_
  refine wp_cond_true (hs.ev rfl) ?_
  refine wp_seq ?_
  refine wp_reg ?_
  refine s_q hs (c_assign (hs.ev rfl)) rfl fun ac hs => ?_
  refine s_q hs (c_assign (hs.ev rfl)) rfl fun ac hs => ?_
  refine s_end ?_
  replace hs := hs.sub (F' := [(0, _), (1, _), (2, _), (6, _), (7, _)]) ⟨rfl, rfl, rfl, rfl, rfl, trivial⟩
  refine then_n ?_
  refine wp_ret ?_
  refine blk_r ?_
  refine then_r ?_
  refine s_ret hs rfl (.tmp (hs.tmp rfl) (.tmp (hs.tmp rfl) .nil)) rfl ⟨_, rfl, hs.fr, ?_⟩
  rfl
set_option maxHeartbeats 4000000 in
theorem nil_Element (d q r : Int) (ep : UInt32) (w : World)  : Ctr Try.prog 14 [.pointer none, I d, U ep, I q, I r] w (fun _ => False) (fun v _ => v = .tuple #[.agg ((List.replicate 16 (0 : UInt8)).map B).toArray, I 2]) := by
  refine fn_start (N := 31) Try.func14 rfl rfl rfl fun ac hk => ?_
  have hs := St.start hk w
  refine wp_seq ?_
  refine wp_reg ?_
  refine s_alloc hs ty50 rfl fun ac ww g10 hs => ?_
  refine s_q hs (c_assign (hs.ev rfl)) rfl fun ac hs => ?_
  refine s_end ?_
  refine then_n ?_
  refine wp_seq ?_
  refine wp_reg ?_
  refine s_q hs (c_move (hs.ev rfl)) rfl fun ac hs => ?_
  refine s_q hs (c_move (hs.ev rfl)) rfl fun ac hs => ?_
  refine s_q hs (c_move (hs.ev rfl)) rfl fun ac hs => ?_
  refine s_call hs fu20 (.cons (hs.ev rfl) (.cons (hs.ev rfl) (.cons (hs.ev rfl) .nil))) (nil_spring _ _ ww) rfl fun ac ww v18 hf hp hs => ?_
  obtain rfl := hp
  replace hs := hs [] (.nil _ _)
  refine s_q hs (c_move (hs.ev rfl)) rfl fun ac hs => ?_
  refine s_q hs (c_extract (hs.ev rfl) rfl) rfl fun ac hs => ?_
  refine s_q hs (c_extract (hs.ev rfl) rfl) rfl fun ac hs => ?_
  refine s_q hs (c_assign (hs.ev rfl)) rfl fun ac hs => ?_
  refine s_q hs (c_assign (hs.ev rfl)) rfl fun ac hs => ?_
  refine s_end ?_
  replace hs := hs.sub (F' := [(3, _), (4, _), (10, _), (11, _), (12, _), (13, _)]) ⟨rfl, rfl, rfl, rfl, rfl, rfl, trivial⟩
  refine then_n ?_
  refine wp_seq ?_
  refine wp_seq ?_
  refine wp_reg ?_
  refine s_q hs (c_move (hs.ev rfl)) rfl fun ac hs => ?_
  refine s_q hs (c_neqI (hs.ev rfl) (hs.ev rfl)) rfl fun ac hs => ?_
  refine s_end ?_
  replace hs := hs.sub (F' := [(3, _), (4, _), (10, _), (11, _), (12, _), (13, _), (22, _)]) ⟨rfl, rfl, rfl, rfl, rfl, rfl, rfl, trivial⟩
  refine then_n ?_
  refine wp_cond_true (hs.ev rfl) ?_
  refine wp_seq ?_
  refine wp_reg ?_
  refine s_q hs (c_buildA (zc := (List.replicate 16 (0 : UInt8)).map B) ty50 un50 ty5 .nil (by simp [Value.cells]) (by simp [flatCells, Value.cells]) rfl) rfl fun ac hs => ?_
  refine s_q hs (c_move (hs.ev rfl)) rfl fun ac hs => ?_
  refine s_storeW (i := 0) hs ty50 rfl rfl rfl (by simp) (by simp [Value.oneCell']) (by simp) fun ww hs => ?_
  refine s_q hs (c_assign (hs.ev rfl)) rfl fun ac hs => ?_
  refine s_end ?_
  replace hs := hs.sub (F' := [(3, _), (4, _), (10, _), (11, _), (12, _)]) ⟨rfl, rfl, rfl, rfl, rfl, trivial⟩
  refine then_n ?_
  refine wp_ret ?_
  refine then_r ?_
  refine s_ret hs rfl (.cell (hs.tmp rfl) (run_loadA ty50 rfl (hs.seg (i := 0) rfl) (List.take_of_length_le (by simp)) (by simp)) (.tmp (hs.tmp rfl) .nil)) rfl ⟨_, rfl, hs.fr, ?_⟩
  rfl
set_option maxHeartbeats 4000000 in
theorem nil_Root (d : Int) (ep : UInt32) (w : World)  : Ctr Try.prog 15 [.pointer none, I d, U ep] w (fun _ => False) (fun v _ => v = .tuple #[.agg ((List.replicate 16 (0 : UInt8)).map B).toArray, I 2]) := by
  refine fn_start (N := 23) Try.func15 rfl rfl rfl fun ac hk => ?_
  have hs := St.start hk w
  refine wp_seq ?_
  refine wp_reg ?_
  refine s_alloc hs ty50 rfl fun ac ww g6 hs => ?_
  refine s_q hs (c_assign (hs.ev rfl)) rfl fun ac hs => ?_
  refine s_end ?_
  refine then_n ?_
  refine wp_seq ?_
  refine wp_reg ?_
  refine s_q hs (c_move (hs.ev rfl)) rfl fun ac hs => ?_
  refine s_q hs (c_move (hs.ev rfl)) rfl fun ac hs => ?_
  refine s_q hs (c_move (hs.ev rfl)) rfl fun ac hs => ?_
  refine s_call hs fu20 (.cons (hs.ev rfl) (.cons (hs.ev rfl) (.cons (hs.ev rfl) .nil))) (nil_spring _ _ ww) rfl fun ac ww v14 hf hp hs => ?_
  obtain rfl := hp
  replace hs := hs [] (.nil _ _)
  refine s_q hs (c_move (hs.ev rfl)) rfl fun ac hs => ?_
  refine s_q hs (c_extract (hs.ev rfl) rfl) rfl fun ac hs => ?_
  refine s_q hs (c_extract (hs.ev rfl) rfl) rfl fun ac hs => ?_
  refine s_q hs (c_assign (hs.ev rfl)) rfl fun ac hs => ?_
  refine s_q hs (c_assign (hs.ev rfl)) rfl fun ac hs => ?_
  refine s_end ?_
  replace hs := hs.sub (F' := [(6, _), (7, _), (8, _), (9, _)]) ⟨rfl, rfl, rfl, rfl, trivial⟩
  refine then_n ?_
  refine wp_seq ?_
  refine wp_seq ?_
  refine wp_reg ?_
  refine s_q hs (c_move (hs.ev rfl)) rfl fun ac hs => ?_
  refine s_q hs (c_neqI (hs.ev rfl) (hs.ev rfl)) rfl fun ac hs => ?_
  refine s_end ?_
  replace hs := hs.sub (F' := [(6, _), (7, _), (8, _), (9, _), (18, _)]) ⟨rfl, rfl, rfl, rfl, rfl, trivial⟩
  refine then_n ?_
  refine wp_cond_true (hs.ev rfl) ?_
  refine wp_seq ?_
  refine wp_reg ?_
  refine s_q hs (c_buildA (zc := (List.replicate 16 (0 : UInt8)).map B) ty50 un50 ty5 .nil (by simp [Value.cells]) (by simp [flatCells, Value.cells]) rfl) rfl fun ac hs => ?_
  refine s_q hs (c_move (hs.ev rfl)) rfl fun ac hs => ?_
  refine s_storeW (i := 0) hs ty50 rfl rfl rfl (by simp) (by simp [Value.oneCell']) (by simp) fun ww hs => ?_
  refine s_q hs (c_assign (hs.ev rfl)) rfl fun ac hs => ?_
  refine s_end ?_
  replace hs := hs.sub (F' := [(6, _), (7, _), (8, _)]) ⟨rfl, rfl, rfl, trivial⟩
  refine then_n ?_
  refine wp_ret ?_
  refine then_r ?_
  refine s_ret hs rfl (.cell (hs.tmp rfl) (run_loadA ty50 rfl (hs.seg (i := 0) rfl) (List.take_of_length_le (by simp)) (by simp)) (.tmp (hs.tmp rfl) .nil)) rfl ⟨_, rfl, hs.fr, ?_⟩
  rfl
set_option maxHeartbeats 4000000 in
theorem nil_Cred (c : Cl) (w : World)  : Ctr Try.prog 16 [.pointer none, c.v] w (fun _ => False) (fun v _ => v = .tuple #[.agg ((List.replicate 16 (0 : UInt8)).map B ++ [Value.slice none 0 0, Value.slice none 0 0]).toArray, I 2]) := by
  refine fn_start (N := 27) Try.func16 rfl rfl rfl fun ac hk => ?_
  have hs := St.start hk w
  refine wp_seq ?_
  refine wp_reg ?_
  refine s_box hs rfl rfl rfl fun ac ww g3 hs => ?_
  refine s_alloc hs ty56 rfl fun ac ww g4 hs => ?_
  refine s_q hs (c_assign (hs.ev rfl)) rfl fun ac hs => ?_
  refine s_end ?_
  replace hs := hs.sub (F' := [(0, _), (3, _), (4, _), (5, _)]) ⟨rfl, rfl, rfl, rfl, trivial⟩
  refine then_n ?_
  refine wp_seq ?_
  refine wp_reg ?_
  refine s_q hs (c_move (hs.ev rfl)) rfl fun ac hs => ?_
  refine s_q hs (c_fld fl40_0 (hs.ev rfl)) rfl fun ac hs => ?_
  refine s_q hs (c_loadS un3 rfl (hs.ev rfl) (hs.seg (i := 1) rfl) rfl) rfl fun ac hs => ?_
  refine s_q hs (c_fld fl40_1 (hs.ev rfl)) rfl fun ac hs => ?_
  refine s_q hs (c_fld fl38_0 (hs.ev rfl)) rfl fun ac hs => ?_
  refine s_q hs (c_loadS un23 rfl (hs.ev rfl) (hs.seg (i := 1) rfl) rfl) rfl fun ac hs => ?_
  refine s_call hs fu20 (.cons (hs.ev rfl) (.cons (hs.ev rfl) (.cons (hs.ev rfl) .nil))) (nil_spring _ _ ww) rfl fun ac ww v15 hf hp hs => ?_
  obtain rfl := hp
  replace hs := hs [] (.nil _ _)
  refine s_q hs (c_move (hs.ev rfl)) rfl fun ac hs => ?_
  refine s_q hs (c_extract (hs.ev rfl) rfl) rfl fun ac hs => ?_
  refine s_q hs (c_extract (hs.ev rfl) rfl) rfl fun ac hs => ?_
  refine s_q hs (c_assign (hs.ev rfl)) rfl fun ac hs => ?_
  refine s_q hs (c_assign (hs.ev rfl)) rfl fun ac hs => ?_
  refine s_end ?_
  replace hs := hs.sub (F' := [(3, _), (4, _), (5, _), (6, _), (7, _)]) ⟨rfl, rfl, rfl, rfl, rfl, trivial⟩
  refine then_n ?_
  refine wp_seq ?_
  refine wp_seq ?_
  refine wp_reg ?_
  refine s_q hs (c_move (hs.ev rfl)) rfl fun ac hs => ?_
  refine s_q hs (c_neqI (hs.ev rfl) (hs.ev rfl)) rfl fun ac hs => ?_
  refine s_end ?_
  replace hs := hs.sub (F' := [(3, _), (4, _), (5, _), (6, _), (7, _), (19, _)]) ⟨rfl, rfl, rfl, rfl, rfl, rfl, trivial⟩
  refine then_n ?_
  refine wp_cond_true (hs.ev rfl) ?_
  refine wp_seq ?_
  refine wp_reg ?_
  refine s_q hs (c_buildS (zc := (List.replicate 16 (0 : UInt8)).map B ++ [Value.slice none 0 0, Value.slice none 0 0]) ty56 bp56 .nil trivial (by simp [flatCells, Value.cells]) rfl) rfl fun ac hs => ?_
  refine s_q hs (c_move (hs.ev rfl)) rfl fun ac hs => ?_
  refine s_storeW (i := 0) hs ty56 rfl rfl rfl (by simp) (by simp [Value.oneCell']) (by simp) fun ww hs => ?_
  refine s_q hs (c_assign (hs.ev rfl)) rfl fun ac hs => ?_
  refine s_end ?_
  replace hs := hs.sub (F' := [(3, _), (4, _), (5, _), (6, _)]) ⟨rfl, rfl, rfl, rfl, trivial⟩
  refine then_n ?_
  refine wp_ret ?_
  refine then_r ?_
  refine s_ret hs rfl (.cell (hs.tmp rfl) (run_loadA ty56 ag56 (hs.seg (i := 0) rfl) (List.take_of_length_le (by simp)) (by simp)) (.tmp (hs.tmp rfl) .nil)) rfl ⟨_, rfl, hs.fr, ?_⟩
  rfl
set_option maxHeartbeats 4000000 in
theorem nil_Own (c : Cl) (w : World)  : Ctr Try.prog 17 [.pointer none, c.v, .agg ((List.replicate 16 (0 : UInt8)).map B ++ [Value.slice none 0 0, Value.slice none 0 0]).toArray] w (fun _ => False) (fun v _ => v = .bool false) := by
  refine fn_start (N := 38) Try.func17 rfl rfl rfl fun ac hk => ?_
  have hs := St.start hk w
  refine wp_seq ?_
  refine wp_reg ?_
  refine s_box hs rfl rfl rfl fun ac ww g4 hs => ?_
  refine s_box hs rfl rfl rfl fun ac ww g5 hs => ?_
  refine s_q hs (c_assign (hs.ev rfl)) rfl fun ac hs => ?_
  refine s_end ?_
  replace hs := hs.sub (F' := [(0, _), (4, _), (5, _), (6, _)]) ⟨rfl, rfl, rfl, rfl, trivial⟩
  refine then_n ?_
  refine wp_seq ?_
  refine wp_reg ?_
  refine s_q hs (c_move (hs.ev rfl)) rfl fun ac hs => ?_
  refine s_q hs (c_loadW ty40 ag40 (hs.ev rfl) (hs.seg (i := 1) rfl) (by rfl)) rfl fun ac hs => ?_
  refine s_call hs fu16 (.cons (hs.ev rfl) (.cons (hs.ev rfl) .nil)) (nil_Cred c ww) rfl fun ac ww v12 hf hp hs => ?_
  obtain rfl := hp
  replace hs := hs [] (.nil _ _)
  refine s_q hs (c_move (hs.ev rfl)) rfl fun ac hs => ?_
  refine s_q hs (c_extract (hs.ev rfl) rfl) rfl fun ac hs => ?_
  refine s_q hs (c_extract (hs.ev rfl) rfl) rfl fun ac hs => ?_
  refine s_alloc hs ty56 rfl fun ac ww g7 hs => ?_
  refine s_storeW (i := 0) hs ty56 rfl rfl rfl (by simp) (by simp [Value.oneCell']) (by simp) fun ww hs => ?_
  refine s_q hs (c_assign (hs.ev rfl)) rfl fun ac hs => ?_
  refine s_end ?_
  replace hs := hs.sub (F' := [(5, _), (6, _), (7, _), (8, _)]) ⟨rfl, rfl, rfl, rfl, trivial⟩
  refine then_n ?_
  refine wp_seq ?_
  refine wp_reg ?_
  refine s_q hs (c_move (hs.ev rfl)) rfl fun ac hs => ?_
  refine s_q hs (c_eqlI (hs.ev rfl) (hs.ev rfl)) rfl fun ac hs => ?_
  refine s_q hs (c_move (hs.ev rfl)) rfl fun ac hs => ?_
  refine s_no hs rfl rfl rfl rfl fun ac hs => ?_
  refine s_no hs rfl rfl rfl rfl fun ac hs => ?_
  refine s_no hs rfl rfl rfl rfl fun ac hs => ?_
  refine s_no hs rfl rfl rfl rfl fun ac hs => ?_
  refine s_no hs rfl rfl rfl rfl fun ac hs => ?_
  refine s_q hs (c_pick (hs.ev rfl) (hs.ev rfl) (hs.ev rfl)) rfl fun ac hs => ?_
  refine s_q hs (c_move (hs.ev rfl)) rfl fun ac hs => ?_
  refine s_no hs rfl rfl rfl rfl fun ac hs => ?_
  refine s_no hs rfl rfl rfl rfl fun ac hs => ?_
  refine s_no hs rfl rfl rfl rfl fun ac hs => ?_
  refine s_no hs rfl rfl rfl rfl fun ac hs => ?_
  refine s_no hs rfl rfl rfl rfl fun ac hs => ?_
  refine s_q hs (c_pick (hs.ev rfl) (hs.ev rfl) (hs.ev rfl)) rfl fun ac hs => ?_
  refine s_q hs (c_move (hs.ev rfl)) rfl fun ac hs => ?_
  refine s_no hs rfl rfl rfl rfl fun ac hs => ?_
  refine s_no hs rfl rfl rfl rfl fun ac hs => ?_
  refine s_no hs rfl rfl rfl rfl fun ac hs => ?_
  refine s_no hs rfl rfl rfl rfl fun ac hs => ?_
  refine s_no hs rfl rfl rfl rfl fun ac hs => ?_
  refine s_q hs (c_pick (hs.ev rfl) (hs.ev rfl) (hs.ev rfl)) rfl fun ac hs => ?_
  refine s_q hs (c_assign (hs.ev rfl)) rfl fun ac hs => ?_
  refine s_end ?_
  replace hs := hs.sub (F' := [(6, _)]) ⟨rfl, trivial⟩
  refine then_n ?_
  refine wp_ret ?_
  refine s_ret hs rfl (.tmp (hs.tmp rfl) .nil) rfl ⟨_, rfl, hs.fr, ?_⟩
  rfl
set_option maxHeartbeats 4000000 in
theorem tr_awake  (w : World)  : Ctr Try.prog 13 [] w (fun _ => False) (fun v _ => v = .bool true) := by
  refine fn_start (N := 37) Try.func13 rfl rfl rfl fun ac hk => ?_
  have hs := St.start hk w
  refine wp_seq ?_
  refine wp_reg ?_
  refine s_q hs (c_assign (hs.ev rfl)) rfl fun ac hs => ?_
  refine s_end ?_
  refine then_n ?_
  refine wp_seq ?_
  refine wp_reg ?_
  refine s_call hs fu5 .nil (tr_Open _) rfl fun ac ww v5 hf hp hs => ?_
  obtain ⟨gl, mb, rfl, hh⟩ := hp
  replace hs := hs _ (Has.grp' hh)
  refine s_q hs (c_assign (hs.ev rfl)) rfl fun ac hs => ?_
  refine s_end ?_
  replace hs := hs.sub (F' := [(0, _), (1, _)]) ⟨rfl, rfl, trivial⟩
  refine then_n ?_
  refine wp_seq ?_
  refine wp_reg ?_
  refine s_q hs (c_buildQ (zc := [U 0, U 0, I 2]) ty38 bp38 (.cons (hs.ev rfl) .nil) rfl) rfl fun ac hs => ?_
  refine s_q hs (c_buildS (zc := [I 1, U 0, U 0, I 2, I 3]) ty40 bp40 (.cons (hs.ev rfl) (.cons (hs.ev rfl) (.cons (hs.ev rfl) .nil))) ⟨rfl, rfl, rfl, trivial⟩ (by simp [flatCells, Value.cells]) rfl) rfl fun ac hs => ?_
  refine s_alloc hs ty40 rfl fun ac ww g2 hs => ?_
  refine s_storeW (i := 0) hs ty40 rfl rfl rfl (by rfl) (by rfl) rfl fun ww hs => ?_
  refine s_end ?_
  replace hs := hs.sub (F' := [(0, _), (1, _), (2, _)]) ⟨rfl, rfl, rfl, trivial⟩
  refine then_n ?_
  refine wp_seq ?_
  refine wp_seq ?_
  refine wp_reg ?_
  refine s_q hs (c_move (hs.ev rfl)) rfl fun ac hs => ?_
  refine s_q hs (c_loadW ty40 ag40 (hs.ev rfl) (hs.seg (i := 0) rfl) (by rfl)) rfl fun ac hs => ?_
  refine s_call hs fu9 (.cons (hs.ev rfl) (.cons (hs.ev rfl) .nil)) (tr_May _ _ _ _ [] (fun _ => false) (⟨1, 0, 0, 2, 3⟩ : Cl) ⟨by decide, by decide⟩ _ (led_get (hs.get (i := 1) rfl))) rfl fun ac ww v10 hf hp hs => ?_
  obtain rfl : _ = Value.bool false := hp.trans (congrArg Value.bool (by decide))
  replace hs := hs [] (.nil _ _)
  refine s_q hs (c_move (hs.ev rfl)) rfl fun ac hs => ?_
  refine s_yes hs rfl rfl ?_
  refine s_q hs (c_move (hs.ev rfl)) rfl fun ac hs => ?_
  refine s_yes hs rfl rfl ?_
  refine s_q hs (c_loadW ty40 ag40 (hs.ev rfl) (hs.seg (i := 0) rfl) (by rfl)) rfl fun ac hs => ?_
  refine s_yes hs rfl rfl ?_
  refine s_callM (i := 1) hs fu6 (.cons (hs.ev rfl) (.cons (hs.ev rfl) .nil)) rfl (tr_Show _ _ _ _ [] (fun _ => false) (⟨1, 0, 0, 2, 3⟩ : Cl) (by decide) _ (hs.get (i := 1) rfl)) rfl fun ac ww v14 hf hp hs => ?_
  obtain ⟨rfl, v', h1, h2⟩ := hp
  replace hs := hs (Ent.grp (led gl mb 0 v' [(⟨1, 0, 0, 2, 3⟩ : Cl)] (fun _ => false))) h1 (fun k hk => ⟨h2 k hk, grp_lt h1 k hk⟩)
  refine s_yes hs rfl rfl ?_
  refine s_q hs (c_neqI (hs.ev rfl) (hs.ev rfl)) rfl fun ac hs => ?_
  refine s_q hs (c_pick (hs.ev rfl) (hs.ev rfl) (hs.ev rfl)) rfl fun ac hs => ?_
  refine s_end ?_
  replace hs := hs.sub (F' := [(0, _), (1, _), (2, _), (16, _)]) ⟨rfl, rfl, rfl, rfl, trivial⟩
  refine then_n ?_
  refine wp_cond_false (hs.ev rfl) ?_
  refine wp_skip ?_
  refine then_n ?_
  refine wp_seq ?_
  refine wp_region_rgX (J := [1]) pmix 4 (by kernel_rfl) (by kernel_rfl) rfl rfl hs ?_
  simp only [List.take_succ_cons, List.take_zero]
  refine rg_q (fun ac ww h => c_loadW ty40 ag40 (h.ev rfl) (h.blk (hs.seg (i := 0) rfl)) (by rfl)) rfl ?_
  refine rg_q (fun ac ww h => c_loadW ty40 ag40 (h.ev rfl) (h.blk (hs.seg (i := 0) rfl)) (by rfl)) rfl ?_
  refine rg_alloc ty40 rfl ?_
  refine rg_alloc ty40 rfl ?_
  refine rg_nil fun ac ww L' hf hfe hs hlk => ?_
  simp only [List.drop_succ_cons, List.drop_zero]
  obtain ⟨v4, L4, M4, h4, e4, ⟨v3, L3, M3, h3, e3, rfl, rfl⟩, rfl⟩ := hfe
  replace hs := hs.add h4
  replace hs := hs.add h3
  obtain ⟨g4, rfl, rfl⟩ := e4
  obtain ⟨g3, rfl, rfl⟩ := e3
  refine sk_storeW (i := 1) hs ty40 rfl rfl rfl (by rfl) (by rfl) rfl (fun ww hs => late_read rfl rfl (hs.know.at_ 18 _ rfl) (c_loadW ty40 ag40 (hs.ev rfl) (hs.seg (i := 2) rfl) (by rfl)) (late_nil)) fun ww hs => ?_
  refine s_storeW (i := 0) hs ty40 rfl rfl rfl (by rfl) (by rfl) rfl fun ww hs => ?_
  refine s_end ?_
  replace hs := hs.sub (F' := [(0, _), (1, _), (2, _), (3, _), (4, _)]) ⟨rfl, rfl, rfl, rfl, rfl, trivial⟩
  refine then_n ?_
  refine wp_seq ?_
  refine wp_reg ?_
  refine s_q hs (c_fld fl40_2 (hs.ev rfl)) rfl fun ac hs => ?_
  refine s_store (i := 1) hs ty3 rfl rfl rfl rfl rfl rfl (by simp) rfl fun ww hs => ?_
  refine s_q hs (c_fld fl40_2 (hs.ev rfl)) rfl fun ac hs => ?_
  refine s_store (i := 0) hs ty3 rfl rfl rfl rfl rfl rfl (by simp) rfl fun ww hs => ?_
  refine s_q hs (c_fld fl40_1 (hs.ev rfl)) rfl fun ac hs => ?_
  refine s_q hs (c_fld fl38_2 (hs.ev rfl)) rfl fun ac hs => ?_
  refine s_store (i := 0) hs ty3 rfl rfl rfl rfl rfl rfl (by simp) rfl fun ww hs => ?_
  refine s_end ?_
  replace hs := hs.sub (F' := [(0, _), (1, _), (2, _), (3, _), (4, _)]) ⟨rfl, rfl, rfl, rfl, rfl, trivial⟩
  refine then_n ?_
  refine wp_seq ?_
  refine wp_reg ?_
  refine s_q hs (c_move (hs.ev rfl)) rfl fun ac hs => ?_
  refine s_q hs (c_loadW ty40 ag40 (hs.ev rfl) (hs.seg (i := 2) rfl) (by rfl)) rfl fun ac hs => ?_
  refine s_call hs fu9 (.cons (hs.ev rfl) (.cons (hs.ev rfl) .nil)) (tr_May _ _ _ _ [(⟨1, 0, 0, 2, 3⟩ : Cl)] (fun _ => false) (⟨1, 0, 0, 2, 3⟩ : Cl) ⟨by decide, by decide⟩ _ (led_get (hs.get (i := 3) rfl))) rfl fun ac ww v25 hf hp hs => ?_
  obtain rfl : _ = Value.bool true := hp.trans (congrArg Value.bool (by decide))
  replace hs := hs [] (.nil _ _)
  refine s_q hs (c_move (hs.ev rfl)) rfl fun ac hs => ?_
  refine s_yes hs rfl rfl ?_
  refine s_q hs (c_move (hs.ev rfl)) rfl fun ac hs => ?_
  refine s_yes hs rfl rfl ?_
  refine s_q hs (c_loadW ty40 ag40 (hs.ev rfl) (hs.seg (i := 1) rfl) (by rfl)) rfl fun ac hs => ?_
  refine s_yes hs rfl rfl ?_
  refine s_call hs fu9 (.cons (hs.ev rfl) (.cons (hs.ev rfl) .nil)) (tr_May _ _ _ _ [(⟨1, 0, 0, 2, 3⟩ : Cl)] (fun _ => false) (⟨1, 0, 0, 2, 2⟩ : Cl) ⟨by decide, by decide⟩ _ (led_get (hs.get (i := 3) rfl))) rfl fun ac ww v29 hf hp hs => ?_
  obtain rfl : _ = Value.bool false := hp.trans (congrArg Value.bool (by decide))
  replace hs := hs [] (.nil _ _)
  refine s_yes hs rfl rfl ?_
  refine s_q hs (c_not (hs.ev rfl)) rfl fun ac hs => ?_
  refine s_q hs (c_pick (hs.ev rfl) (hs.ev rfl) (hs.ev rfl)) rfl fun ac hs => ?_
  refine s_q hs (c_move (hs.ev rfl)) rfl fun ac hs => ?_
  refine s_yes hs rfl rfl ?_
  refine s_q hs (c_move (hs.ev rfl)) rfl fun ac hs => ?_
  refine s_yes hs rfl rfl ?_
  refine s_q hs (c_loadW ty40 ag40 (hs.ev rfl) (hs.seg (i := 0) rfl) (by rfl)) rfl fun ac hs => ?_
  refine s_yes hs rfl rfl ?_
  refine s_call hs fu9 (.cons (hs.ev rfl) (.cons (hs.ev rfl) .nil)) (tr_May _ _ _ _ [(⟨1, 0, 0, 2, 3⟩ : Cl)] (fun _ => false) (⟨1, 0, 0, 3, 2⟩ : Cl) ⟨by decide, by decide⟩ _ (led_get (hs.get (i := 3) rfl))) rfl fun ac ww v35 hf hp hs => ?_
  obtain rfl : _ = Value.bool true := hp.trans (congrArg Value.bool (by decide))
  replace hs := hs [] (.nil _ _)
  refine s_q hs (c_pick (hs.ev rfl) (hs.ev rfl) (hs.ev rfl)) rfl fun ac hs => ?_
  refine s_q hs (c_assign (hs.ev rfl)) rfl fun ac hs => ?_
  refine s_end ?_
  replace hs := hs.sub (F' := [(0, _)]) ⟨rfl, trivial⟩
  refine then_n ?_
  refine wp_ret ?_
  refine s_ret hs rfl (.tmp (hs.tmp rfl) .nil) rfl ⟨_, rfl, hs.fr, ?_⟩
  rfl
set_option maxHeartbeats 4000000 in
theorem law_TruthNil (c : Cl) (w : World)  : Ctr Try.prog 4 [c.v] w (fun _ => False) (fun v _ => v = .bool true) := by
  refine fn_start (N := 77) Try.func4 rfl rfl rfl fun ac hk => ?_
  have hs := St.start hk w
  refine wp_seq ?_
  refine wp_reg ?_
  refine s_box hs rfl rfl rfl fun ac ww g1 hs => ?_
  refine s_q hs (c_assign (hs.ev rfl)) rfl fun ac hs => ?_
  refine s_end ?_
  replace hs := hs.sub (F' := [(1, _), (2, _)]) ⟨rfl, rfl, trivial⟩
  refine then_n ?_
  refine wp_seq ?_
  refine wp_reg ?_
  refine s_q hs (c_assign (hs.ev rfl)) rfl fun ac hs => ?_
  refine s_end ?_
  refine then_n ?_
  refine wp_seq ?_
  refine wp_reg ?_
  refine s_q hs (c_assign (hs.ev rfl)) rfl fun ac hs => ?_
  refine s_end ?_
  refine then_n ?_
  refine wp_seq ?_
  refine wp_reg ?_
  refine s_q hs (c_move (hs.ev rfl)) rfl fun ac hs => ?_
  refine s_q hs (c_fld fl27_0 (hs.ev rfl)) rfl fun ac hs => ?_
  refine s_q hs (c_loadS un3 rfl (hs.ev rfl) (hs.seg (i := 0) rfl) rfl) rfl fun ac hs => ?_
  refine s_call hs fu14 (.cons (hs.ev rfl) (.cons (hs.ev rfl) (.cons (hs.ev rfl) (.cons (hs.ev rfl) (.cons (hs.ev rfl) .nil))))) (nil_Element c.d 0 0 0 _) rfl fun ac ww v15 hf hp hs => ?_
  obtain rfl := hp
  replace hs := hs [] (.nil _ _)
  refine s_q hs (c_move (hs.ev rfl)) rfl fun ac hs => ?_
  refine s_q hs (c_extract (hs.ev rfl) rfl) rfl fun ac hs => ?_
  refine s_q hs (c_extract (hs.ev rfl) rfl) rfl fun ac hs => ?_
  refine s_alloc hs ty50 rfl fun ac ww g5 hs => ?_
  refine s_storeW (i := 0) hs ty50 rfl rfl rfl (by simp) (by simp [Value.oneCell']) (by simp) fun ww hs => ?_
  refine s_q hs (c_assign (hs.ev rfl)) rfl fun ac hs => ?_
  refine s_end ?_
  replace hs := hs.sub (F' := [(1, _), (2, _), (3, _), (4, _), (6, _)]) ⟨rfl, rfl, rfl, rfl, rfl, trivial⟩
  refine then_n ?_
  refine wp_seq ?_
  refine wp_reg ?_
  refine s_q hs (c_move (hs.ev rfl)) rfl fun ac hs => ?_
  refine s_q hs (c_fld fl27_0 (hs.ev rfl)) rfl fun ac hs => ?_
  refine s_q hs (c_loadS un3 rfl (hs.ev rfl) (hs.seg (i := 1) rfl) rfl) rfl fun ac hs => ?_
  refine s_call hs fu15 (.cons (hs.ev rfl) (.cons (hs.ev rfl) (.cons (hs.ev rfl) .nil))) (nil_Root c.d 0 _) rfl fun ac ww v22 hf hp hs => ?_
  obtain rfl := hp
  replace hs := hs [] (.nil _ _)
  refine s_q hs (c_move (hs.ev rfl)) rfl fun ac hs => ?_
  refine s_q hs (c_extract (hs.ev rfl) rfl) rfl fun ac hs => ?_
  refine s_q hs (c_extract (hs.ev rfl) rfl) rfl fun ac hs => ?_
  refine s_alloc hs ty50 rfl fun ac ww g7 hs => ?_
  refine s_storeW (i := 0) hs ty50 rfl rfl rfl (by simp) (by simp [Value.oneCell']) (by simp) fun ww hs => ?_
  refine s_q hs (c_assign (hs.ev rfl)) rfl fun ac hs => ?_
  refine s_end ?_
  replace hs := hs.sub (F' := [(1, _), (2, _), (3, _), (4, _), (6, _), (8, _)]) ⟨rfl, rfl, rfl, rfl, rfl, rfl, trivial⟩
  refine then_n ?_
  refine wp_seq ?_
  refine wp_reg ?_
  refine s_q hs (c_move (hs.ev rfl)) rfl fun ac hs => ?_
  refine s_q hs (c_loadW ty27 ag27 (hs.ev rfl) (hs.seg (i := 2) rfl) (by rfl)) rfl fun ac hs => ?_
  refine s_call hs fu7 (.cons (hs.ev rfl) .nil) (tr_To c _) rfl fun ac ww v28 hf hp hs => ?_
  obtain rfl := hp
  replace hs := hs [] (.nil _ _)
  refine s_call hs fu16 (.cons (hs.ev rfl) (.cons (hs.ev rfl) .nil)) (nil_Cred c _) rfl fun ac ww v29 hf hp hs => ?_
  obtain rfl := hp
  replace hs := hs [] (.nil _ _)
  refine s_q hs (c_move (hs.ev rfl)) rfl fun ac hs => ?_
  refine s_q hs (c_extract (hs.ev rfl) rfl) rfl fun ac hs => ?_
  refine s_q hs (c_extract (hs.ev rfl) rfl) rfl fun ac hs => ?_
  refine s_alloc hs ty56 rfl fun ac ww g9 hs => ?_
  refine s_storeW (i := 0) hs ty56 rfl rfl rfl (by simp) (by simp [Value.oneCell']) (by simp) fun ww hs => ?_
  refine s_q hs (c_assign (hs.ev rfl)) rfl fun ac hs => ?_
  refine s_end ?_
  replace hs := hs.sub (F' := [(1, _), (2, _), (3, _), (4, _), (6, _), (8, _), (10, _)]) ⟨rfl, rfl, rfl, rfl, rfl, rfl, rfl, trivial⟩
  refine then_n ?_
  refine wp_seq ?_
  refine wp_reg ?_
  refine s_call hs fu13 .nil (tr_awake _) rfl fun ac ww v32 hf hp hs => ?_
  obtain rfl := hp
  replace hs := hs [] (.nil _ _)
  refine s_q hs (c_move (hs.ev rfl)) rfl fun ac hs => ?_
  refine s_yes hs rfl rfl ?_
  refine s_q hs (c_move (hs.ev rfl)) rfl fun ac hs => ?_
  refine s_yes hs rfl rfl ?_
  refine s_q hs (c_eqlI (hs.ev rfl) (hs.ev rfl)) rfl fun ac hs => ?_
  refine s_q hs (c_pick (hs.ev rfl) (hs.ev rfl) (hs.ev rfl)) rfl fun ac hs => ?_
  refine s_q hs (c_move (hs.ev rfl)) rfl fun ac hs => ?_
  refine s_yes hs rfl rfl ?_
  refine s_q hs (c_move (hs.ev rfl)) rfl fun ac hs => ?_
  refine s_yes hs rfl rfl ?_
  refine s_q hs (c_eqlI (hs.ev rfl) (hs.ev rfl)) rfl fun ac hs => ?_
  refine s_q hs (c_pick (hs.ev rfl) (hs.ev rfl) (hs.ev rfl)) rfl fun ac hs => ?_
  refine s_q hs (c_move (hs.ev rfl)) rfl fun ac hs => ?_
  refine s_yes hs rfl rfl ?_
  refine s_q hs (c_move (hs.ev rfl)) rfl fun ac hs => ?_
  refine s_yes hs rfl rfl ?_
  refine s_q hs (c_eqlI (hs.ev rfl) (hs.ev rfl)) rfl fun ac hs => ?_
  refine s_q hs (c_pick (hs.ev rfl) (hs.ev rfl) (hs.ev rfl)) rfl fun ac hs => ?_
  refine s_q hs (c_move (hs.ev rfl)) rfl fun ac hs => ?_
  refine s_yes hs rfl rfl ?_
  refine s_q hs (c_move (hs.ev rfl)) rfl fun ac hs => ?_
  refine s_yes hs rfl rfl ?_
  refine s_q hs (c_loadW ty27 ag27 (hs.ev rfl) (hs.seg (i := 3) rfl) (by rfl)) rfl fun ac hs => ?_
  refine s_yes hs rfl rfl ?_
  refine s_call hs fu7 (.cons (hs.ev rfl) .nil) (tr_To c _) rfl fun ac ww v48 hf hp hs => ?_
  obtain rfl := hp
  replace hs := hs [] (.nil _ _)
  refine s_yes hs rfl rfl ?_
  refine s_q hs (c_buildS (zc := (List.replicate 16 (0 : UInt8)).map B ++ [Value.slice none 0 0, Value.slice none 0 0]) ty56 bp56 .nil trivial (by simp [flatCells, Value.cells]) rfl) rfl fun ac hs => ?_
  refine s_yes hs rfl rfl ?_
  refine s_call hs fu17 (.cons (hs.ev rfl) (.cons (hs.ev rfl) (.cons (hs.ev rfl) .nil))) (nil_Own c _) rfl fun ac ww v50 hf hp hs => ?_
  obtain rfl := hp
  replace hs := hs [] (.nil _ _)
  refine s_yes hs rfl rfl ?_
  refine s_q hs (c_not (hs.ev rfl)) rfl fun ac hs => ?_
  refine s_q hs (c_pick (hs.ev rfl) (hs.ev rfl) (hs.ev rfl)) rfl fun ac hs => ?_
  refine s_q hs (c_move (hs.ev rfl)) rfl fun ac hs => ?_
  refine s_yes hs rfl rfl ?_
  refine s_q hs (c_move (hs.ev rfl)) rfl fun ac hs => ?_
  refine s_yes hs rfl rfl ?_
  refine s_q hs (c_loadW ty27 ag27 (hs.ev rfl) (hs.seg (i := 3) rfl) (by rfl)) rfl fun ac hs => ?_
  refine s_yes hs rfl rfl ?_
  refine s_call hs fu7 (.cons (hs.ev rfl) .nil) (tr_To c _) rfl fun ac ww v56 hf hp hs => ?_
  obtain rfl := hp
  replace hs := hs [] (.nil _ _)
  refine s_yes hs rfl rfl ?_
  refine s_call hs fu6 (.cons (hs.ev rfl) (.cons (hs.ev rfl) .nil)) (nil_Show c _) rfl fun ac ww v57 hf hp hs => ?_
  obtain rfl := hp
  replace hs := hs [] (.nil _ _)
  refine s_yes hs rfl rfl ?_
  refine s_q hs (c_eqlI (hs.ev rfl) (hs.ev rfl)) rfl fun ac hs => ?_
  refine s_q hs (c_pick (hs.ev rfl) (hs.ev rfl) (hs.ev rfl)) rfl fun ac hs => ?_
  refine s_q hs (c_move (hs.ev rfl)) rfl fun ac hs => ?_
  refine s_yes hs rfl rfl ?_
  refine s_q hs (c_move (hs.ev rfl)) rfl fun ac hs => ?_
  refine s_yes hs rfl rfl ?_
  refine s_call hs fu8 (.cons (hs.ev rfl) (.cons (hs.ev rfl) .nil)) (nil_Whole 1 _) rfl fun ac ww v62 hf hp hs => ?_
  obtain rfl := hp
  replace hs := hs [] (.nil _ _)
  refine s_yes hs rfl rfl ?_
  refine s_q hs (c_eqlI (hs.ev rfl) (hs.ev rfl)) rfl fun ac hs => ?_
  refine s_q hs (c_pick (hs.ev rfl) (hs.ev rfl) (hs.ev rfl)) rfl fun ac hs => ?_
  refine s_q hs (c_move (hs.ev rfl)) rfl fun ac hs => ?_
  refine s_yes hs rfl rfl ?_
  refine s_q hs (c_move (hs.ev rfl)) rfl fun ac hs => ?_
  refine s_yes hs rfl rfl ?_
  refine s_call hs fu11 (.cons (hs.ev rfl) (.cons (hs.ev rfl) (.cons (hs.ev rfl) (.cons (hs.ev rfl) .nil)))) (nil_Nearest 1 0 0 _) rfl fun ac ww v67 hf hp hs => ?_
  obtain rfl := hp
  replace hs := hs [] (.nil _ _)
  refine s_yes hs rfl rfl ?_
  refine s_q hs (c_eqlI (hs.ev rfl) (hs.ev rfl)) rfl fun ac hs => ?_
  refine s_q hs (c_pick (hs.ev rfl) (hs.ev rfl) (hs.ev rfl)) rfl fun ac hs => ?_
  refine s_q hs (c_move (hs.ev rfl)) rfl fun ac hs => ?_
  refine s_yes hs rfl rfl ?_
  refine s_q hs (c_move (hs.ev rfl)) rfl fun ac hs => ?_
  refine s_yes hs rfl rfl ?_
  refine s_q hs (c_loadW ty27 ag27 (hs.ev rfl) (hs.seg (i := 3) rfl) (by rfl)) rfl fun ac hs => ?_
  refine s_yes hs rfl rfl ?_
  refine s_call hs fu7 (.cons (hs.ev rfl) .nil) (tr_To c _) rfl fun ac ww v73 hf hp hs => ?_
  obtain rfl := hp
  replace hs := hs [] (.nil _ _)
  refine s_yes hs rfl rfl ?_
  refine s_call hs fu9 (.cons (hs.ev rfl) (.cons (hs.ev rfl) .nil)) (nil_May c _) rfl fun ac ww v74 hf hp hs => ?_
  obtain rfl := hp
  replace hs := hs [] (.nil _ _)
  refine s_yes hs rfl rfl ?_
  refine s_q hs (c_not (hs.ev rfl)) rfl fun ac hs => ?_
  refine s_q hs (c_pick (hs.ev rfl) (hs.ev rfl) (hs.ev rfl)) rfl fun ac hs => ?_
  refine s_q hs (c_assign (hs.ev rfl)) rfl fun ac hs => ?_
  refine s_end ?_
  replace hs := hs.sub (F' := [(2, _)]) ⟨rfl, trivial⟩
  refine then_n ?_
  refine wp_ret ?_
  refine s_ret hs rfl (.tmp (hs.tmp rfl) .nil) rfl ⟨_, rfl, hs.fr, ?_⟩
  rfl
end Go.Proofs.Ytklajbdbnnceiaa
end

section
/- Openings of rows of anything that is opened by itself; claims, and an int ahead of a claim, in rows. -/
set_option linter.unusedSimpArgs false
set_option linter.unusedVariables false
namespace Go.Fw
open Go Go.ChangeShapes Go.WideShapes Go.ChangeAt Go.RowKit
section
variable {H : Type} {enc : TypeId × Value → H} {P : Program} {w : World} {base : Nat} {spare : Nat → Bool} {held : Bool} {fuel : Nat} {t e u : TypeId} {cs : List Value} {x : DataW H × List MemPlace} {v : Value} {d : DataW H} {ps : List MemPlace} {r : Reach} {b0 : Nat}
theorem trodG {α : Type} [Inhabited α] {f : α → List Value} {p : α → Prop} {m : Nat} (ht : P.underlying t = some (.slice e)) (hce : P.cellsOf e = m) (hm0 : 0 < m)
    (op1 : ∀ fu (cs : List Value) x, DataW.trod enc P w base spare held fu e cs = some x → ∃ y : α, cs = f y ∧ (f y).length = m ∧ p y)
    (h : DataW.trod enc P w base spare held fuel t cs = some x) : ∃ (v : Value) (l : List α), cs = [v] ∧ (∀ y ∈ l, (f y).length = m ∧ p y) ∧ Rd w v l.length (l.flatMap f) := by
  rcases Deep.open_slice ht h with ⟨h1, h2⟩ | ⟨a, len, cap, q, n, D, Pl, h1, hb, hl, hm, hmm, h2, hx⟩
  · exact ⟨_, [], h1, by simp, ⟨none, 0, rfl, Nat.le_refl _, Nat.zero_le _, fun _ => rfl, .inl rfl⟩⟩
  · have hlm : len ≤ q := by rw [hmm]; split <;> omega
    have each : ∀ i, i < len → ∃ y : α, ((f y).length = m ∧ p y) ∧ ∀ j, j < m → w.cell? ((a.add (i * m)).add j) = (f y)[j]? := fun i hi => by
      obtain ⟨cs', h3, h4⟩ := hx i (by omega)
      rw [hce] at h3
      obtain ⟨y, rfl, hl2, hp2⟩ := op1 _ _ _ h4
      exact ⟨y, ⟨hl2, hp2⟩, fun j hj => (World.cells?_some h3).2.2 j hj⟩
    obtain ⟨F, hF⟩ := Deep.choose_lt (α := α) (p := fun i y => ((f y).length = m ∧ p y) ∧ ∀ j, j < m → w.cell? ((a.add (i * m)).add j) = (f y)[j]?) each
    have hfl : ∀ k, k ≤ len → ((List.range k).flatMap fun i => f (F i)).length = k * m ∧ ∀ i j, i < k → j < m → ((List.range k).flatMap fun i => f (F i))[i * m + j]? = (f (F i))[j]? := by
      intro k
      induction k with
      | zero => intro _; exact ⟨by simp, fun i j hi _ => by omega⟩
      | succ k ih =>
        intro hk
        obtain ⟨ih1, ih2⟩ := ih (by omega)
        have hk1 := (hF k (by omega)).1.1
        rw [List.range_succ, List.flatMap_append]
        simp only [List.flatMap_cons, List.flatMap_nil, List.append_nil]
        refine ⟨by rw [List.length_append, ih1, hk1, Nat.succ_mul], fun i j hi hj => ?_⟩
        by_cases e : i = k
        · subst e
          rw [List.getElem?_append_right (by omega), ih1, Nat.add_sub_cancel_left]
        · have hle : (i + 1) * m ≤ k * m := Nat.mul_le_mul_right _ (by omega)
          rw [Nat.succ_mul] at hle
          rw [List.getElem?_append_left (by omega), ih2 i j (by omega) hj]
    obtain ⟨hf1, hf2⟩ := hfl len (Nat.le_refl _)
    have hfm : ((List.range len).map F).flatMap f = (List.range len).flatMap fun i => f (F i) := by rw [List.flatMap_map]
    refine ⟨_, (List.range len).map F, h1, fun y hy => ?_, some a, cap, by simp, by simpa using hl, hm, (fun h => by cases h), ?_⟩
    · obtain ⟨i, hi, rfl⟩ := List.mem_map.1 hy
      exact (hF i (List.mem_range.1 hi)).1
    rw [hfm]
    by_cases hp : len = 0
    · left; subst hp; rfl
    · right
      have hsp : a.spot = none := by
        have h5 := (hF 0 (by omega)).2 0 hm0
        have h6 := (hF 0 (by omega)).1.1
        rw [List.getElem?_eq_getElem (by omega)] at h5
        have := World.cell?_spot h5
        have e0 : (a.add (0 * m)).add 0 = a := by rw [Nat.zero_mul]; obtain ⟨b, o, s⟩ := a; cases s <;> simp [Addr.add]
        rw [e0] at this
        exact this
      obtain ⟨b, o, T, fr, all, rfl, h5, h6⟩ := row_of (w := w) (a := a) (cs := (List.range len).flatMap fun i => f (F i)) (n := len * m) (Nat.mul_pos (by omega) hm0) hf1 (fun i hi => by
        have hdiv : i / m < len := Nat.div_lt_of_lt_mul (by rw [Nat.mul_comm]; exact hi)
        have hmod := Nat.mod_lt i hm0
        have h7 := (hF (i / m) hdiv).2 (i % m) hmod
        rw [add_add _ _ _ hsp, Nat.div_add_mod'] at h7
        rw [h7, ← hf2 (i / m) (i % m) hdiv hmod, Nat.div_add_mod'])
      exact ⟨b, o, T, fr, all, rfl, h5, h6⟩
theorem opSG {α : Type} [Inhabited α] {f : α → List Value} {p : α → Prop} {m : Nat} (ht : P.underlying t = some (.slice e)) (hce : P.cellsOf e = m) (hm0 : 0 < m)
    (op1 : ∀ fu (cs : List Value) x, DataW.trod enc P w base spare held fu e cs = some x → ∃ y : α, cs = f y ∧ (f y).length = m ∧ p y)
    (hval : Value.okWide P w r b0 t v) (hd : DataW.Trod enc P w base spare held t v d ps) : ∃ l : List α, (∀ y ∈ l, (f y).length = m ∧ p y) ∧ Rd w v l.length (l.flatMap f) := by
  obtain ⟨a, len, cap, rfl⟩ := okWide_slice ht hval
  obtain ⟨fu, hf⟩ := hd
  obtain ⟨v2, l, he, hp, hr⟩ := trodG ht hce hm0 op1 (by simpa [Value.cells] using hf)
  obtain rfl : _ = v2 := by simpa using he
  exact ⟨l, hp, hr⟩
/-- A claim's cells: an int, a struct (uint32, uint32, int), an int. -/
theorem trodIK {f0 f1 f2 g0 g1 g2 : Field} (ht : P.underlying t = some (.struct #[f0, f1, f2])) (h0 : P.underlying f0.type = some (.int .i64)) (h1 : P.underlying f1.type = some (.struct #[g0, g1, g2])) (h2 : P.underlying f2.type = some (.int .i64))
    (k0 : P.underlying g0.type = some (.int .u32)) (k1 : P.underlying g1.type = some (.int .u32)) (k2 : P.underlying g2.type = some (.int .i64)) (o0 : f0.offset = 0) (o1 : f1.offset = 1) (o2 : f2.offset = 4) (p0 : g0.offset = 0) (p1 : g1.offset = 1) (p2 : g2.offset = 2)
    (c0 : P.cellsOf f0.type = 1) (c1 : P.cellsOf f1.type = 3) (c2 : P.cellsOf f2.type = 1) (ct : P.cellsOf t = 5) (d0 : P.cellsOf g0.type = 1) (d1 : P.cellsOf g1.type = 1) (d2 : P.cellsOf g2.type = 1) (h : DataW.trod enc P w base spare held fuel t cs = some x) :
    ∃ (n : Int) (ep sq : UInt32) (i j : Int), cs = [I n, U ep, U sq, I i, I j] ∧ (-9223372036854775808 ≤ n ∧ n ≤ 9223372036854775807) ∧ (-9223372036854775808 ≤ i ∧ i ≤ 9223372036854775807) ∧ (-9223372036854775808 ≤ j ∧ j ≤ 9223372036854775807) := by
  obtain ⟨y0, y1, y2, n, _, hl, hy0, hy1, hy2⟩ := Go.Deep.trod_struct3 ht h
  obtain ⟨z0, z1, z2, m, _, hl1, hz0, hz1, hz2⟩ := Go.Deep.trod_struct3 h1 hy1
  rw [ct] at hl
  match hcs : cs, hl with
  | [a, b, c, e, f], _ =>
    rw [o0, c0] at hy0
    rw [o2, c2] at hy2
    rw [o1, c1, p0, d0] at hz0
    rw [o1, c1, p1, d1] at hz1
    rw [o1, c1, p2, d2] at hz2
    obtain ⟨z, hz, _, hw⟩ := DataW.trod_int h0 hy0
    obtain ⟨ze, hze, _, hwe⟩ := DataW.trod_int k0 hz0
    obtain ⟨zs, hzs, _, hws⟩ := DataW.trod_int k1 hz1
    obtain ⟨zm, hzm, _, hwm⟩ := DataW.trod_int k2 hz2
    obtain ⟨zn, hzn, _, hwn⟩ := DataW.trod_int h2 hy2
    simp at hz hze hzs hzm hzn
    subst hz hze hzs hzm hzn
    obtain ⟨ep, hep⟩ := ofU hwe
    obtain ⟨sq, hsq⟩ := ofU hws
    refine ⟨z, ep, sq, zm, zn, ?_, bounds_i64 hw, bounds_i64 hwm, bounds_i64 hwn⟩
    rw [← hep, ← hsq]
/-- An int ahead of a claim. -/
theorem trodIIK {a0 a1 f0 f1 f2 g0 g1 g2 : Field} (hs : P.underlying t = some (.struct #[a0, a1])) (hi : P.underlying a0.type = some (.int .i64)) (ht : P.underlying a1.type = some (.struct #[f0, f1, f2])) (h0 : P.underlying f0.type = some (.int .i64)) (h1 : P.underlying f1.type = some (.struct #[g0, g1, g2])) (h2 : P.underlying f2.type = some (.int .i64))
    (k0 : P.underlying g0.type = some (.int .u32)) (k1 : P.underlying g1.type = some (.int .u32)) (k2 : P.underlying g2.type = some (.int .i64)) (q0 : a0.offset = 0) (q1 : a1.offset = 1) (o0 : f0.offset = 0) (o1 : f1.offset = 1) (o2 : f2.offset = 4) (p0 : g0.offset = 0) (p1 : g1.offset = 1) (p2 : g2.offset = 2)
    (b0 : P.cellsOf a0.type = 1) (c0 : P.cellsOf f0.type = 1) (c1 : P.cellsOf f1.type = 3) (c2 : P.cellsOf f2.type = 1) (ct : P.cellsOf a1.type = 5) (cs6 : P.cellsOf t = 6) (d0 : P.cellsOf g0.type = 1) (d1 : P.cellsOf g1.type = 1) (d2 : P.cellsOf g2.type = 1) (h : DataW.trod enc P w base spare held fuel t cs = some x) :
    ∃ (k n : Int) (ep sq : UInt32) (i j : Int), cs = [I k, I n, U ep, U sq, I i, I j] ∧ (-9223372036854775808 ≤ n ∧ n ≤ 9223372036854775807) ∧ (-9223372036854775808 ≤ i ∧ i ≤ 9223372036854775807) ∧ (-9223372036854775808 ≤ j ∧ j ≤ 9223372036854775807) := by
  obtain ⟨y0, y1, n, _, hl, hy0, hy1⟩ := trod_struct2 hs h
  rw [cs6] at hl
  rw [q0, b0] at hy0
  rw [q1, ct] at hy1
  obtain ⟨n, ep, sq, i, j, he, hb⟩ := trodIK ht h0 h1 h2 k0 k1 k2 o0 o1 o2 p0 p1 p2 c0 c1 c2 ct d0 d1 d2 hy1
  match hcs : cs, hl with
  | [a, b, c, e, f, g], _ =>
    obtain ⟨z, hz, _, hw⟩ := DataW.trod_int hi hy0
    simp at hz he
    obtain ⟨rfl, rfl, rfl, rfl, rfl⟩ := he
    subst hz
    exact ⟨z, n, ep, sq, i, j, rfl, hb⟩
end
end Go.Fw
end

section
/- The law of ledgers. -/
set_option linter.unusedSimpArgs false
set_option linter.unusedVariables false
set_option maxRecDepth 100000
namespace Go.Proofs.Ytklajbdbnnceiaa
open Go Go.Fw
def okC (c : Cl) : Prop := (-9223372036854775808 ≤ c.d ∧ c.d ≤ 9223372036854775807) ∧ (-9223372036854775808 ≤ c.mt ∧ c.mt ≤ 9223372036854775807) ∧ (-9223372036854775808 ≤ c.sn ∧ c.sn ≤ 9223372036854775807)
structure Opr where
  k : Int
  x : Cl
  deriving Inhabited
def Opr.c (o : Opr) : List Value := I o.k :: o.x.c
theorem opr_piece : ∀ (l : List Opr) (k : Nat), k < l.length → ((l.flatMap Opr.c).drop (k * 6)).take 6 = (l.getD k default).c
  | [], k, h => by simp at h
  | o :: l, 0, _ => by
    rw [List.flatMap_cons]
    exact List.take_left' (by rfl)
  | o :: l, k + 1, h => by
    rw [List.flatMap_cons, Nat.succ_mul, Nat.add_comm, ← List.drop_drop, List.drop_left' (by rfl), opr_piece l k (by simpa using h)]
    rfl
theorem opr_length : ∀ l : List Opr, (l.flatMap Opr.c).length = l.length * 6
  | [] => rfl
  | o :: l => by
    rw [List.flatMap_cons, List.length_append, opr_length l, List.length_cons, Nat.succ_mul]
    show 6 + _ = _
    omega
theorem Rd.opr_at {w : World} {ad : Option Addr} {cap : Nat} {l : List Opr} (h : Rd w (.slice ad l.length cap) l.length (l.flatMap Opr.c)) (hn : 0 < l.length) :
    ∃ b o T fr all, ad = some ⟨b, o, none⟩ ∧ w.heap[b]? = some (.cells all T fr) ∧ ∀ k, k < l.length → (all.toList.drop (o + k * 6)).take 6 = (l.getD k default).c := by
  obtain ⟨b, o, cap', T, fr, all, e, _, _, hb, hc⟩ := Rd.at_ h (by intro e; have := congrArg List.length e; rw [opr_length] at this; simp only [List.length_nil] at this; omega)
  cases e
  refine ⟨b, o, T, fr, all, rfl, hb, fun k hk => ?_⟩
  have hle : (k + 1) * 6 ≤ l.length * 6 := Nat.mul_le_mul_right _ (by omega)
  rw [Nat.succ_mul] at hle
  have h2 : (((all.toList.drop o).take (l.flatMap Opr.c).length).drop (k * 6)).take 6 = ((l.flatMap Opr.c).drop (k * 6)).take 6 := by rw [hc]
  rw [opr_length, List.drop_take, List.take_take, Nat.min_eq_left (by omega), List.drop_drop] at h2
  rw [h2, opr_piece l k hk]
theorem near_fold (d : Int) (ep sq : UInt32) (m : Int) : ∀ (l : List Cl) (b : Int), (∀ s ∈ l, 0 ≤ s.mt) → ((0 ≤ l.foldl (nearS d ep sq) b ∧ l.foldl (nearS d ep sq) b < m) ↔ ((0 ≤ b ∧ b < m) ∨ ∃ s ∈ l, s.d = d ∧ s.ep = ep ∧ s.sq = sq ∧ s.mt < m))
  | [], b, _ => by simp
  | s :: l, b, h => by
    rw [List.foldl_cons, near_fold d ep sq m l _ (fun x hx => h x (List.mem_cons_of_mem _ hx))]
    have hs := h s (List.mem_cons_self ..)
    unfold nearS
    constructor
    · rintro (h1 | ⟨x, hx, h2⟩)
      · split at h1
        · rename_i h3
          exact .inr ⟨s, List.mem_cons_self .., h3.1, h3.2.1, h3.2.2.1, h1.2⟩
        · exact .inl h1
      · exact .inr ⟨x, List.mem_cons_of_mem _ hx, h2⟩
    · rintro (h1 | ⟨x, hx, h2⟩)
      · left
        split
        · rename_i h3
          omega
        · exact h1
      · rcases List.mem_cons.1 hx with rfl | hx
        · left
          split
          · exact ⟨hs, h2.2.2.2⟩
          · rename_i h3
            have : ¬ (b < 0 ∨ x.mt < b) := fun h4 => h3 ⟨h2.1, h2.2.1, h2.2.2.1, h4⟩
            omega
        · exact .inr ⟨x, hx, h2⟩
theorem may_eq {wh : Int → Bool} {l : List Cl} (c : Cl) (hl : ∀ s ∈ l, 0 ≤ s.mt) (hw : ∀ d, wh d = true → wOk d = true) : mayP wh l c = mayR wh l c := by
  rw [Bool.eq_iff_iff, mayP, mayR]
  have h1 := near_fold c.d c.ep c.sq c.mt l (-1) hl
  simp only [Bool.or_eq_true, Bool.and_eq_true, decide_eq_true_eq, List.any_eq_true, hit]
  rw [show near l c.d c.ep c.sq = l.foldl (nearS c.d c.ep c.sq) (-1) from rfl, h1]
  constructor
  · rintro ((h | h) | (h | ⟨s, hs, h⟩))
    · exact .inl ⟨hw _ h, h⟩
    · exact .inr ⟨c, h, .inl rfl⟩
    · omega
    · exact .inr ⟨s, hs, .inr ⟨⟨⟨h.1, h.2.1⟩, h.2.2.1⟩, h.2.2.2⟩⟩
  · rintro (h | ⟨s, hs, (rfl | h)⟩)
    · exact .inl (.inl h.2)
    · exact .inl (.inr hs)
    · exact .inr (.inr ⟨s, hs, h.1.1.1, h.1.1.2, h.1.2, h.2⟩)
structure LS where
  rv : Value
  gv : Value
  l : List Cl
  wh : Int → Bool
  nb : Nat
structure LS.Ok (k : Nat) (s : LS) : Prop where
  h1 : s.l.length ≤ k
  h2 : s.nb ≤ k
  h3 : ∀ y ∈ s.l, 0 ≤ y.mt
  h4 : ∀ d, s.wh d = true → wOk d = true
theorem LS.okA {k nb : Nat} {rv gv rv' gv' : Value} {l : List Cl} {wh : Int → Bool} (x : Cl) (h : LS.Ok k ⟨rv, gv, l, wh, nb⟩) : LS.Ok (k + 1) ⟨rv', gv', addC l x, wh, nb⟩ := by
  obtain ⟨h1, h2, h3, h4⟩ := h
  refine ⟨?_, Nat.le_succ_of_le h2, fun y hy => ?_, h4⟩
  · have h1 : l.length ≤ k := h1
    show (addC l x).length ≤ k + 1
    unfold addC
    split
    · rw [List.length_append]
      exact Nat.succ_le_succ h1
    · omega
  · have hy : y ∈ addC l x := hy
    by_cases e : shOk x = true
    · rw [addC, if_pos e] at hy
      rcases List.mem_append.1 hy with hy | hy
      · exact h3 y hy
      · rw [List.mem_singleton.1 hy]
        simp [shOk] at e
        exact e.2
    · rw [addC, if_neg e] at hy
      exact h3 y hy
theorem LS.okB {k nb nb' : Nat} {rv gv rv' gv' : Value} {l : List Cl} {wh : Int → Bool} (d : Int) (h : LS.Ok k ⟨rv, gv, l, wh, nb⟩) (hn : nb' ≤ nb + 1) : LS.Ok (k + 1) ⟨rv', gv', l, addW wh d, nb'⟩ := by
  obtain ⟨h1, h2, h3, h4⟩ := h
  have h2 : nb ≤ k := h2
  refine ⟨Nat.le_succ_of_le h1, ?_, h3, fun y hy => ?_⟩
  · show nb' ≤ k + 1
    omega
  · have hy : addW wh d y = true := hy
    unfold addW at hy
    split at hy
    · rename_i e
      rcases (Bool.or_eq_true _ _).mp hy with hy | hy
      · rw [of_decide_eq_true hy]; exact e
      · exact h4 y hy
    · exact h4 y hy
theorem ecOk (b : Bool) : (!(decide (ec b = 0) == b)) = false := by cases b <;> rfl
theorem ledC_set (v : Value) (wh : Int → Bool) {d : Int} (h : (decide (0 ≤ d) && decide (d < 8)) = true) :
    (ledC v wh).take (0 + 1 + d.toNat * 1) ++ [.bool true] ++ (ledC v wh).drop (0 + 1 + d.toNat * 1 + 1) = ledC v (fun y => decide (y = d) || wh y) := by
  obtain ⟨e, h8⟩ := dlt h
  generalize d.toNat = n at e h8
  subst e
  have : n = 0 ∨ n = 1 ∨ n = 2 ∨ n = 3 ∨ n = 4 ∨ n = 5 ∨ n = 6 ∨ n = 7 := by omega
  rcases this with rfl | rfl | rfl | rfl | rfl | rfl | rfl | rfl <;> rfl
theorem two_piece (c x : Cl) {j : Nat} (hj : j < 2) (hc : okC c) (hx : okC x) : ∃ y : Cl, okC y ∧ (([c.v, x.v].flatMap fun z => z.cells.toList).drop (0 + j * 5)).take 5 = y.c := by
  have : j = 0 ∨ j = 1 := by omega
  rcases this with rfl | rfl
  · exact ⟨c, hc, rfl⟩
  · exact ⟨x, hx, rfl⟩
set_option maxHeartbeats 4000000 in
theorem law_TruthLedgers (ops : List Opr) (hops : ∀ y ∈ ops, okC y.x) (v : Value) (c : Cl) (hco : okC c) (w : World) (hq : Rd w v ops.length (ops.flatMap Opr.c)) : Ctr Try.prog 3 [v, c.v] w (fun _ => False) (fun v2 _ => v2 = .bool true) := by
  have hnl0 := hq.le
  obtain ⟨vad, vcap, rfl, hvc, hvm⟩ := Rd.sl hq
  refine fn_start (N := 117) Try.func3 rfl rfl rfl fun ac hk => ?_
  have hs := St.start hk w
  refine wp_seq ?_
  refine wp_reg ?_
  refine s_box hs rfl rfl rfl fun ac ww g3 hs => ?_
  refine s_q hs (c_assign (hs.ev rfl)) rfl fun ac hs => ?_
  refine s_end ?_
  replace hs := hs.sub (F' := [(0, _), (3, _), (4, _)]) ⟨rfl, rfl, rfl, trivial⟩
  refine then_n ?_
  refine wp_seq ?_
  refine wp_reg ?_
  refine s_call hs fu5 .nil (tr_Open _) rfl fun ac ww v12 hf hp hs => ?_
  obtain ⟨gl, mb, rfl, hh⟩ := hp
  replace hs := hs _ (Has.grp' hh)
  refine s_q hs (c_buildS (zc := ledC (.slice none 0 0) (fun _ => false)) ty33 bp33 .nil trivial (by simp [flatCells, Value.cells]) rfl) rfl fun ac hs => ?_
  refine s_alloc hs ty33 rfl fun ac ww g6 hs => ?_
  refine s_q hs (c_assign (hs.ev rfl)) rfl fun ac hs => ?_
  refine s_storeW (i := 0) hs ty33 rfl rfl rfl (by rfl) (by rfl) rfl fun ww hs => ?_
  refine s_end ?_
  replace hs := hs.nilrow 27 5
  replace hs := hs.sub (F' := [(0, _), (3, _), (4, _), (5, _), (6, _)]) ⟨rfl, rfl, rfl, rfl, rfl, trivial⟩
  refine then_n ?_
  refine wp_seq ?_
  refine wp_seq ?_
  refine wp_reg ?_
  refine s_q hs (c_move (hs.ev rfl)) rfl fun ac hs => ?_
  refine s_q hs (c_lenS un22 (hs.ev rfl)) rfl fun ac hs => ?_
  refine s_q hs (c_move (hs.ev rfl)) rfl fun ac hs => ?_
  refine s_end ?_
  replace hs := hs.sub (F' := [(3, _), (4, _), (5, _), (6, _), (14, _), (15, _), (16, _)]) ⟨rfl, rfl, rfl, rfl, rfl, rfl, rfl, trivial⟩
  refine then_n ?_
  refine wp_block ?_
  refine s_loop hs (X := Nat × LS) (fun z => [(16, I z.1)]) [(3, _), (5, _), (6, _), (14, _), (15, _)] (fun z => [.row z.2.rv z.2.l.length (clsC z.2.l) 27 5, .seg g6 (ledC z.2.rv z.2.wh) 33, Ent.grp (led gl mb z.2.nb z.2.gv z.2.l z.2.wh), .seg g3 c.c 27]) (fun n z => z.1 ≤ ops.length ∧ z.1 ≤ 40 ∧ LS.Ok z.1 z.2 ∧ n = ops.length - z.1) (_) ((0, ⟨.slice none 0 0, .slice none 0 0, [], fun _ => false, 0⟩)) (⟨Nat.zero_le _, Nat.zero_le _, ⟨Nat.le_refl _, Nat.le_refl _, fun _ h => (by cases h), fun _ h => (by cases h)⟩, rfl⟩) ⟨rfl, rfl, rfl, rfl, rfl, rfl, trivial⟩ rfl ?_
  rintro n ⟨k, rv, gv, l, wh, nb⟩ ac ww hok hs
  simp only [List.cons_append, List.nil_append] at hs
  obtain ⟨hk, hk40, hok, rfl⟩ := hok
  refine wp_seq ?_
  refine wp_reg ?_
  refine s_q hs (c_lssI (hs.ev rfl) (hs.ev rfl)) rfl fun ac hs => ?_
  refine s_end ?_
  refine then_n ?_
  refine wp_seq ?_
  refine s_cond hs rfl (fun hc => ?_) (fun hc => ?_)
  · try simp only [decide_eq_true_eq, decide_eq_false_iff_not, Bool.not_eq_true', Bool.not_eq_false', Bool.and_eq_true, Bool.or_eq_true, Bool.or_eq_false_iff] at hc
    have hkn : k < ops.length := by omega
    obtain ⟨pb, po, pT, pf, pall, rfl, hpb, hps⟩ := Rd.opr_at hq (by omega)
    replace hps := hps k hkn
    obtain ⟨⟨kd, x⟩, hx⟩ : ∃ x, ops.getD k default = x := ⟨_, rfl⟩
    rw [hx] at hps
    have hxo : okC x := by
      have := hops (ops.getD k default) (by rw [List.getD_eq_getElem?_getD, List.getElem?_eq_getElem hkn]; exact List.getElem_mem hkn)
      rw [hx] at this
      exact this
    refine wp_skip ?_
    refine then_n ?_
    refine wp_seq ?_
    refine wp_block ?_
    refine wp_seq ?_
    refine wp_reg ?_
    refine s_q hs (c_move (hs.ev rfl)) rfl fun ac hs => ?_
    refine s_q hs (c_idxS (j := k) un22 ty35 (hs.ev rfl) (hs.ev rfl) (by omega) (by omega)) rfl fun ac hs => ?_
    refine s_q hs (c_loadA ty35 ag35 (hs.ev rfl) (hs.old hpb id) hps (by rfl)) rfl fun ac hs => ?_
    refine s_alloc hs ty35 rfl fun ac ww g8 hs => ?_
    refine s_q hs (c_assign (hs.ev rfl)) rfl fun ac hs => ?_
    refine s_storeW (i := 0) hs ty35 rfl rfl rfl (by rfl) (by rfl) rfl fun ww hs => ?_
    refine s_end ?_
    refine then_n ?_
    refine wp_seq ?_
    refine wp_seq ?_
    refine wp_reg ?_
    refine s_q hs (c_move (hs.ev rfl)) rfl fun ac hs => ?_
    refine s_q hs (c_geqI (hs.ev rfl) (hs.ev rfl)) rfl fun ac hs => ?_
    refine s_end ?_
    refine then_n ?_
    refine s_cond hs rfl (fun hc => ?_) (fun hc => ?_)
    · skip
      refine wp_exit ?_
      refine then_e ?_
      refine blk_miss rfl ?_
      refine then_e ?_
      refine then_e ?_
      refine blk_hit ?_
      refine then_n ?_
      refine wp_seq ?_
      refine wp_reg ?_
      refine s_call hs fu13 .nil (tr_awake _) rfl fun ac ww v116 hf hp hs => ?_
      obtain rfl := hp
      replace hs := hs [] (.nil _ _)
      refine s_q hs (c_assign (hs.ev rfl)) rfl fun ac hs => ?_
      refine s_end ?_
      replace hs := hs.sub (F' := [(4, _)]) ⟨rfl, trivial⟩
      refine then_n ?_
      refine wp_ret ?_
      refine s_ret hs rfl (.tmp (hs.tmp rfl) .nil) rfl ⟨_, rfl, hs.fr, ?_⟩
      rfl
    · skip
      have hk39 : k < 40 := by
        simp at hc
        omega
      have hnl : l.length ≤ 40 := Nat.le_trans hok.h1 hk40
      have hnb : nb ≤ 40 := Nat.le_trans hok.h2 hk40
      refine wp_skip ?_
      refine then_n ?_
      refine wp_seq ?_
      refine wp_reg ?_
      refine s_q hs (c_fld fl35_1 (hs.ev rfl)) rfl fun ac hs => ?_
      refine s_q hs (c_fld fl27_0 (hs.ev rfl)) rfl fun ac hs => ?_
      refine s_q hs (c_loadS un3 rfl (hs.ev rfl) (hs.seg (i := 0) rfl) rfl) rfl fun ac hs => ?_
      refine s_q hs (c_geqI (hs.ev rfl) (hs.ev rfl)) rfl fun ac hs => ?_
      refine s_q hs (c_move (hs.ev rfl)) rfl fun ac hs => ?_
      refine s_g hs rfl rfl (fun hg => c_fld fl35_1 (hs.ev rfl)) rfl fun ac hs => ?_
      refine s_g hs rfl rfl (fun hg => c_fld fl27_0 (gev (hs.ev rfl) hg)) rfl fun ac hs => ?_
      refine s_g hs rfl rfl (fun hg => c_loadS un3 rfl (gev (hs.ev rfl) hg) (hs.seg (i := 0) rfl) rfl) rfl fun ac hs => ?_
      refine s_g hs rfl rfl (fun hg => c_lssI (gev (hs.ev rfl) hg) (hs.ev rfl)) rfl fun ac hs => ?_
      refine s_q hs (c_and (hs.ev rfl) (hs.ev rfl)) rfl fun ac hs => ?_
      refine s_q hs (c_assign (hs.ev rfl)) rfl fun ac hs => ?_
      refine s_end ?_
      refine then_n ?_
      refine wp_seq ?_
      refine wp_seq ?_
      refine wp_reg ?_
      refine s_q hs (c_fld fl35_0 (hs.ev rfl)) rfl fun ac hs => ?_
      refine s_q hs (c_loadS un3 rfl (hs.ev rfl) (hs.seg (i := 0) rfl) rfl) rfl fun ac hs => ?_
      refine s_q hs (c_eqlI (hs.ev rfl) (hs.ev rfl)) rfl fun ac hs => ?_
      refine s_end ?_
      refine then_n ?_
      refine s_cond hs rfl (fun hc => ?_) (fun hc => ?_)
      · try simp only [decide_eq_true_eq, decide_eq_false_iff_not, Bool.not_eq_true', Bool.not_eq_false', Bool.and_eq_true, Bool.or_eq_true, Bool.or_eq_false_iff] at hc
        refine wp_seq ?_
        refine wp_reg ?_
        refine s_q hs (c_move (hs.ev rfl)) rfl fun ac hs => ?_
        refine s_q hs (c_move (hs.ev rfl)) rfl fun ac hs => ?_
        refine s_g hs rfl rfl (fun hg => c_fld fl35_1 (hs.ev rfl)) rfl fun ac hs => ?_
        refine s_g hs rfl rfl (fun hg => c_fld fl27_1 (gev (hs.ev rfl) hg)) rfl fun ac hs => ?_
        refine s_g hs rfl rfl (fun hg => c_fld fl25_2 (gev (hs.ev rfl) hg)) rfl fun ac hs => ?_
        refine s_g hs rfl rfl (fun hg => c_loadS un3 rfl (gev (hs.ev rfl) hg) (hs.seg (i := 0) rfl) rfl) rfl fun ac hs => ?_
        refine s_g hs rfl rfl (fun hg => c_geqI (gev (hs.ev rfl) hg) (hs.ev rfl)) rfl fun ac hs => ?_
        refine s_q hs (c_and (hs.ev rfl) (hs.ev rfl)) rfl fun ac hs => ?_
        refine s_q hs (c_assign (hs.ev rfl)) rfl fun ac hs => ?_
        refine s_end ?_
        refine then_n ?_
        refine wp_seq ?_
        refine wp_seq ?_
        refine wp_reg ?_
        refine s_q hs (c_move (hs.ev rfl)) rfl fun ac hs => ?_
        refine s_q hs (c_fld fl35_1 (hs.ev rfl)) rfl fun ac hs => ?_
        refine s_q hs (c_loadA ty27 ag27 (hs.ev rfl) (hs.seg (i := 0) rfl) (show _ = Cl.c x from rfl) (by rfl)) rfl fun ac hs => ?_
        refine s_call hs fu7 (.cons (hs.ev rfl) .nil) (tr_To x _) rfl fun ac ww v47 hf hp hs => ?_
        obtain rfl := hp
        replace hs := hs [] (.nil _ _)
        refine s_callM (i := 3) hs fu6 (.cons (hs.ev rfl) (.cons (hs.ev rfl) .nil)) rfl (tr_Show gl mb nb gv l wh x (by omega) _ (hs.get (i := 3) rfl)) rfl fun ac ww v48 hf hp hs => ?_
        obtain ⟨rfl, gv', h1, h2⟩ := hp
        replace hs := hs (Ent.grp (led gl mb nb gv' (addC l x) wh)) h1 (fun k hk => ⟨h2 k hk, grp_lt h1 k hk⟩)
        refine s_q hs (c_eqlI (hs.ev rfl) (hs.ev rfl)) rfl fun ac hs => ?_
        refine s_q hs (c_move (hs.ev rfl)) rfl fun ac hs => ?_
        refine s_q hs (c_ff (c_neqbool un4 (hs.ev rfl) (hs.ev rfl)) ((ecOk (shOk x)))) rfl fun ac hs => ?_
        refine s_end ?_
        refine then_n ?_
        refine wp_cond_false (hs.ev rfl) ?_
        refine wp_skip ?_
        refine then_n ?_
        refine wp_seq ?_
        refine wp_reg ?_
        refine s_q hs (c_move (hs.ev rfl)) rfl fun ac hs => ?_
        refine s_end ?_
        refine then_n ?_
        refine s_cond hs rfl (fun hc => ?_) (fun hc => ?_)
        · skip
          have hyes : shOk x = true := hc
          refine wp_reg ?_
          refine s_q hs (c_fld fl33_0 (hs.ev rfl)) rfl fun ac hs => ?_
          refine s_q hs (c_loadS un30 rfl (hs.ev rfl) (hs.seg (i := 2) rfl) rfl) rfl fun ac hs => ?_
          refine s_q hs (c_fld fl35_1 (hs.ev rfl)) rfl fun ac hs => ?_
          refine s_q hs (c_loadA ty27 ag27 (hs.ev rfl) (hs.seg (i := 0) rfl) (show _ = Cl.c x from rfl) (by rfl)) rfl fun ac hs => ?_
          refine s_bslice hs un30 ty27 (.cons (hs.ev rfl) .nil) rfl (by simp [Value.cells, Cl.c]) (by decide) rfl rfl fun ac ww g57 hs => ?_
          refine s_append (i := 2) hs un30 ty27 (by decide) rfl rfl rfl (Rd.of_seg (n := 1) (hs.seg (i := 0) rfl) (Nat.le_refl _) (by decide) (List.take_of_length_le (by simp [flatCells, Value.cells, Cl.c]))) (by simp [flatCells, Value.cells, Cl.c]) (by simp [flatCells, Value.cells, Value.oneCell', U, Cl.c]) (by unfold maxLen; omega) (by omega) rfl fun ac ww v58 hf hnil hs => ?_
          obtain ⟨ad58, cap58, rfl, _, _⟩ := Rd.sl (Rd.of_row (hs.get (i := 2) rfl))
          refine s_q hs (c_fld fl33_0 (hs.ev rfl)) rfl fun ac hs => ?_
          refine s_store (i := 3) hs ty30 rfl rfl rfl rfl rfl rfl (by simp [ledC]) rfl fun ww hs => ?_
          refine s_end ?_
          obtain ⟨s1, hs1⟩ : ∃ s1 : LS, s1 = ⟨_, gv', addC l x, wh, nb⟩ := ⟨⟨.slice ad58 (l.length + 1) cap58, gv', addC l x, wh, nb⟩, rfl⟩
          have hI : s1.Ok (k + 1) := hs1 ▸ LS.okA x hok
          replace hs := (hs.pick (L' := [_, _, _, _, _]) (.cons _ (.refl _))).toL (L' := [.seg g8 (Opr.c ⟨kd, x⟩) 35, .row s1.rv s1.l.length (clsC s1.l) 27 5, .seg g6 (ledC s1.rv s1.wh) 33, Ent.grp (led gl mb s1.nb s1.gv s1.l s1.wh), .seg g3 c.c 27]) (by subst hs1; dsimp only; rw [show addC l x = l ++ [x] from if_pos hyes, clsC_append, clsC_one, List.length_append]; rfl)
          refine then_n ?_
          refine wp_seq ?_
          refine wp_reg ?_
          refine s_q hs (c_loadW ty27 ag27 (hs.ev rfl) (hs.seg (i := 4) rfl) (by rfl)) rfl fun ac hs => ?_
          refine s_q hs (c_fld fl35_1 (hs.ev rfl)) rfl fun ac hs => ?_
          refine s_q hs (c_loadA ty27 ag27 (hs.ev rfl) (hs.seg (i := 0) rfl) (show _ = Cl.c x from rfl) (by rfl)) rfl fun ac hs => ?_
          refine s_bslice hs un30 ty27 (.cons (hs.ev rfl) (.cons (hs.ev rfl) .nil)) rfl (by simp [Value.cells, Cl.c]) (by decide) rfl rfl fun ac ww g77 hs => ?_
          refine s_q hs (c_lenS un30 (hs.ev rfl)) rfl fun ac hs => ?_
          refine s_q hs (c_move (hs.ev rfl)) rfl fun ac hs => ?_
          refine s_end ?_
          refine then_n ?_
          refine wp_block ?_
          refine s_loop hs (X := Nat) (fun j => [(79, I j)]) [(3, _), (5, _), (6, _), (7, _), (8, _), (9, _), (14, _), (15, _), (16, _), (17, _), (18, _), (19, _), (20, _), (21, _), (22, _), (23, _), (24, _), (25, _), (26, _), (27, _), (28, _), (29, _), (30, _), (31, _), (32, _), (33, _), (34, _), (35, _), (36, _), (37, _), (38, _), (39, _), (40, _), (41, _), (42, _), (43, _), (44, _), (45, _), (46, _), (47, _), (48, _), (49, _), (50, _), (51, _), (52, _), (53, _), (54, _), (55, _), (56, _), (57, _), (58, _), (59, _), (74, _), (75, _), (76, _), (77, _), (78, _)] (fun _ => [.seg g77 ([c.v, x.v].flatMap fun z => z.cells.toList) 27, .seg g8 (Opr.c ⟨kd, x⟩) 35, .row s1.rv s1.l.length (clsC s1.l) 27 5, .seg g6 (ledC s1.rv s1.wh) 33, Ent.grp (led gl mb s1.nb s1.gv s1.l s1.wh), .seg g3 c.c 27]) (fun n j => j ≤ 2 ∧ n = 2 - j) (_) (0) (⟨Nat.zero_le _, rfl⟩) ⟨rfl, rfl, rfl, rfl, rfl, rfl, rfl, rfl, rfl, rfl, rfl, rfl, rfl, rfl, rfl, rfl, rfl, rfl, rfl, rfl, rfl, rfl, rfl, rfl, rfl, rfl, rfl, rfl, rfl, rfl, rfl, rfl, rfl, rfl, rfl, rfl, rfl, rfl, rfl, rfl, rfl, rfl, rfl, rfl, rfl, rfl, rfl, rfl, rfl, rfl, rfl, rfl, rfl, rfl, rfl, rfl, rfl, rfl, trivial⟩ rfl ?_
          rintro n j ac ww hok hs
          simp only [List.cons_append, List.nil_append] at hs
          obtain ⟨hj2, rfl⟩ := hok
          refine wp_seq ?_
          refine wp_reg ?_
          refine s_q hs (c_lssI (hs.ev rfl) (hs.ev rfl)) rfl fun ac hs => ?_
          refine s_end ?_
          refine then_n ?_
          refine wp_seq ?_
          refine s_cond hs rfl (fun hc => ?_) (fun hc => ?_)
          · try simp only [decide_eq_true_eq, decide_eq_false_iff_not, Bool.not_eq_true', Bool.not_eq_false', Bool.and_eq_true, Bool.or_eq_true, Bool.or_eq_false_iff] at hc
            have hjn : j < 2 := by omega
            obtain ⟨y, hyo, hyc⟩ := two_piece c x hjn hco hxo
            refine wp_skip ?_
            refine then_n ?_
            refine wp_seq ?_
            refine wp_block ?_
            refine wp_seq ?_
            refine wp_reg ?_
            refine s_q hs (c_idxS (j := j) un30 ty27 (hs.ev rfl) (hs.ev rfl) (by omega) (by omega)) rfl fun ac hs => ?_
            refine s_q hs (c_loadA ty27 ag27 (hs.ev rfl) (hs.seg (i := 0) rfl) hyc (by rfl)) rfl fun ac hs => ?_
            refine s_alloc hs ty27 rfl fun ac ww g11 hs => ?_
            refine s_storeW (i := 0) hs ty27 rfl rfl rfl (by rfl) (by rfl) rfl fun ww hs => ?_
            refine s_end ?_
            refine then_n ?_
            refine wp_seq ?_
            have hlr := led_get (hs.get (i := 5) rfl)
            have hrr := Rd.of_row (hs.get (i := 3) rfl)
            refine wp_region_rg pmix 28 (by kernel_rfl) rfl hs ?_
            simp only [List.take_succ_cons, List.take_zero]
            refine rg_q (fun ac ww h => c_move (h.ev rfl)) rfl ?_
            refine rg_q (fun ac ww h => c_loadW ty27 ag27 (h.ev rfl) (h.blk (hs.seg (i := 0) rfl)) (by rfl)) rfl ?_
            refine rg_call fu7 (fun ac ww h => (.cons (h.ev rfl) .nil)) (fun ww hf => tr_To y _) rfl ?_
            refine rg_call fu9 (fun ac ww h => (.cons (h.ev rfl) (.cons (h.ev rfl) .nil))) (fun ww hf => tr_May gl mb s1.nb s1.gv s1.l s1.wh y hyo.1 _ (hlr.fr0 hf)) rfl ?_
            refine rg_q (fun ac ww h => c_loadW ty33 ag33 (h.ev rfl) (h.blk (hs.seg (i := 4) rfl)) (by rfl)) rfl ?_
            refine rg_q (fun ac ww h => c_loadW ty27 ag27 (h.ev rfl) (h.blk (hs.seg (i := 0) rfl)) (by rfl)) rfl ?_
            refine rg_call fu10 (fun ac ww h => (.cons (h.ev rfl) (.cons (h.ev rfl) .nil))) (fun ww hf => ref28_May s1.rv s1.l s1.wh y _ (hrr.fr0 hf)) rfl ?_
            refine rg_q (fun ac ww h => c_ff (c_neqbool un4 (h.ev rfl) (h.ev rfl)) ((by rw [may_eq y hI.h3 hI.h4]; simp))) rfl ?_
            refine rg_q (fun ac ww h => c_move (h.ev rfl)) rfl ?_
            refine rg_yes rfl rfl (fun ac ww h => c_move (h.ev rfl)) rfl ?_
            refine rg_yes rfl rfl (fun ac ww h => c_fld fl27_0 (h.ev rfl)) rfl ?_
            refine rg_yes rfl rfl (fun ac ww h => c_loadS un3 rfl (h.ev rfl) (h.blk (hs.seg (i := 0) rfl)) rfl) rfl ?_
            refine rg_yes rfl rfl (fun ac ww h => c_fld fl27_1 (h.ev rfl)) rfl ?_
            refine rg_yes rfl rfl (fun ac ww h => c_fld fl25_0 (h.ev rfl)) rfl ?_
            refine rg_yes rfl rfl (fun ac ww h => c_loadS un23 rfl (h.ev rfl) (h.blk (hs.seg (i := 0) rfl)) rfl) rfl ?_
            refine rg_yes rfl rfl (fun ac ww h => c_fld fl27_1 (h.ev rfl)) rfl ?_
            refine rg_yes rfl rfl (fun ac ww h => c_fld fl25_1 (h.ev rfl)) rfl ?_
            refine rg_yes rfl rfl (fun ac ww h => c_loadS un23 rfl (h.ev rfl) (h.blk (hs.seg (i := 0) rfl)) rfl) rfl ?_
            refine rg_strip rfl rfl ?_
            refine rg_call fu11 (fun ac ww h => (.cons (h.ev rfl) (.cons (h.ev rfl) (.cons (h.ev rfl) (.cons (h.ev rfl) .nil))))) (fun ww hf => tr_Nearest gl mb s1.nb s1.gv s1.l s1.wh y.d y.ep y.sq _ (hlr.fr0 hf)) rfl ?_
            refine rg_yes rfl rfl (fun ac ww h => c_loadW ty33 ag33 (h.ev rfl) (h.blk (hs.seg (i := 4) rfl)) (by rfl)) rfl ?_
            refine rg_yes rfl rfl (fun ac ww h => c_fld fl27_0 (h.ev rfl)) rfl ?_
            refine rg_yes rfl rfl (fun ac ww h => c_loadS un3 rfl (h.ev rfl) (h.blk (hs.seg (i := 0) rfl)) rfl) rfl ?_
            refine rg_yes rfl rfl (fun ac ww h => c_fld fl27_1 (h.ev rfl)) rfl ?_
            refine rg_yes rfl rfl (fun ac ww h => c_fld fl25_0 (h.ev rfl)) rfl ?_
            refine rg_yes rfl rfl (fun ac ww h => c_loadS un23 rfl (h.ev rfl) (h.blk (hs.seg (i := 0) rfl)) rfl) rfl ?_
            refine rg_yes rfl rfl (fun ac ww h => c_fld fl27_1 (h.ev rfl)) rfl ?_
            refine rg_yes rfl rfl (fun ac ww h => c_fld fl25_1 (h.ev rfl)) rfl ?_
            refine rg_yes rfl rfl (fun ac ww h => c_loadS un23 rfl (h.ev rfl) (h.blk (hs.seg (i := 0) rfl)) rfl) rfl ?_
            refine rg_nil fun ac ww L' hf hfe hs => ?_
            simp only [List.drop_succ_cons, List.drop_zero]
            obtain rfl : L' = [] := hfe
            replace hs := hs.toL (List.nil_append _)
            refine s_yes hs rfl rfl ?_
            refine s_call hs fu12 (.cons (hs.ev rfl) (.cons (hs.ev rfl) (.cons (hs.ev rfl) (.cons (hs.ev rfl) .nil)))) (ref28_Nearest s1.rv s1.l s1.wh y.d y.ep y.sq _ (Rd.of_row (hs.get (i := 3) rfl))) rfl fun ac ww v111 hf hp hs => ?_
            obtain rfl := hp
            replace hs := hs [] (.nil _ _)
            refine s_yes hs rfl rfl ?_
            refine s_q hs (c_ff (c_neqI (hs.ev rfl) (hs.ev rfl)) ((by simp))) rfl fun ac hs => ?_
            refine s_q hs (c_pick (hs.ev rfl) (hs.ev rfl) (hs.ev rfl)) rfl fun ac hs => ?_
            refine s_end ?_
            refine then_n ?_
            refine wp_cond_false (hs.ev rfl) ?_
            refine wp_skip ?_
            refine blk_n ?_
            refine then_n ?_
            refine wp_reg ?_
            refine s_q hs (c_addI (hs.ev rfl) (hs.ev rfl) (by omega) (by omega)) rfl fun ac hs => ?_
            refine s_q hs (c_move (hs.ev rfl)) rfl fun ac hs => ?_
            refine s_end ?_
            refine then_n ?_
            replace hs := hs.pick (L' := [_, _, _, _, _, _]) (.cons _ (.refl _))
            exact ⟨2 - (j + 1), by omega, j + 1, ⟨by omega, rfl⟩, St.next hs ⟨rfl, rfl, rfl, rfl, rfl, rfl, rfl, rfl, rfl, rfl, rfl, rfl, rfl, rfl, rfl, rfl, rfl, rfl, rfl, rfl, rfl, rfl, rfl, rfl, rfl, rfl, rfl, rfl, rfl, rfl, rfl, rfl, rfl, rfl, rfl, rfl, rfl, rfl, rfl, rfl, rfl, rfl, rfl, rfl, rfl, rfl, rfl, rfl, rfl, rfl, rfl, rfl, rfl, rfl, rfl, rfl, rfl, rfl, trivial⟩ rfl⟩
          · try simp only [decide_eq_true_eq, decide_eq_false_iff_not, Bool.not_eq_true', Bool.not_eq_false', Bool.and_eq_true, Bool.or_eq_true, Bool.or_eq_false_iff] at hc
            skip
            refine wp_exit ?_
            refine then_e ?_
            refine then_e ?_
            refine blk_hit ?_
            refine blk_n ?_
            refine then_n ?_
            refine wp_reg ?_
            refine s_q hs (c_addI (hs.ev rfl) (hs.ev rfl) (by omega) (by omega)) rfl fun ac hs => ?_
            refine s_q hs (c_move (hs.ev rfl)) rfl fun ac hs => ?_
            refine s_end ?_
            refine then_n ?_
            replace hs := hs.pick (L' := [_, _, _, _]) (.cons _ (.cons _ (.refl _)))
            exact ⟨ops.length - (k + 1), by omega, (k + 1, s1), ⟨by omega, by omega, hI, rfl⟩, St.next hs ⟨rfl, rfl, rfl, rfl, rfl, rfl, trivial⟩ rfl⟩
        · skip
          have hno : shOk x = false := hc
          obtain ⟨s1, hs1⟩ : ∃ s1 : LS, s1 = ⟨rv, gv', addC l x, wh, nb⟩ := ⟨_, rfl⟩
          have hI : s1.Ok (k + 1) := hs1 ▸ LS.okA x hok
          replace hs := hs.toL (L' := [.seg g8 (Opr.c ⟨kd, x⟩) 35, .row s1.rv s1.l.length (clsC s1.l) 27 5, .seg g6 (ledC s1.rv s1.wh) 33, Ent.grp (led gl mb s1.nb s1.gv s1.l s1.wh), .seg g3 c.c 27]) (by subst hs1; dsimp only; rw [show addC l x = l from if_neg (by rw [hno]; simp)]; rfl)
          refine wp_skip ?_
          refine then_n ?_
          refine wp_seq ?_
          refine wp_reg ?_
          refine s_q hs (c_loadW ty27 ag27 (hs.ev rfl) (hs.seg (i := 4) rfl) (by rfl)) rfl fun ac hs => ?_
          refine s_q hs (c_fld fl35_1 (hs.ev rfl)) rfl fun ac hs => ?_
          refine s_q hs (c_loadA ty27 ag27 (hs.ev rfl) (hs.seg (i := 0) rfl) (show _ = Cl.c x from rfl) (by rfl)) rfl fun ac hs => ?_
          refine s_bslice hs un30 ty27 (.cons (hs.ev rfl) (.cons (hs.ev rfl) .nil)) rfl (by simp [Value.cells, Cl.c]) (by decide) rfl rfl fun ac ww g77 hs => ?_
          refine s_q hs (c_lenS un30 (hs.ev rfl)) rfl fun ac hs => ?_
          refine s_q hs (c_move (hs.ev rfl)) rfl fun ac hs => ?_
          refine s_end ?_
          refine then_n ?_
          refine wp_block ?_
          refine s_loop hs (X := Nat) (fun j => [(79, I j)]) [(3, _), (5, _), (6, _), (7, _), (8, _), (9, _), (14, _), (15, _), (16, _), (17, _), (18, _), (19, _), (20, _), (21, _), (22, _), (23, _), (24, _), (25, _), (26, _), (27, _), (28, _), (29, _), (30, _), (31, _), (32, _), (33, _), (34, _), (35, _), (36, _), (37, _), (38, _), (39, _), (40, _), (41, _), (42, _), (43, _), (44, _), (45, _), (46, _), (47, _), (48, _), (49, _), (50, _), (51, _), (52, _), (74, _), (75, _), (76, _), (77, _), (78, _)] (fun _ => [.seg g77 ([c.v, x.v].flatMap fun z => z.cells.toList) 27, .seg g8 (Opr.c ⟨kd, x⟩) 35, .row s1.rv s1.l.length (clsC s1.l) 27 5, .seg g6 (ledC s1.rv s1.wh) 33, Ent.grp (led gl mb s1.nb s1.gv s1.l s1.wh), .seg g3 c.c 27]) (fun n j => j ≤ 2 ∧ n = 2 - j) (_) (0) (⟨Nat.zero_le _, rfl⟩) ⟨rfl, rfl, rfl, rfl, rfl, rfl, rfl, rfl, rfl, rfl, rfl, rfl, rfl, rfl, rfl, rfl, rfl, rfl, rfl, rfl, rfl, rfl, rfl, rfl, rfl, rfl, rfl, rfl, rfl, rfl, rfl, rfl, rfl, rfl, rfl, rfl, rfl, rfl, rfl, rfl, rfl, rfl, rfl, rfl, rfl, rfl, rfl, rfl, rfl, rfl, rfl, trivial⟩ rfl ?_
          rintro n j ac ww hok hs
          simp only [List.cons_append, List.nil_append] at hs
          obtain ⟨hj2, rfl⟩ := hok
          refine wp_seq ?_
          refine wp_reg ?_
          refine s_q hs (c_lssI (hs.ev rfl) (hs.ev rfl)) rfl fun ac hs => ?_
          refine s_end ?_
          refine then_n ?_
          refine wp_seq ?_
          refine s_cond hs rfl (fun hc => ?_) (fun hc => ?_)
          · try simp only [decide_eq_true_eq, decide_eq_false_iff_not, Bool.not_eq_true', Bool.not_eq_false', Bool.and_eq_true, Bool.or_eq_true, Bool.or_eq_false_iff] at hc
            have hjn : j < 2 := by omega
            obtain ⟨y, hyo, hyc⟩ := two_piece c x hjn hco hxo
            refine wp_skip ?_
            refine then_n ?_
            refine wp_seq ?_
            refine wp_block ?_
            refine wp_seq ?_
            refine wp_reg ?_
            refine s_q hs (c_idxS (j := j) un30 ty27 (hs.ev rfl) (hs.ev rfl) (by omega) (by omega)) rfl fun ac hs => ?_
            refine s_q hs (c_loadA ty27 ag27 (hs.ev rfl) (hs.seg (i := 0) rfl) hyc (by rfl)) rfl fun ac hs => ?_
            refine s_alloc hs ty27 rfl fun ac ww g11 hs => ?_
            refine s_storeW (i := 0) hs ty27 rfl rfl rfl (by rfl) (by rfl) rfl fun ww hs => ?_
            refine s_end ?_
            refine then_n ?_
            refine wp_seq ?_
            have hlr := led_get (hs.get (i := 5) rfl)
            have hrr := Rd.of_row (hs.get (i := 3) rfl)
            refine wp_region_rg pmix 28 (by kernel_rfl) rfl hs ?_
            simp only [List.take_succ_cons, List.take_zero]
            refine rg_q (fun ac ww h => c_move (h.ev rfl)) rfl ?_
            refine rg_q (fun ac ww h => c_loadW ty27 ag27 (h.ev rfl) (h.blk (hs.seg (i := 0) rfl)) (by rfl)) rfl ?_
            refine rg_call fu7 (fun ac ww h => (.cons (h.ev rfl) .nil)) (fun ww hf => tr_To y _) rfl ?_
            refine rg_call fu9 (fun ac ww h => (.cons (h.ev rfl) (.cons (h.ev rfl) .nil))) (fun ww hf => tr_May gl mb s1.nb s1.gv s1.l s1.wh y hyo.1 _ (hlr.fr0 hf)) rfl ?_
            refine rg_q (fun ac ww h => c_loadW ty33 ag33 (h.ev rfl) (h.blk (hs.seg (i := 4) rfl)) (by rfl)) rfl ?_
            refine rg_q (fun ac ww h => c_loadW ty27 ag27 (h.ev rfl) (h.blk (hs.seg (i := 0) rfl)) (by rfl)) rfl ?_
            refine rg_call fu10 (fun ac ww h => (.cons (h.ev rfl) (.cons (h.ev rfl) .nil))) (fun ww hf => ref28_May s1.rv s1.l s1.wh y _ (hrr.fr0 hf)) rfl ?_
            refine rg_q (fun ac ww h => c_ff (c_neqbool un4 (h.ev rfl) (h.ev rfl)) ((by rw [may_eq y hI.h3 hI.h4]; simp))) rfl ?_
            refine rg_q (fun ac ww h => c_move (h.ev rfl)) rfl ?_
            refine rg_yes rfl rfl (fun ac ww h => c_move (h.ev rfl)) rfl ?_
            refine rg_yes rfl rfl (fun ac ww h => c_fld fl27_0 (h.ev rfl)) rfl ?_
            refine rg_yes rfl rfl (fun ac ww h => c_loadS un3 rfl (h.ev rfl) (h.blk (hs.seg (i := 0) rfl)) rfl) rfl ?_
            refine rg_yes rfl rfl (fun ac ww h => c_fld fl27_1 (h.ev rfl)) rfl ?_
            refine rg_yes rfl rfl (fun ac ww h => c_fld fl25_0 (h.ev rfl)) rfl ?_
            refine rg_yes rfl rfl (fun ac ww h => c_loadS un23 rfl (h.ev rfl) (h.blk (hs.seg (i := 0) rfl)) rfl) rfl ?_
            refine rg_yes rfl rfl (fun ac ww h => c_fld fl27_1 (h.ev rfl)) rfl ?_
            refine rg_yes rfl rfl (fun ac ww h => c_fld fl25_1 (h.ev rfl)) rfl ?_
            refine rg_yes rfl rfl (fun ac ww h => c_loadS un23 rfl (h.ev rfl) (h.blk (hs.seg (i := 0) rfl)) rfl) rfl ?_
            refine rg_strip rfl rfl ?_
            refine rg_call fu11 (fun ac ww h => (.cons (h.ev rfl) (.cons (h.ev rfl) (.cons (h.ev rfl) (.cons (h.ev rfl) .nil))))) (fun ww hf => tr_Nearest gl mb s1.nb s1.gv s1.l s1.wh y.d y.ep y.sq _ (hlr.fr0 hf)) rfl ?_
            refine rg_yes rfl rfl (fun ac ww h => c_loadW ty33 ag33 (h.ev rfl) (h.blk (hs.seg (i := 4) rfl)) (by rfl)) rfl ?_
            refine rg_yes rfl rfl (fun ac ww h => c_fld fl27_0 (h.ev rfl)) rfl ?_
            refine rg_yes rfl rfl (fun ac ww h => c_loadS un3 rfl (h.ev rfl) (h.blk (hs.seg (i := 0) rfl)) rfl) rfl ?_
            refine rg_yes rfl rfl (fun ac ww h => c_fld fl27_1 (h.ev rfl)) rfl ?_
            refine rg_yes rfl rfl (fun ac ww h => c_fld fl25_0 (h.ev rfl)) rfl ?_
            refine rg_yes rfl rfl (fun ac ww h => c_loadS un23 rfl (h.ev rfl) (h.blk (hs.seg (i := 0) rfl)) rfl) rfl ?_
            refine rg_yes rfl rfl (fun ac ww h => c_fld fl27_1 (h.ev rfl)) rfl ?_
            refine rg_yes rfl rfl (fun ac ww h => c_fld fl25_1 (h.ev rfl)) rfl ?_
            refine rg_yes rfl rfl (fun ac ww h => c_loadS un23 rfl (h.ev rfl) (h.blk (hs.seg (i := 0) rfl)) rfl) rfl ?_
            refine rg_nil fun ac ww L' hf hfe hs => ?_
            simp only [List.drop_succ_cons, List.drop_zero]
            obtain rfl : L' = [] := hfe
            replace hs := hs.toL (List.nil_append _)
            refine s_yes hs rfl rfl ?_
            refine s_call hs fu12 (.cons (hs.ev rfl) (.cons (hs.ev rfl) (.cons (hs.ev rfl) (.cons (hs.ev rfl) .nil)))) (ref28_Nearest s1.rv s1.l s1.wh y.d y.ep y.sq _ (Rd.of_row (hs.get (i := 3) rfl))) rfl fun ac ww v111 hf hp hs => ?_
            obtain rfl := hp
            replace hs := hs [] (.nil _ _)
            refine s_yes hs rfl rfl ?_
            refine s_q hs (c_ff (c_neqI (hs.ev rfl) (hs.ev rfl)) ((by simp))) rfl fun ac hs => ?_
            refine s_q hs (c_pick (hs.ev rfl) (hs.ev rfl) (hs.ev rfl)) rfl fun ac hs => ?_
            refine s_end ?_
            refine then_n ?_
            refine wp_cond_false (hs.ev rfl) ?_
            refine wp_skip ?_
            refine blk_n ?_
            refine then_n ?_
            refine wp_reg ?_
            refine s_q hs (c_addI (hs.ev rfl) (hs.ev rfl) (by omega) (by omega)) rfl fun ac hs => ?_
            refine s_q hs (c_move (hs.ev rfl)) rfl fun ac hs => ?_
            refine s_end ?_
            refine then_n ?_
            replace hs := hs.pick (L' := [_, _, _, _, _, _]) (.cons _ (.refl _))
            exact ⟨2 - (j + 1), by omega, j + 1, ⟨by omega, rfl⟩, St.next hs ⟨rfl, rfl, rfl, rfl, rfl, rfl, rfl, rfl, rfl, rfl, rfl, rfl, rfl, rfl, rfl, rfl, rfl, rfl, rfl, rfl, rfl, rfl, rfl, rfl, rfl, rfl, rfl, rfl, rfl, rfl, rfl, rfl, rfl, rfl, rfl, rfl, rfl, rfl, rfl, rfl, rfl, rfl, rfl, rfl, rfl, rfl, rfl, rfl, rfl, rfl, rfl, trivial⟩ rfl⟩
          · try simp only [decide_eq_true_eq, decide_eq_false_iff_not, Bool.not_eq_true', Bool.not_eq_false', Bool.and_eq_true, Bool.or_eq_true, Bool.or_eq_false_iff] at hc
            skip
            refine wp_exit ?_
            refine then_e ?_
            refine then_e ?_
            refine blk_hit ?_
            refine blk_n ?_
            refine then_n ?_
            refine wp_reg ?_
            refine s_q hs (c_addI (hs.ev rfl) (hs.ev rfl) (by omega) (by omega)) rfl fun ac hs => ?_
            refine s_q hs (c_move (hs.ev rfl)) rfl fun ac hs => ?_
            refine s_end ?_
            refine then_n ?_
            replace hs := hs.pick (L' := [_, _, _, _]) (.cons _ (.cons _ (.refl _)))
            exact ⟨ops.length - (k + 1), by omega, (k + 1, s1), ⟨by omega, by omega, hI, rfl⟩, St.next hs ⟨rfl, rfl, rfl, rfl, rfl, rfl, trivial⟩ rfl⟩
      · try simp only [decide_eq_true_eq, decide_eq_false_iff_not, Bool.not_eq_true', Bool.not_eq_false', Bool.and_eq_true, Bool.or_eq_true, Bool.or_eq_false_iff] at hc
        refine wp_seq ?_
        refine wp_seq ?_
        refine wp_reg ?_
        refine s_q hs (c_move (hs.ev rfl)) rfl fun ac hs => ?_
        refine s_q hs (c_fld fl35_1 (hs.ev rfl)) rfl fun ac hs => ?_
        refine s_q hs (c_fld fl27_0 (hs.ev rfl)) rfl fun ac hs => ?_
        refine s_q hs (c_loadS un3 rfl (hs.ev rfl) (hs.seg (i := 0) rfl) rfl) rfl fun ac hs => ?_
        refine s_callM (i := 3) hs fu8 (.cons (hs.ev rfl) (.cons (hs.ev rfl) .nil)) rfl (tr_Whole gl mb nb gv l wh x.d (by omega) _ (hs.get (i := 3) rfl)) rfl fun ac ww v64 hf hp hs => ?_
        obtain ⟨rfl, nb', hnb', h1, h2⟩ := hp
        replace hs := hs (Ent.grp (led gl mb nb' gv l (addW wh x.d))) h1 (fun k hk => ⟨h2 k hk, grp_lt h1 k hk⟩)
        refine s_q hs (c_eqlI (hs.ev rfl) (hs.ev rfl)) rfl fun ac hs => ?_
        refine s_q hs (c_move (hs.ev rfl)) rfl fun ac hs => ?_
        refine s_q hs (c_ff (c_neqbool un4 (hs.ev rfl) (hs.ev rfl)) ((ecOk (wOk x.d)))) rfl fun ac hs => ?_
        refine s_end ?_
        refine then_n ?_
        refine wp_cond_false (hs.ev rfl) ?_
        refine wp_skip ?_
        refine then_n ?_
        refine wp_seq ?_
        refine wp_reg ?_
        refine s_q hs (c_move (hs.ev rfl)) rfl fun ac hs => ?_
        refine s_end ?_
        refine then_n ?_
        refine s_cond hs rfl (fun hc => ?_) (fun hc => ?_)
        · skip
          have hyes : wOk x.d = true := hc
          refine wp_reg ?_
          refine s_q hs (c_fld fl35_1 (hs.ev rfl)) rfl fun ac hs => ?_
          refine s_q hs (c_fld fl27_0 (hs.ev rfl)) rfl fun ac hs => ?_
          refine s_q hs (c_loadS un3 rfl (hs.ev rfl) (hs.seg (i := 0) rfl) rfl) rfl fun ac hs => ?_
          refine s_q hs (c_fld fl33_1 (hs.ev rfl)) rfl fun ac hs => ?_
          refine s_q hs (c_idxA (j := x.d.toNat) un31 ty4 (hs.ev rfl) (hs.ev rfl) (dlt hc).1 (dlt hc).2) rfl fun ac hs => ?_
          refine s_store (i := 2) hs ty4 rfl rfl rfl rfl rfl rfl (by have := (dlt (d := x.d) hc).2; show 0 + 1 + x.d.toNat * 1 + 1 ≤ 9; omega) (ledC_set _ _ hc) fun ww hs => ?_
          refine s_end ?_
          obtain ⟨s1, hs1⟩ : ∃ s1 : LS, s1 = ⟨rv, gv, l, addW wh x.d, nb'⟩ := ⟨_, rfl⟩
          have hI : s1.Ok (k + 1) := hs1 ▸ LS.okB x.d hok hnb'
          replace hs := hs.toL (L' := [.seg g8 (Opr.c ⟨kd, x⟩) 35, .row s1.rv s1.l.length (clsC s1.l) 27 5, .seg g6 (ledC s1.rv s1.wh) 33, Ent.grp (led gl mb s1.nb s1.gv s1.l s1.wh), .seg g3 c.c 27]) (by subst hs1; dsimp only; rw [show addW wh x.d = fun y => decide (y = x.d) || wh y from if_pos hyes]; rfl)
          refine then_n ?_
          refine wp_seq ?_
          refine wp_reg ?_
          refine s_q hs (c_loadW ty27 ag27 (hs.ev rfl) (hs.seg (i := 4) rfl) (by rfl)) rfl fun ac hs => ?_
          refine s_q hs (c_fld fl35_1 (hs.ev rfl)) rfl fun ac hs => ?_
          refine s_q hs (c_loadA ty27 ag27 (hs.ev rfl) (hs.seg (i := 0) rfl) (show _ = Cl.c x from rfl) (by rfl)) rfl fun ac hs => ?_
          refine s_bslice hs un30 ty27 (.cons (hs.ev rfl) (.cons (hs.ev rfl) .nil)) rfl (by simp [Value.cells, Cl.c]) (by decide) rfl rfl fun ac ww g77 hs => ?_
          refine s_q hs (c_lenS un30 (hs.ev rfl)) rfl fun ac hs => ?_
          refine s_q hs (c_move (hs.ev rfl)) rfl fun ac hs => ?_
          refine s_end ?_
          refine then_n ?_
          refine wp_block ?_
          refine s_loop hs (X := Nat) (fun j => [(79, I j)]) [(3, _), (5, _), (6, _), (7, _), (8, _), (9, _), (14, _), (15, _), (16, _), (17, _), (18, _), (19, _), (20, _), (21, _), (22, _), (23, _), (24, _), (25, _), (26, _), (27, _), (28, _), (29, _), (30, _), (31, _), (32, _), (33, _), (34, _), (35, _), (60, _), (61, _), (62, _), (63, _), (64, _), (65, _), (66, _), (67, _), (68, _), (69, _), (70, _), (71, _), (72, _), (73, _), (74, _), (75, _), (76, _), (77, _), (78, _)] (fun _ => [.seg g77 ([c.v, x.v].flatMap fun z => z.cells.toList) 27, .seg g8 (Opr.c ⟨kd, x⟩) 35, .row s1.rv s1.l.length (clsC s1.l) 27 5, .seg g6 (ledC s1.rv s1.wh) 33, Ent.grp (led gl mb s1.nb s1.gv s1.l s1.wh), .seg g3 c.c 27]) (fun n j => j ≤ 2 ∧ n = 2 - j) (_) (0) (⟨Nat.zero_le _, rfl⟩) ⟨rfl, rfl, rfl, rfl, rfl, rfl, rfl, rfl, rfl, rfl, rfl, rfl, rfl, rfl, rfl, rfl, rfl, rfl, rfl, rfl, rfl, rfl, rfl, rfl, rfl, rfl, rfl, rfl, rfl, rfl, rfl, rfl, rfl, rfl, rfl, rfl, rfl, rfl, rfl, rfl, rfl, rfl, rfl, rfl, rfl, rfl, rfl, rfl, trivial⟩ rfl ?_
          rintro n j ac ww hok hs
          simp only [List.cons_append, List.nil_append] at hs
          obtain ⟨hj2, rfl⟩ := hok
          refine wp_seq ?_
          refine wp_reg ?_
          refine s_q hs (c_lssI (hs.ev rfl) (hs.ev rfl)) rfl fun ac hs => ?_
          refine s_end ?_
          refine then_n ?_
          refine wp_seq ?_
          refine s_cond hs rfl (fun hc => ?_) (fun hc => ?_)
          · try simp only [decide_eq_true_eq, decide_eq_false_iff_not, Bool.not_eq_true', Bool.not_eq_false', Bool.and_eq_true, Bool.or_eq_true, Bool.or_eq_false_iff] at hc
            have hjn : j < 2 := by omega
            obtain ⟨y, hyo, hyc⟩ := two_piece c x hjn hco hxo
            refine wp_skip ?_
            refine then_n ?_
            refine wp_seq ?_
            refine wp_block ?_
            refine wp_seq ?_
            refine wp_reg ?_
            refine s_q hs (c_idxS (j := j) un30 ty27 (hs.ev rfl) (hs.ev rfl) (by omega) (by omega)) rfl fun ac hs => ?_
            refine s_q hs (c_loadA ty27 ag27 (hs.ev rfl) (hs.seg (i := 0) rfl) hyc (by rfl)) rfl fun ac hs => ?_
            refine s_alloc hs ty27 rfl fun ac ww g11 hs => ?_
            refine s_storeW (i := 0) hs ty27 rfl rfl rfl (by rfl) (by rfl) rfl fun ww hs => ?_
            refine s_end ?_
            refine then_n ?_
            refine wp_seq ?_
            have hlr := led_get (hs.get (i := 5) rfl)
            have hrr := Rd.of_row (hs.get (i := 3) rfl)
            refine wp_region_rg pmix 28 (by kernel_rfl) rfl hs ?_
            simp only [List.take_succ_cons, List.take_zero]
            refine rg_q (fun ac ww h => c_move (h.ev rfl)) rfl ?_
            refine rg_q (fun ac ww h => c_loadW ty27 ag27 (h.ev rfl) (h.blk (hs.seg (i := 0) rfl)) (by rfl)) rfl ?_
            refine rg_call fu7 (fun ac ww h => (.cons (h.ev rfl) .nil)) (fun ww hf => tr_To y _) rfl ?_
            refine rg_call fu9 (fun ac ww h => (.cons (h.ev rfl) (.cons (h.ev rfl) .nil))) (fun ww hf => tr_May gl mb s1.nb s1.gv s1.l s1.wh y hyo.1 _ (hlr.fr0 hf)) rfl ?_
            refine rg_q (fun ac ww h => c_loadW ty33 ag33 (h.ev rfl) (h.blk (hs.seg (i := 4) rfl)) (by rfl)) rfl ?_
            refine rg_q (fun ac ww h => c_loadW ty27 ag27 (h.ev rfl) (h.blk (hs.seg (i := 0) rfl)) (by rfl)) rfl ?_
            refine rg_call fu10 (fun ac ww h => (.cons (h.ev rfl) (.cons (h.ev rfl) .nil))) (fun ww hf => ref28_May s1.rv s1.l s1.wh y _ (hrr.fr0 hf)) rfl ?_
            refine rg_q (fun ac ww h => c_ff (c_neqbool un4 (h.ev rfl) (h.ev rfl)) ((by rw [may_eq y hI.h3 hI.h4]; simp))) rfl ?_
            refine rg_q (fun ac ww h => c_move (h.ev rfl)) rfl ?_
            refine rg_yes rfl rfl (fun ac ww h => c_move (h.ev rfl)) rfl ?_
            refine rg_yes rfl rfl (fun ac ww h => c_fld fl27_0 (h.ev rfl)) rfl ?_
            refine rg_yes rfl rfl (fun ac ww h => c_loadS un3 rfl (h.ev rfl) (h.blk (hs.seg (i := 0) rfl)) rfl) rfl ?_
            refine rg_yes rfl rfl (fun ac ww h => c_fld fl27_1 (h.ev rfl)) rfl ?_
            refine rg_yes rfl rfl (fun ac ww h => c_fld fl25_0 (h.ev rfl)) rfl ?_
            refine rg_yes rfl rfl (fun ac ww h => c_loadS un23 rfl (h.ev rfl) (h.blk (hs.seg (i := 0) rfl)) rfl) rfl ?_
            refine rg_yes rfl rfl (fun ac ww h => c_fld fl27_1 (h.ev rfl)) rfl ?_
            refine rg_yes rfl rfl (fun ac ww h => c_fld fl25_1 (h.ev rfl)) rfl ?_
            refine rg_yes rfl rfl (fun ac ww h => c_loadS un23 rfl (h.ev rfl) (h.blk (hs.seg (i := 0) rfl)) rfl) rfl ?_
            refine rg_strip rfl rfl ?_
            refine rg_call fu11 (fun ac ww h => (.cons (h.ev rfl) (.cons (h.ev rfl) (.cons (h.ev rfl) (.cons (h.ev rfl) .nil))))) (fun ww hf => tr_Nearest gl mb s1.nb s1.gv s1.l s1.wh y.d y.ep y.sq _ (hlr.fr0 hf)) rfl ?_
            refine rg_yes rfl rfl (fun ac ww h => c_loadW ty33 ag33 (h.ev rfl) (h.blk (hs.seg (i := 4) rfl)) (by rfl)) rfl ?_
            refine rg_yes rfl rfl (fun ac ww h => c_fld fl27_0 (h.ev rfl)) rfl ?_
            refine rg_yes rfl rfl (fun ac ww h => c_loadS un3 rfl (h.ev rfl) (h.blk (hs.seg (i := 0) rfl)) rfl) rfl ?_
            refine rg_yes rfl rfl (fun ac ww h => c_fld fl27_1 (h.ev rfl)) rfl ?_
            refine rg_yes rfl rfl (fun ac ww h => c_fld fl25_0 (h.ev rfl)) rfl ?_
            refine rg_yes rfl rfl (fun ac ww h => c_loadS un23 rfl (h.ev rfl) (h.blk (hs.seg (i := 0) rfl)) rfl) rfl ?_
            refine rg_yes rfl rfl (fun ac ww h => c_fld fl27_1 (h.ev rfl)) rfl ?_
            refine rg_yes rfl rfl (fun ac ww h => c_fld fl25_1 (h.ev rfl)) rfl ?_
            refine rg_yes rfl rfl (fun ac ww h => c_loadS un23 rfl (h.ev rfl) (h.blk (hs.seg (i := 0) rfl)) rfl) rfl ?_
            refine rg_nil fun ac ww L' hf hfe hs => ?_
            simp only [List.drop_succ_cons, List.drop_zero]
            obtain rfl : L' = [] := hfe
            replace hs := hs.toL (List.nil_append _)
            refine s_yes hs rfl rfl ?_
            refine s_call hs fu12 (.cons (hs.ev rfl) (.cons (hs.ev rfl) (.cons (hs.ev rfl) (.cons (hs.ev rfl) .nil)))) (ref28_Nearest s1.rv s1.l s1.wh y.d y.ep y.sq _ (Rd.of_row (hs.get (i := 3) rfl))) rfl fun ac ww v111 hf hp hs => ?_
            obtain rfl := hp
            replace hs := hs [] (.nil _ _)
            refine s_yes hs rfl rfl ?_
            refine s_q hs (c_ff (c_neqI (hs.ev rfl) (hs.ev rfl)) ((by simp))) rfl fun ac hs => ?_
            refine s_q hs (c_pick (hs.ev rfl) (hs.ev rfl) (hs.ev rfl)) rfl fun ac hs => ?_
            refine s_end ?_
            refine then_n ?_
            refine wp_cond_false (hs.ev rfl) ?_
            refine wp_skip ?_
            refine blk_n ?_
            refine then_n ?_
            refine wp_reg ?_
            refine s_q hs (c_addI (hs.ev rfl) (hs.ev rfl) (by omega) (by omega)) rfl fun ac hs => ?_
            refine s_q hs (c_move (hs.ev rfl)) rfl fun ac hs => ?_
            refine s_end ?_
            refine then_n ?_
            replace hs := hs.pick (L' := [_, _, _, _, _, _]) (.cons _ (.refl _))
            exact ⟨2 - (j + 1), by omega, j + 1, ⟨by omega, rfl⟩, St.next hs ⟨rfl, rfl, rfl, rfl, rfl, rfl, rfl, rfl, rfl, rfl, rfl, rfl, rfl, rfl, rfl, rfl, rfl, rfl, rfl, rfl, rfl, rfl, rfl, rfl, rfl, rfl, rfl, rfl, rfl, rfl, rfl, rfl, rfl, rfl, rfl, rfl, rfl, rfl, rfl, rfl, rfl, rfl, rfl, rfl, rfl, rfl, rfl, rfl, trivial⟩ rfl⟩
          · try simp only [decide_eq_true_eq, decide_eq_false_iff_not, Bool.not_eq_true', Bool.not_eq_false', Bool.and_eq_true, Bool.or_eq_true, Bool.or_eq_false_iff] at hc
            skip
            refine wp_exit ?_
            refine then_e ?_
            refine then_e ?_
            refine blk_hit ?_
            refine blk_n ?_
            refine then_n ?_
            refine wp_reg ?_
            refine s_q hs (c_addI (hs.ev rfl) (hs.ev rfl) (by omega) (by omega)) rfl fun ac hs => ?_
            refine s_q hs (c_move (hs.ev rfl)) rfl fun ac hs => ?_
            refine s_end ?_
            refine then_n ?_
            replace hs := hs.pick (L' := [_, _, _, _]) (.cons _ (.cons _ (.refl _)))
            exact ⟨ops.length - (k + 1), by omega, (k + 1, s1), ⟨by omega, by omega, hI, rfl⟩, St.next hs ⟨rfl, rfl, rfl, rfl, rfl, rfl, trivial⟩ rfl⟩
        · skip
          have hno : wOk x.d = false := hc
          obtain ⟨s1, hs1⟩ : ∃ s1 : LS, s1 = ⟨rv, gv, l, addW wh x.d, nb'⟩ := ⟨_, rfl⟩
          have hI : s1.Ok (k + 1) := hs1 ▸ LS.okB x.d hok hnb'
          replace hs := hs.toL (L' := [.seg g8 (Opr.c ⟨kd, x⟩) 35, .row s1.rv s1.l.length (clsC s1.l) 27 5, .seg g6 (ledC s1.rv s1.wh) 33, Ent.grp (led gl mb s1.nb s1.gv s1.l s1.wh), .seg g3 c.c 27]) (by subst hs1; dsimp only; rw [show addW wh x.d = wh from if_neg (by rw [hno]; simp)]; rfl)
          refine wp_skip ?_
          refine then_n ?_
          refine wp_seq ?_
          refine wp_reg ?_
          refine s_q hs (c_loadW ty27 ag27 (hs.ev rfl) (hs.seg (i := 4) rfl) (by rfl)) rfl fun ac hs => ?_
          refine s_q hs (c_fld fl35_1 (hs.ev rfl)) rfl fun ac hs => ?_
          refine s_q hs (c_loadA ty27 ag27 (hs.ev rfl) (hs.seg (i := 0) rfl) (show _ = Cl.c x from rfl) (by rfl)) rfl fun ac hs => ?_
          refine s_bslice hs un30 ty27 (.cons (hs.ev rfl) (.cons (hs.ev rfl) .nil)) rfl (by simp [Value.cells, Cl.c]) (by decide) rfl rfl fun ac ww g77 hs => ?_
          refine s_q hs (c_lenS un30 (hs.ev rfl)) rfl fun ac hs => ?_
          refine s_q hs (c_move (hs.ev rfl)) rfl fun ac hs => ?_
          refine s_end ?_
          refine then_n ?_
          refine wp_block ?_
          refine s_loop hs (X := Nat) (fun j => [(79, I j)]) [(3, _), (5, _), (6, _), (7, _), (8, _), (9, _), (14, _), (15, _), (16, _), (17, _), (18, _), (19, _), (20, _), (21, _), (22, _), (23, _), (24, _), (25, _), (26, _), (27, _), (28, _), (29, _), (30, _), (31, _), (32, _), (33, _), (34, _), (35, _), (60, _), (61, _), (62, _), (63, _), (64, _), (65, _), (66, _), (67, _), (68, _), (74, _), (75, _), (76, _), (77, _), (78, _)] (fun _ => [.seg g77 ([c.v, x.v].flatMap fun z => z.cells.toList) 27, .seg g8 (Opr.c ⟨kd, x⟩) 35, .row s1.rv s1.l.length (clsC s1.l) 27 5, .seg g6 (ledC s1.rv s1.wh) 33, Ent.grp (led gl mb s1.nb s1.gv s1.l s1.wh), .seg g3 c.c 27]) (fun n j => j ≤ 2 ∧ n = 2 - j) (_) (0) (⟨Nat.zero_le _, rfl⟩) ⟨rfl, rfl, rfl, rfl, rfl, rfl, rfl, rfl, rfl, rfl, rfl, rfl, rfl, rfl, rfl, rfl, rfl, rfl, rfl, rfl, rfl, rfl, rfl, rfl, rfl, rfl, rfl, rfl, rfl, rfl, rfl, rfl, rfl, rfl, rfl, rfl, rfl, rfl, rfl, rfl, rfl, rfl, rfl, trivial⟩ rfl ?_
          rintro n j ac ww hok hs
          simp only [List.cons_append, List.nil_append] at hs
          obtain ⟨hj2, rfl⟩ := hok
          refine wp_seq ?_
          refine wp_reg ?_
          refine s_q hs (c_lssI (hs.ev rfl) (hs.ev rfl)) rfl fun ac hs => ?_
          refine s_end ?_
          refine then_n ?_
          refine wp_seq ?_
          refine s_cond hs rfl (fun hc => ?_) (fun hc => ?_)
          · try simp only [decide_eq_true_eq, decide_eq_false_iff_not, Bool.not_eq_true', Bool.not_eq_false', Bool.and_eq_true, Bool.or_eq_true, Bool.or_eq_false_iff] at hc
            have hjn : j < 2 := by omega
            obtain ⟨y, hyo, hyc⟩ := two_piece c x hjn hco hxo
            refine wp_skip ?_
            refine then_n ?_
            refine wp_seq ?_
            refine wp_block ?_
            refine wp_seq ?_
            refine wp_reg ?_
            refine s_q hs (c_idxS (j := j) un30 ty27 (hs.ev rfl) (hs.ev rfl) (by omega) (by omega)) rfl fun ac hs => ?_
            refine s_q hs (c_loadA ty27 ag27 (hs.ev rfl) (hs.seg (i := 0) rfl) hyc (by rfl)) rfl fun ac hs => ?_
            refine s_alloc hs ty27 rfl fun ac ww g11 hs => ?_
            refine s_storeW (i := 0) hs ty27 rfl rfl rfl (by rfl) (by rfl) rfl fun ww hs => ?_
            refine s_end ?_
            refine then_n ?_
            refine wp_seq ?_
            have hlr := led_get (hs.get (i := 5) rfl)
            have hrr := Rd.of_row (hs.get (i := 3) rfl)
            refine wp_region_rg pmix 28 (by kernel_rfl) rfl hs ?_
            simp only [List.take_succ_cons, List.take_zero]
            refine rg_q (fun ac ww h => c_move (h.ev rfl)) rfl ?_
            refine rg_q (fun ac ww h => c_loadW ty27 ag27 (h.ev rfl) (h.blk (hs.seg (i := 0) rfl)) (by rfl)) rfl ?_
            refine rg_call fu7 (fun ac ww h => (.cons (h.ev rfl) .nil)) (fun ww hf => tr_To y _) rfl ?_
            refine rg_call fu9 (fun ac ww h => (.cons (h.ev rfl) (.cons (h.ev rfl) .nil))) (fun ww hf => tr_May gl mb s1.nb s1.gv s1.l s1.wh y hyo.1 _ (hlr.fr0 hf)) rfl ?_
            refine rg_q (fun ac ww h => c_loadW ty33 ag33 (h.ev rfl) (h.blk (hs.seg (i := 4) rfl)) (by rfl)) rfl ?_
            refine rg_q (fun ac ww h => c_loadW ty27 ag27 (h.ev rfl) (h.blk (hs.seg (i := 0) rfl)) (by rfl)) rfl ?_
            refine rg_call fu10 (fun ac ww h => (.cons (h.ev rfl) (.cons (h.ev rfl) .nil))) (fun ww hf => ref28_May s1.rv s1.l s1.wh y _ (hrr.fr0 hf)) rfl ?_
            refine rg_q (fun ac ww h => c_ff (c_neqbool un4 (h.ev rfl) (h.ev rfl)) ((by rw [may_eq y hI.h3 hI.h4]; simp))) rfl ?_
            refine rg_q (fun ac ww h => c_move (h.ev rfl)) rfl ?_
            refine rg_yes rfl rfl (fun ac ww h => c_move (h.ev rfl)) rfl ?_
            refine rg_yes rfl rfl (fun ac ww h => c_fld fl27_0 (h.ev rfl)) rfl ?_
            refine rg_yes rfl rfl (fun ac ww h => c_loadS un3 rfl (h.ev rfl) (h.blk (hs.seg (i := 0) rfl)) rfl) rfl ?_
            refine rg_yes rfl rfl (fun ac ww h => c_fld fl27_1 (h.ev rfl)) rfl ?_
            refine rg_yes rfl rfl (fun ac ww h => c_fld fl25_0 (h.ev rfl)) rfl ?_
            refine rg_yes rfl rfl (fun ac ww h => c_loadS un23 rfl (h.ev rfl) (h.blk (hs.seg (i := 0) rfl)) rfl) rfl ?_
            refine rg_yes rfl rfl (fun ac ww h => c_fld fl27_1 (h.ev rfl)) rfl ?_
            refine rg_yes rfl rfl (fun ac ww h => c_fld fl25_1 (h.ev rfl)) rfl ?_
            refine rg_yes rfl rfl (fun ac ww h => c_loadS un23 rfl (h.ev rfl) (h.blk (hs.seg (i := 0) rfl)) rfl) rfl ?_
            refine rg_strip rfl rfl ?_
            refine rg_call fu11 (fun ac ww h => (.cons (h.ev rfl) (.cons (h.ev rfl) (.cons (h.ev rfl) (.cons (h.ev rfl) .nil))))) (fun ww hf => tr_Nearest gl mb s1.nb s1.gv s1.l s1.wh y.d y.ep y.sq _ (hlr.fr0 hf)) rfl ?_
            refine rg_yes rfl rfl (fun ac ww h => c_loadW ty33 ag33 (h.ev rfl) (h.blk (hs.seg (i := 4) rfl)) (by rfl)) rfl ?_
            refine rg_yes rfl rfl (fun ac ww h => c_fld fl27_0 (h.ev rfl)) rfl ?_
            refine rg_yes rfl rfl (fun ac ww h => c_loadS un3 rfl (h.ev rfl) (h.blk (hs.seg (i := 0) rfl)) rfl) rfl ?_
            refine rg_yes rfl rfl (fun ac ww h => c_fld fl27_1 (h.ev rfl)) rfl ?_
            refine rg_yes rfl rfl (fun ac ww h => c_fld fl25_0 (h.ev rfl)) rfl ?_
            refine rg_yes rfl rfl (fun ac ww h => c_loadS un23 rfl (h.ev rfl) (h.blk (hs.seg (i := 0) rfl)) rfl) rfl ?_
            refine rg_yes rfl rfl (fun ac ww h => c_fld fl27_1 (h.ev rfl)) rfl ?_
            refine rg_yes rfl rfl (fun ac ww h => c_fld fl25_1 (h.ev rfl)) rfl ?_
            refine rg_yes rfl rfl (fun ac ww h => c_loadS un23 rfl (h.ev rfl) (h.blk (hs.seg (i := 0) rfl)) rfl) rfl ?_
            refine rg_nil fun ac ww L' hf hfe hs => ?_
            simp only [List.drop_succ_cons, List.drop_zero]
            obtain rfl : L' = [] := hfe
            replace hs := hs.toL (List.nil_append _)
            refine s_yes hs rfl rfl ?_
            refine s_call hs fu12 (.cons (hs.ev rfl) (.cons (hs.ev rfl) (.cons (hs.ev rfl) (.cons (hs.ev rfl) .nil)))) (ref28_Nearest s1.rv s1.l s1.wh y.d y.ep y.sq _ (Rd.of_row (hs.get (i := 3) rfl))) rfl fun ac ww v111 hf hp hs => ?_
            obtain rfl := hp
            replace hs := hs [] (.nil _ _)
            refine s_yes hs rfl rfl ?_
            refine s_q hs (c_ff (c_neqI (hs.ev rfl) (hs.ev rfl)) ((by simp))) rfl fun ac hs => ?_
            refine s_q hs (c_pick (hs.ev rfl) (hs.ev rfl) (hs.ev rfl)) rfl fun ac hs => ?_
            refine s_end ?_
            refine then_n ?_
            refine wp_cond_false (hs.ev rfl) ?_
            refine wp_skip ?_
            refine blk_n ?_
            refine then_n ?_
            refine wp_reg ?_
            refine s_q hs (c_addI (hs.ev rfl) (hs.ev rfl) (by omega) (by omega)) rfl fun ac hs => ?_
            refine s_q hs (c_move (hs.ev rfl)) rfl fun ac hs => ?_
            refine s_end ?_
            refine then_n ?_
            replace hs := hs.pick (L' := [_, _, _, _, _, _]) (.cons _ (.refl _))
            exact ⟨2 - (j + 1), by omega, j + 1, ⟨by omega, rfl⟩, St.next hs ⟨rfl, rfl, rfl, rfl, rfl, rfl, rfl, rfl, rfl, rfl, rfl, rfl, rfl, rfl, rfl, rfl, rfl, rfl, rfl, rfl, rfl, rfl, rfl, rfl, rfl, rfl, rfl, rfl, rfl, rfl, rfl, rfl, rfl, rfl, rfl, rfl, rfl, rfl, rfl, rfl, rfl, rfl, rfl, trivial⟩ rfl⟩
          · try simp only [decide_eq_true_eq, decide_eq_false_iff_not, Bool.not_eq_true', Bool.not_eq_false', Bool.and_eq_true, Bool.or_eq_true, Bool.or_eq_false_iff] at hc
            skip
            refine wp_exit ?_
            refine then_e ?_
            refine then_e ?_
            refine blk_hit ?_
            refine blk_n ?_
            refine then_n ?_
            refine wp_reg ?_
            refine s_q hs (c_addI (hs.ev rfl) (hs.ev rfl) (by omega) (by omega)) rfl fun ac hs => ?_
            refine s_q hs (c_move (hs.ev rfl)) rfl fun ac hs => ?_
            refine s_end ?_
            refine then_n ?_
            replace hs := hs.pick (L' := [_, _, _, _]) (.cons _ (.cons _ (.refl _)))
            exact ⟨ops.length - (k + 1), by omega, (k + 1, s1), ⟨by omega, by omega, hI, rfl⟩, St.next hs ⟨rfl, rfl, rfl, rfl, rfl, rfl, trivial⟩ rfl⟩
  · try simp only [decide_eq_true_eq, decide_eq_false_iff_not, Bool.not_eq_true', Bool.not_eq_false', Bool.and_eq_true, Bool.or_eq_true, Bool.or_eq_false_iff] at hc
    skip
    refine wp_exit ?_
    refine then_e ?_
    refine then_e ?_
    refine blk_hit ?_
    refine then_n ?_
    refine wp_seq ?_
    refine wp_reg ?_
    refine s_call hs fu13 .nil (tr_awake _) rfl fun ac ww v116 hf hp hs => ?_
    obtain rfl := hp
    replace hs := hs [] (.nil _ _)
    refine s_q hs (c_assign (hs.ev rfl)) rfl fun ac hs => ?_
    refine s_end ?_
    replace hs := hs.sub (F' := [(4, _)]) ⟨rfl, trivial⟩
    refine then_n ?_
    refine wp_ret ?_
    refine s_ret hs rfl (.tmp (hs.tmp rfl) .nil) rfl ⟨_, rfl, hs.fr, ?_⟩
    rfl
end Go.Proofs.Ytklajbdbnnceiaa
end
