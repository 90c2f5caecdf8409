/- Own texts of this seat,laid together for one claim (with what its proof uses alone). -/
import Derived.Test.YtkecdcmjkghddaaDilKb
set_option linter.unusedSimpArgs false
set_option linter.unusedVariables false
set_option maxRecDepth 100000
set_option maxHeartbeats 4000000
section
/- The diary: what a sector is,what a half tells. -/
namespace Go.Proofs.Ytkecdcmjkghddaa
open Go Go.Fw
def badS (x:List UInt8) (place:Int):Prop:=¬ x.getD 58 0=(sumL (x.take 58) >>> UInt16.ofNat 8).toUInt8∨¬ x.getD 59 0=(sumL (x.take 58)).toUInt8∨¬ x.getD 4 0=i8 (place / 2 ^ 8)∨¬ x.getD 5 0=i8 place∨50 < (x.getD 7 0).toNat
instance (x:List UInt8) (place:Int):Decidable (badS x place):=by unfold badS; infer_instance
def lookS (x:List UInt8) (g:UInt32) (place:Int):Int:=if ¬ get4 x=g∨¬ get4 (x.drop 60)=g then 1 else if badS x place then 2 else 0
theorem RdB.midS {w:World} {g i j:Nat} {T:TypeId} {x:List UInt8} (h:w.heap[g]?=some (.cells (x.map B).toArray T (0,0))) (hx:x.length=64) (hi:i≤j) (hj:j≤64):RdB w (.slice (some ⟨g,0 + i,none⟩) (j - i) (64 - i)) ((x.drop i).take (j - i)):=by
  have hl:((x.drop i).take (j - i)).length=j - i:=by simp [hx]; omega
  refine ⟨_,64 - i,by rw [hl],by omega,by unfold maxLen; omega,(fun h=>by cases h),.inr ⟨g,0 + i,T,(0,0),(x.map B).toArray,rfl,h,?_⟩⟩
  rw [List.length_map,hl,Nat.zero_add]
  simp [List.map_take,List.map_drop]
theorem di_look (x:List UInt8) (gen:UInt32) (place:Int) (hx:x.length=64) (hp0:0≤place) (hp1:place≤100000) (w:World) :Ctr Try.prog 51 [.agg (x.map B).toArray,U gen,I place] w (fun _=>False) (fun v _=>v=I (lookS x gen place)):=by
  refine fn_start (N:=53) Try.func51 rfl rfl rfl fun ac hk=>?_
  have hs:=St.start hk w
  refine wp_seq (wp_reg ?_)
  refine s_box hs rfl rfl rfl fun ac ww g3 hs=>?_
  refine s_q hs (c_assign (hs.ev rfl)) rfl fun ac hs=>?_
  refine s_end ?_
  replace hs:=hs.sub (F':=[(1,_),(2,_),(3,_),(6,_)]) ⟨rfl,rfl,rfl,rfl,trivial⟩
  refine then_n (wp_seq (wp_seq (wp_reg ?_)))
  by_cases h1:get4 x=gen
  · refine s_q hs (c_sliceA un29 ty5 (hs.ev rfl)) rfl fun ac hs=>?_
    refine s_call hs fu50 (.cons (hs.ev rfl) .nil) (di_get32 _ x (by omega) _ (RdB.segn (hs.seg (i:=0) rfl) hx (by decide))) rfl fun ac ww v9 hf hp hs=>?_
    obtain rfl:=hp
    replace hs:=hs [] (.nil _ _)
    refine s_q hs (c_move (hs.ev rfl)) rfl fun ac hs=>?_
    refine s_q hs (c_ff (c_neqU (hs.ev rfl) (hs.ev rfl)) ((by simp [h1]))) rfl fun ac hs=>?_
    refine s_q hs (c_move (hs.ev rfl)) rfl fun ac hs=>?_
    refine s_yes hs rfl rfl ?_
    refine s_q hs (c_sliceAL (i:=60) un29 ty5 (hs.ev rfl) (hs.ev rfl) rfl (by decide)) rfl fun ac hs=>?_
    refine s_yes hs rfl rfl ?_
    refine s_call hs fu50 (.cons (hs.ev rfl) .nil) (di_get32 _ (x.drop 60) (by simp [hx]) _ (by have h9:=RdB.midS (i:=60) (j:=64) (hs.seg (i:=0) rfl) hx (by decide) (by decide); rwa [List.take_of_length_le (by simp [hx])] at h9)) rfl fun ac ww v14 hf hp hs=>?_
    obtain rfl:=hp
    replace hs:=hs [] (.nil _ _)
    refine s_yes hs rfl rfl ?_
    refine s_q hs (c_move (hs.ev rfl)) rfl fun ac hs=>?_
    refine s_yes hs rfl rfl ?_
    refine s_q hs (c_neqU (hs.ev rfl) (hs.ev rfl)) rfl fun ac hs=>?_
    refine s_q hs (c_pick (hs.ev rfl) (hs.ev rfl) (hs.ev rfl)) rfl fun ac hs=>?_
    refine s_end ?_
    replace hs:=hs.sub (F':=[(2,_),(3,_),(6,_),(17,_)]) ⟨rfl,rfl,rfl,rfl,trivial⟩
    refine then_n ?_
    refine s_cond hs rfl (fun hc=>?_) (fun hc=>?_)
    · try simp only [decide_eq_true_eq,decide_eq_false_iff_not,Bool.not_eq_true',Bool.not_eq_false',Bool.and_eq_true,Bool.or_eq_true,Bool.or_eq_false_iff] at hc
      have h2:¬ get4 (x.drop 60)=gen:=by simpa using hc
      refine wp_seq (wp_reg ?_)
      refine s_q hs (c_assign (hs.ev rfl)) rfl fun ac hs=>?_
      refine s_end ?_
      replace hs:=hs.sub (F':=[(2,_),(3,_),(6,_)]) ⟨rfl,rfl,rfl,trivial⟩
      refine then_n (wp_ret (then_r ?_))
      refine s_ret hs rfl (.tmp (hs.tmp rfl) .nil) rfl ⟨_,rfl,hs.fr,?_⟩
      exact congrArg I (show (1:Int)=_ by rw [lookS,if_pos (.inr h2)])
    · try simp only [decide_eq_true_eq,decide_eq_false_iff_not,Bool.not_eq_true',Bool.not_eq_false',Bool.and_eq_true,Bool.or_eq_true,Bool.or_eq_false_iff] at hc
      have h2:get4 (x.drop 60)=gen:=by simpa using hc
      refine wp_skip (then_n (wp_seq (wp_reg ?_)))
      refine s_q hs (c_loadW ty29 rfl (hs.ev rfl) (hs.seg (i:=0) rfl) (by simp [hx])) rfl fun ac hs=>?_
      refine s_call hs fu53 (.cons (hs.ev rfl) .nil) (di_sum x hx _) rfl fun ac ww v19 hf hp hs=>?_
      obtain rfl:=hp
      replace hs:=hs [] (.nil _ _)
      refine s_q hs (c_assign (hs.ev rfl)) rfl fun ac hs=>?_
      refine s_end ?_
      replace hs:=hs.sub (F':=[(2,_),(3,_),(6,_),(7,_)]) ⟨rfl,rfl,rfl,rfl,trivial⟩
      refine then_n (wp_seq (wp_seq (wp_reg ?_)))
      refine s_q hs (c_idxA (j:=58) un29 ty5 (hs.ev rfl) (hs.ev rfl) rfl (by decide)) rfl fun ac hs=>?_
      refine s_q hs (c_loadS un5 rfl (hs.ev rfl) (hs.seg (i:=0) rfl) (getB (by omega))) rfl fun ac hs=>?_
      refine s_q hs (c_move (hs.ev rfl)) rfl fun ac hs=>?_
      refine s_q hs (c_shrW (hs.ev rfl) (hs.ev rfl) (by decide)) rfl fun ac hs=>?_
      refine s_q hs (c_cvWB un100 un5 (hs.ev rfl)) rfl fun ac hs=>?_
      refine s_q hs (c_neqB (hs.ev rfl) (hs.ev rfl)) rfl fun ac hs=>?_
      refine s_q hs (c_move (hs.ev rfl)) rfl fun ac hs=>?_
      refine s_g hs rfl rfl (fun hg=>c_idxA (j:=59) un29 ty5 (hs.ev rfl) (hs.ev rfl) rfl (by decide)) rfl fun ac hs=>?_
      refine s_g hs rfl rfl (fun hg=>c_loadS un5 rfl (gev (hs.ev rfl) hg) (hs.seg (i:=0) rfl) (getB (by omega))) rfl fun ac hs=>?_
      refine s_g hs rfl rfl (fun hg=>c_move (hs.ev rfl)) rfl fun ac hs=>?_
      refine s_g hs rfl rfl (fun hg=>c_cvWB un100 un5 (gev (hs.ev rfl) hg)) rfl fun ac hs=>?_
      refine s_g hs rfl rfl (fun hg=>c_neqB (gev (hs.ev rfl) hg) (gev (hs.ev rfl) hg)) rfl fun ac hs=>?_
      refine s_q hs (c_or (hs.ev rfl) (hs.ev rfl)) rfl fun ac hs=>?_
      refine s_q hs (c_move (hs.ev rfl)) rfl fun ac hs=>?_
      refine s_g hs rfl rfl (fun hg=>c_idxA (j:=4) un29 ty5 (hs.ev rfl) (hs.ev rfl) rfl (by decide)) rfl fun ac hs=>?_
      refine s_g hs rfl rfl (fun hg=>c_loadS un5 rfl (gev (hs.ev rfl) hg) (hs.seg (i:=0) rfl) (getB (by omega))) rfl fun ac hs=>?_
      refine s_g hs rfl rfl (fun hg=>c_move (hs.ev rfl)) rfl fun ac hs=>?_
      refine s_g hs rfl rfl (fun hg=>c_shrI (gev (hs.ev rfl) hg) (hs.ev rfl) (by decide)) rfl fun ac hs=>?_
      refine s_g hs rfl rfl (fun hg=>c_cvIB un3 un5 (gev (hs.ev rfl) hg)) rfl fun ac hs=>?_
      refine s_g hs rfl rfl (fun hg=>c_neqB (gev (hs.ev rfl) hg) (gev (hs.ev rfl) hg)) rfl fun ac hs=>?_
      refine s_q hs (c_or (hs.ev rfl) (hs.ev rfl)) rfl fun ac hs=>?_
      refine s_q hs (c_move (hs.ev rfl)) rfl fun ac hs=>?_
      refine s_g hs rfl rfl (fun hg=>c_idxA (j:=5) un29 ty5 (hs.ev rfl) (hs.ev rfl) rfl (by decide)) rfl fun ac hs=>?_
      refine s_g hs rfl rfl (fun hg=>c_loadS un5 rfl (gev (hs.ev rfl) hg) (hs.seg (i:=0) rfl) (getB (by omega))) rfl fun ac hs=>?_
      refine s_g hs rfl rfl (fun hg=>c_move (hs.ev rfl)) rfl fun ac hs=>?_
      refine s_g hs rfl rfl (fun hg=>c_cvIB un3 un5 (gev (hs.ev rfl) hg)) rfl fun ac hs=>?_
      refine s_g hs rfl rfl (fun hg=>c_neqB (gev (hs.ev rfl) hg) (gev (hs.ev rfl) hg)) rfl fun ac hs=>?_
      refine s_q hs (c_or (hs.ev rfl) (hs.ev rfl)) rfl fun ac hs=>?_
      refine s_q hs (c_move (hs.ev rfl)) rfl fun ac hs=>?_
      refine s_g hs rfl rfl (fun hg=>c_idxA (j:=7) un29 ty5 (hs.ev rfl) (hs.ev rfl) rfl (by decide)) rfl fun ac hs=>?_
      refine s_g hs rfl rfl (fun hg=>c_loadS un5 rfl (gev (hs.ev rfl) hg) (hs.seg (i:=0) rfl) (getB (by omega))) rfl fun ac hs=>?_
      refine s_g hs rfl rfl (fun hg=>c_gtrB (gev (hs.ev rfl) hg) (St.ev (v:=B 50) hs rfl)) rfl fun ac hs=>?_
      refine s_q hs (c_or (hs.ev rfl) (hs.ev rfl)) rfl fun ac hs=>?_
      refine s_end ?_
      replace hs:=hs.sub (F':=[(6,_),(52,_)]) ⟨rfl,rfl,trivial⟩
      refine then_n ?_
      refine s_cond hs rfl (fun hc=>?_) (fun hc=>?_)
      · skip
        have hb:badS x place:=by
          simp only [Bool.or_eq_true,decide_eq_true_eq,Bool.not_eq_true',decide_eq_false_iff_not] at hc
          unfold badS
          rcases hc with (((hc | hc) | hc) | hc) | hc
          · exact .inl hc
          · exact .inr (.inl hc)
          · exact .inr (.inr (.inl hc))
          · exact .inr (.inr (.inr (.inl hc)))
          · exact .inr (.inr (.inr (.inr hc)))
        refine wp_seq (wp_reg ?_)
        refine s_q hs (c_assign (hs.ev rfl)) rfl fun ac hs=>?_
        refine s_end ?_
        replace hs:=hs.sub (F':=[(6,_)]) ⟨rfl,trivial⟩
        refine then_n (wp_ret (then_r ?_))
        refine s_ret hs rfl (.tmp (hs.tmp rfl) .nil) rfl ⟨_,rfl,hs.fr,?_⟩
        exact congrArg I (show (2:Int)=_ by rw [lookS,if_neg (fun h=>h.elim (fun a=>a h1) (fun a=>a h2)),if_pos hb])
      · skip
        have hb:¬ badS x place:=fun h=>by
          simp only [Bool.or_eq_false_iff,decide_eq_false_iff_not,Bool.not_eq_false',decide_eq_true_eq] at hc
          obtain ⟨⟨⟨⟨h3,h4⟩,h5⟩,h6⟩,h7⟩:=hc
          rcases h with h | h | h | h | h
          · exact h h3
          · exact h h4
          · exact h h5
          · exact h h6
          · exact h7 h
        refine wp_skip (then_n (wp_seq (wp_reg ?_)))
        refine s_q hs (c_assign (hs.ev rfl)) rfl fun ac hs=>?_
        refine s_end ?_
        replace hs:=hs.sub (F':=[(6,_)]) ⟨rfl,trivial⟩
        refine then_n (wp_ret ?_)
        refine s_ret hs rfl (.tmp (hs.tmp rfl) .nil) rfl ⟨_,rfl,hs.fr,?_⟩
        exact congrArg I (show (0:Int)=_ by rw [lookS,if_neg (fun h=>h.elim (fun a=>a h1) (fun a=>a h2)),if_neg hb])
  · refine s_q hs (c_sliceA un29 ty5 (hs.ev rfl)) rfl fun ac hs=>?_
    refine s_call hs fu50 (.cons (hs.ev rfl) .nil) (di_get32 _ x (by omega) _ (RdB.segn (hs.seg (i:=0) rfl) hx (by decide))) rfl fun ac ww v9 hf hp hs=>?_
    obtain rfl:=hp
    replace hs:=hs [] (.nil _ _)
    refine s_q hs (c_move (hs.ev rfl)) rfl fun ac hs=>?_
    refine s_q hs (c_tt (c_neqU (hs.ev rfl) (hs.ev rfl)) ((by simp [h1]))) rfl fun ac hs=>?_
    refine s_q hs (c_move (hs.ev rfl)) rfl fun ac hs=>?_
    refine s_no hs rfl rfl rfl rfl fun ac hs=>?_
    refine s_no hs rfl rfl rfl rfl fun ac hs=>?_
    refine s_no hs rfl rfl rfl rfl fun ac hs=>?_
    refine s_no hs rfl rfl rfl rfl fun ac hs=>?_
    refine s_q hs (c_pick (hs.ev rfl) (hs.ev rfl) (hs.ev rfl)) rfl fun ac hs=>?_
    refine s_end ?_
    replace hs:=hs.sub (F':=[(2,_),(3,_),(6,_),(17,_)]) ⟨rfl,rfl,rfl,rfl,trivial⟩
    refine then_n ?_
    refine wp_cond_true (hs.ev rfl) ?_
    refine wp_seq (wp_reg ?_)
    refine s_q hs (c_assign (hs.ev rfl)) rfl fun ac hs=>?_
    refine s_end ?_
    replace hs:=hs.sub (F':=[(2,_),(3,_),(6,_)]) ⟨rfl,rfl,rfl,trivial⟩
    refine then_n (wp_ret (then_r ?_))
    refine s_ret hs rfl (.tmp (hs.tmp rfl) .nil) rfl ⟨_,rfl,hs.fr,?_⟩
    exact congrArg I (show (1:Int)=_ by rw [lookS,if_pos (.inl h1)])
def vis (s:Sl) (j:Nat):List UInt8:=ofW s.q j (sec s.xs j)
theorem read_vis {s:Sl} (hup:s.down=false) {j:Nat} (hj:j < s.n):s.read j=(vis s j,0):=by
  rw [Sl.read,if_neg (by rw [hup]; decide),if_neg (by omega)]
  rfl
theorem vis_len {s:Sl} (h:s.Ok) {j:Nat} (hj:j < s.n):(vis s j).length=64:=ofW_len (sec_len h.xl hj) h.qo
structure Td where
  gen:UInt32
  recs:List (List UInt8)
  sure:Bool
def rdGo (f:Nat→List UInt8) (g:UInt32):Nat→Nat→List (List UInt8)→Bool→List UInt8→Bool→Option (List (List UInt8) × Bool)
  | 0,_,recs,sure,_,_=>some (recs,sure)
  | m + 1,k,recs,sure,part,op =>
    if lookS (f k) g k=1 then some (recs,sure) else if lookS (f k) g k=2 then none else
    if decide (¬ (f k).getD 6 0 &&& 1=0)=op then none else
    if (f k).getD 6 0 &&& 2=0 then rdGo f g m (k + 1) recs sure (part++((f k).drop 8).take ((f k).getD 7 0).toNat) true else
    if ¬ (f k).getD 6 0 &&& 4=0 then (if sure=true then none else rdGo f g m (k + 1) recs true [] false)
    else rdGo f g m (k + 1) (recs++[part++((f k).drop 8).take ((f k).getD 7 0).toNat]) sure [] false
def rdHalf (f:Nat→List UInt8) (h many:Nat):Option Td :=
  if many=0∨get4 (f 0)=0∨¬ get4 ((f 0).drop 60)=get4 (f 0)∨¬ (get4 (f 0) % 2).toNat=h then some ⟨0,[],false⟩
  else (rdGo f (get4 (f 0)) many 0 [] false [] false).map fun r=>⟨get4 (f 0),r.1,r.2⟩
theorem look_len {x:List UInt8} {g:UInt32} {k:Int} (h1:¬ lookS x g k=1) (h2:¬ lookS x g k=2):(x.getD 7 0).toNat≤50:=by
  unfold lookS at h1 h2
  split at h1
  · exact absurd rfl h1
  · rename_i h3
    rw [if_neg h3] at h2
    split at h2
    · exact absurd rfl h2
    · rename_i h4
      exact Nat.le_of_not_lt fun h=>h4 (.inr (.inr (.inr (.inr h))))
structure RX where
  G:UInt32
  rv:Value
  ps:List (Value × List UInt8)
  sure:Bool
  pv:Value
  part:List UInt8
  op:Bool
structure RI (f:Nat→List UInt8) (h many k:Nat) (z:RX):Prop where
  at0:k=0→z.ps=[]∧z.sure=false∧z.part=[]∧z.op=false∧z.G=0
  on:¬ k=0→rdHalf f h many=(rdGo f z.G (many - k) k (z.ps.map (·.2)) z.sure z.part z.op).map fun r=>⟨z.G,r.1,r.2⟩
  le:z.part.length≤50 * k
  le2:z.ps.length≤k
def tdC (g:UInt32) (rv:Value) (b:Bool):List Value:=[U g,rv,.bool b]
def RdTo (w w':World) (v:Value):Option Td→Prop
  | none=>v=.tuple #[.agg (tdC 0 (.slice none 0 0) false).toArray,I 31]
  | some td=>∃ rv ps,v=.tuple #[.agg (tdC td.gen rv td.sure).toArray,I 0]∧ps.map (·.2)=td.recs∧Has w.heap.size w' [Ent.texts 38 (Ent.part 5) rv ps]
theorem rd_pow {m:Nat} (h:¬ m=0) (f:Nat→List UInt8) (g:UInt32) (k:Nat) (recs:List (List UInt8)) (sure:Bool) (part:List UInt8) (op:Bool):rdGo f g m k recs sure part op =
    (if lookS (f k) g k=1 then some (recs,sure) else if lookS (f k) g k=2 then none else
    if decide (¬ (f k).getD 6 0 &&& 1=0)=op then none else
    if (f k).getD 6 0 &&& 2=0 then rdGo f g (m - 1) (k + 1) recs sure (part++((f k).drop 8).take ((f k).getD 7 0).toNat) true else
    if ¬ (f k).getD 6 0 &&& 4=0 then (if sure=true then none else rdGo f g (m - 1) (k + 1) recs true [] false)
    else rdGo f g (m - 1) (k + 1) (recs++[part++((f k).drop 8).take ((f k).getD 7 0).toNat]) sure [] false):=by
  obtain ⟨m,rfl⟩:∃ n,m=n + 1:=⟨m - 1,by omega⟩
  rfl
theorem RdB.midE {w:World} {g:Nat} {T:TypeId} {x:List UInt8} (h:w.heap[g]?=some (.cells (x.map B).toArray T (0,0))) (hx:x.length=64):RdB w (.slice (some ⟨g,0 + 60,none⟩) (64 - 60) (64 - 60)) (x.drop 60):=by
  have h9:=RdB.midS (i:=60) (j:=64) h hx (by decide) (by decide)
  rwa [List.take_of_length_le (by simp [hx])] at h9
theorem RdB.midD {w:World} {g m:Nat} {T:TypeId} {x:List UInt8} (h:w.heap[g]?=some (.cells (x.map B).toArray T (0,0))) (hx:x.length=64) (hm:m≤50):RdB w (.slice (some ⟨g,0 + 8,none⟩) (8 + m - 8) (64 - 8)) ((x.drop 8).take m):=by
  have h9:=RdB.midS (i:=8) (j:=8 + m) h hx (by omega) (by omega)
  rwa [show (x.drop 8).take (8 + m - 8)=(x.drop 8).take m by rw [Nat.add_sub_cancel_left]] at h9
theorem texts_rd {E T:TypeId} {v:Value} {ps:List (Value × List UInt8)} {w:World} (h:(Ent.texts E (Ent.part T) v ps).holds w):Rd w v ps.length (ps.map (·.1)):=(RdP.texts h).1
theorem di_read (g sb:Nat) (qv:Value) (s:Sl) (frm many h:Nat) (f:Nat→List UInt8) (hok:s.Ok) (hup:s.down=false) (hfm:frm + many≤s.n) (hfr:0 < many→frm / many=h) (hf:∀ k,f k=vis s (frm + k)) (w:World) (hR:SlR w g sb qv s):Ctr Try.prog 45 [.pointer (some ⟨g,0,none⟩),I frm,I many] w (fun _=>False) (fun v w'=>RdTo w w' v (rdHalf f h many)):=by
  have hn1:=hok.n1
  refine fn_start (N:=110) Try.func45 rfl rfl rfl fun ac hk=>?_
  have hs:=St.start hk w
  refine wp_seq (wp_reg ?_)
  refine s_alloc hs ty88 rfl fun ac ww g6 hs=>?_
  refine s_q hs (c_assign (hs.ev rfl)) rfl fun ac hs=>?_
  refine s_end (then_n ?_)
  refine wp_sc ?_
  refine wp_seq (wp_reg ?_)
  refine s_alloc hs ty88 rfl fun ac ww g8 hs=>?_
  refine s_end (then_n (wp_seq (wp_reg ?_)))
  refine s_q hs (c_assign (hs.ev rfl)) rfl fun ac hs=>?_
  refine s_end ?_
  replace hs:=hs.nilrow 5 1
  refine then_n (wp_seq (wp_reg ?_))
  refine s_q hs (c_assign (hs.ev rfl)) rfl fun ac hs=>?_
  refine s_end ?_
  replace hs:=(hs.texts0 38 (Ent.part 5)).perm (L':=[.seg g8 (tdC 0 (.slice none 0 0) false) 88,Ent.texts 38 (Ent.part 5) (.slice none 0 0) [],.row (.slice none 0 0) 0 [] 5 1,.seg g6 (tdC 0 (.slice none 0 0) false) 88]) (List.Perm.append_right [_] (List.perm_append_comm (l₁:=[_]) (l₂:=[_,_])))
  refine then_n (wp_seq ?_)
  refine wp_label ?_
  refine then_n (wp_seq (wp_seq (wp_reg ?_)))
  refine s_q hs (c_move (hs.ev rfl)) rfl fun ac hs=>?_
  refine s_q hs (c_move (hs.ev rfl)) rfl fun ac hs=>?_
  refine s_end (then_n (wp_block ?_))
  refine s_loop hs (X:=Nat × RX) (fun z=>[(16,I z.1),(9,z.2.pv),(10,.bool z.2.op)]) [(0,_),(1,_),(2,_),(6,_),(8,_),(15,_)] (fun z=>[.seg g8 (tdC (z.2.G) (z.2.rv) (z.2.sure)) 88,Ent.texts 38 (Ent.part 5) (z.2.rv) (z.2.ps),.row (z.2.pv) (z.2.part).length ((z.2.part).map B) 5 1,.seg g6 (tdC 0 (.slice none 0 0) false) 88]) (fun n z=>z.1≤many∧RI f h many z.1 z.2∧n=many - z.1) (_) ((0,⟨0,.slice none 0 0,[],false,.slice none 0 0,[],false⟩)) (⟨Nat.zero_le _,⟨fun _=>⟨rfl,rfl,rfl,rfl,rfl⟩,fun h=>absurd rfl h,Nat.le_refl _,Nat.le_refl _⟩,rfl⟩) ⟨rfl,rfl,rfl,rfl,rfl,rfl,rfl,rfl,rfl,trivial⟩ rfl ?_
  rintro n ⟨k,G,rv,ps,sure,pv,part,op⟩ ac ww hok2 hs
  simp only [List.cons_append,List.nil_append] at hs
  obtain ⟨hk,hI,rfl⟩:=hok2
  replace hk:k≤many:=hk
  replace hI:RI f h many k ⟨G,rv,ps,sure,pv,part,op⟩:=hI
  have hl1:part.length≤50 * k:=hI.le
  have hl2:ps.length≤k:=hI.le2
  have hl2b:=hl2
  refine wp_seq (wp_reg ?_)
  refine s_q hs (c_lssI (hs.ev rfl) (hs.ev rfl)) rfl fun ac hs=>?_
  refine s_end (then_n (wp_seq ?_))
  refine s_cond hs rfl (fun hc=>?_) (fun hc=>?_)
  · try simp only [decide_eq_true_eq,decide_eq_false_iff_not,Bool.not_eq_true',Bool.not_eq_false',Bool.and_eq_true,Bool.or_eq_true,Bool.or_eq_false_iff] at hc
    have hkm:k < many:=by omega
    obtain ⟨x,hx⟩:∃ x,f k=x:=⟨_,rfl⟩
    have hxr:s.read ((frm + k:Nat):Int)=(x,0):=by rw [read_vis hup (by omega),← hx,hf]
    have hx64:x.length=64:=by rw [← hx,hf]; exact vis_len hok (by omega)
    refine wp_skip (then_n (wp_seq (wp_block (wp_seq (wp_reg ?_)))))
    refine s_q hs (c_move (hs.ev rfl)) rfl fun ac hs=>?_
    refine s_q hs (c_assign (hs.ev rfl)) rfl fun ac hs=>?_
    refine s_end (then_n (wp_seq (wp_reg ?_)))
    refine s_q hs (c_move (hs.ev rfl)) rfl fun ac hs=>?_
    refine s_q hs (c_move (hs.ev rfl)) rfl fun ac hs=>?_
    refine s_q hs (c_move (hs.ev rfl)) rfl fun ac hs=>?_
    refine s_q hs (c_to (c_addI (hs.ev rfl) (hs.ev rfl) (by omega) (by omega)) ((congrArg I (show _=((frm + k:Nat):Int) by omega)))) rfl fun ac hs=>?_
    refine s_call hs fu15 (.cons (hs.ev rfl) (.cons (hs.ev rfl) .nil)) (sl_Read g sb qv s ((frm + k:Nat):Int) hok _ (hR.fr0 hs.fr)) rfl fun ac ww v24 hf hp hs=>?_
    rw [hxr] at hp
    replace hp:v24=.tuple #[.agg (x.map B).toArray,I 0]:=hp
    obtain rfl:=hp
    replace hs:=hs [] (.nil _ _)
    refine s_q hs (c_move (hs.ev rfl)) rfl fun ac hs=>?_
    refine s_q hs (c_extract (hs.ev rfl) rfl) rfl fun ac hs=>?_
    refine s_q hs (c_extract (hs.ev rfl) rfl) rfl fun ac hs=>?_
    refine s_alloc hs ty29 rfl fun ac ww g12 hs=>?_
    refine s_storeW (i:=0) hs ty29 rfl rfl rfl (by simp [hx64]) (all64 _) (by rfl) fun ww hs=>?_
    refine s_q hs (c_assign (hs.ev rfl)) rfl fun ac hs=>?_
    refine s_end (then_n (wp_seq (wp_seq (wp_reg ?_))))
    refine s_q hs (c_move (hs.ev rfl)) rfl fun ac hs=>?_
    refine s_q hs (c_neqI (hs.ev rfl) (hs.ev rfl)) rfl fun ac hs=>?_
    refine s_end (then_n ?_)
    refine wp_cond_false (hs.ev rfl) ?_
    refine wp_skip (then_n (wp_seq (wp_seq (wp_reg ?_))))
    refine s_q hs (c_move (hs.ev rfl)) rfl fun ac hs=>?_
    refine s_q hs (c_eqlI (hs.ev rfl) (hs.ev rfl)) rfl fun ac hs=>?_
    refine s_end (then_n ?_)
    refine s_cond hs rfl (fun hc=>?_) (fun hc=>?_)
    · try simp only [decide_eq_true_eq,decide_eq_false_iff_not,Bool.not_eq_true',Bool.not_eq_false',Bool.and_eq_true,Bool.or_eq_true,Bool.or_eq_false_iff] at hc
      have hk0:k=0:=by omega
      obtain ⟨e1,e2,e3,e4,e5⟩:=hI.at0 hk0
      replace e1:ps=[]:=e1
      replace e2:sure=false:=e2
      replace e3:part=[]:=e3
      replace e4:op=false:=e4
      refine wp_seq (wp_reg ?_)
      refine s_q hs (c_sliceA un29 ty5 (hs.ev rfl)) rfl fun ac hs=>?_
      refine s_call hs fu50 (.cons (hs.ev rfl) .nil) (di_get32 _ x (by omega) _ (RdB.segn (hs.seg (i:=0) rfl) hx64 (by decide))) rfl fun ac ww v34 hf hp hs=>?_
      obtain rfl:=hp
      replace hs:=hs [] (.nil _ _)
      refine s_q hs (c_fld fl88_0 (hs.ev rfl)) rfl fun ac hs=>?_
      refine s_store (i:=1) hs ty53 rfl rfl rfl rfl (by rfl) (by rfl) (by simp [tdC,Value.cells]) (show _=tdC (get4 x) rv sure from rfl) fun ww hs=>?_
      refine s_end (then_n (wp_seq ?_))
      obtain ⟨G2,hG2⟩:∃ G2,get4 x=G2:=⟨_,rfl⟩
      rw [hG2] at hs
      have hhd:frm / many=h:=hfr (by omega)
      have hmx:max (many:Int) 1=many:=by omega
      have hdv:(frm:Int) / (many:Int)=(h:Int):=by rw [← hhd]; rfl
      refine wp_region_rg pmix 21 (by kernel_rfl) rfl hs ?_
      simp only [List.take_succ_cons,List.take_zero]
      refine rg_q (fun ac ww h=>c_fld fl88_0 (h.ev rfl)) rfl ?_
      refine rg_q (fun ac ww h=>c_loadS un53 rfl (h.ev rfl) (h.blk (hs.seg (i:=1) rfl)) rfl) rfl ?_
      refine rg_q (fun ac ww h=>c_eqlU (h.ev rfl) (RC.ev (v:=U 0) h rfl)) rfl ?_
      refine rg_q (fun ac ww h=>c_move (h.ev rfl)) rfl ?_
      refine rg_g rfl rfl (fun hg ac ww h=>c_sliceAL (i:=60) un29 ty5 (h.ev rfl) (h.ev rfl) rfl (by decide)) rfl ?_
      refine rg_gcall rfl rfl fu50 (fun hg ac ww h=>(.cons (gev (h.ev rfl) hg) .nil)) (fun hg ww hf=>di_get32 _ (x.drop 60) (by simp [hx64]) _ (RdB.midE (((hf.block _ (heap_lt (hs.seg (i:=0) rfl)) id).trans (hs.seg (i:=0) rfl))) hx64)) rfl ?_
      refine rg_g rfl rfl (fun hg ac ww h=>c_fld fl88_0 (h.ev rfl)) rfl ?_
      refine rg_g rfl rfl (fun hg ac ww h=>c_loadS un53 rfl (gev (h.ev rfl) hg) (h.blk (hs.seg (i:=1) rfl)) rfl) rfl ?_
      refine rg_g rfl rfl (fun hg ac ww h=>c_neqU (gev (h.ev rfl) hg) (gev (h.ev rfl) hg)) rfl ?_
      refine rg_q (fun ac ww h=>c_or (h.ev rfl) (h.ev rfl)) rfl ?_
      refine rg_q (fun ac ww h=>c_move (h.ev rfl)) rfl ?_
      refine rg_g rfl rfl (fun hg ac ww h=>c_fld fl88_0 (h.ev rfl)) rfl ?_
      refine rg_g rfl rfl (fun hg ac ww h=>c_loadS un53 rfl (gev (h.ev rfl) hg) (h.blk (hs.seg (i:=1) rfl)) rfl) rfl ?_
      refine rg_g rfl rfl (fun hg ac ww h=>c_remU (gev (h.ev rfl) hg) (RC.ev (v:=U 2) h rfl) (by decide)) rfl ?_
      refine rg_g rfl rfl (fun hg ac ww h=>c_cvUI un53 un3 (gev (h.ev rfl) hg)) rfl ?_
      refine rg_g rfl rfl (fun hg ac ww h=>c_move (h.ev rfl)) rfl ?_
      refine rg_g rfl rfl (fun hg ac ww h=>c_move (h.ev rfl)) rfl ?_
      refine rg_g rfl rfl (fun hg ac ww h=>c_max (gev (h.ev rfl) hg) (h.ev rfl)) rfl ?_
      refine rg_g rfl rfl (fun hg ac ww h=>c_to (c_quoI (gev (h.ev rfl) hg) (gev (h.ev rfl) hg) (by omega) (by omega) (by omega)) ((congrArg I ((congrArg (fun z:Int=>(frm:Int) / z) hmx).trans hdv)))) rfl ?_
      refine rg_g rfl rfl (fun hg ac ww h=>c_neqI (gev (h.ev rfl) hg) (gev (h.ev rfl) hg)) rfl ?_
      refine rg_q (fun ac ww h=>c_or (h.ev rfl) (h.ev rfl)) rfl ?_
      refine rg_nil fun ac ww L' hf hfe hs=>?_
      simp only [List.drop_succ_cons,List.drop_zero]
      obtain rfl:L'=[]:=hfe
      replace hs:=hs.toL (List.nil_append _)
      refine s_end (then_n ?_)
      refine s_cond hs rfl (fun hc=>?_) (fun hc=>?_)
      · skip
        have hbad:get4 (f 0)=0∨¬ get4 ((f 0).drop 60)=get4 (f 0)∨¬ (get4 (f 0) % 2).toNat=h:=by
          simp only [Bool.or_eq_true,decide_eq_true_eq,Bool.not_eq_true',decide_eq_false_iff_not] at hc
          rw [← hk0,hx,hG2]
          rcases hc with (hc | hc) | hc
          · exact .inl hc
          · exact .inr (.inl hc)
          · exact .inr (.inr (fun e=>hc (by rw [e])))
        refine wp_seq (wp_reg ?_)
        refine s_q hs (c_buildS (zc:=tdC 0 (.slice none 0 0) false) ty88 bp88 .nil trivial (by simp [flatCells,Value.cells]) rfl) rfl fun ac hs=>?_
        refine s_storeW (i:=4) hs ty88 rfl rfl rfl (by rfl) (by rfl) (by rfl) fun ww hs=>?_
        refine s_q hs (c_assign (hs.ev rfl)) rfl fun ac hs=>?_
        refine s_end (then_n (wp_ret (then_r (blk_r (then_r (then_r (blk_r (then_r ?_))))))))
        refine sc_r ?_
        replace hs:=(hs.texts0 38 (Ent.part 5))
        refine s_ret hs rfl (.cell (hs.tmp rfl) (run_loadA ty88 ag88 (hs.seg (i:=5) rfl) rfl (by rfl)) (.tmp (hs.tmp rfl) .nil)) rfl ⟨_,rfl,hs.fr,?_⟩
        rw [show rdHalf f h many=some ⟨0,[],false⟩ from if_pos (.inr hbad)]
        exact ⟨_,[],rfl,rfl,(hs.pick (L':=[_]) (.cons_cons _ (List.nil_sublist _))).made⟩
      · skip
        have hgo:rdHalf f h many=(rdGo f G2 (many - k) k (ps.map (·.2)) sure part op).map fun r=>⟨G2,r.1,r.2⟩:=by
          simp only [Bool.or_eq_false_iff,decide_eq_false_iff_not,Bool.not_eq_false',decide_eq_true_eq] at hc
          obtain ⟨⟨h3,h4⟩,h5⟩:=hc
          rw [e1,e2,e3,e4,hk0,rdHalf,if_neg,← hk0,hx,hG2,hk0]
          · rfl
          · rw [← hk0,hx,hG2]
            rintro (h9 | h9 | h9 | h9)
            · omega
            · exact h3 h9
            · exact h9 h4
            · exact h9 (by omega)
        refine wp_skip (then_n (wp_seq (wp_seq ?_)))
        have hst:=rd_pow (show ¬ many - k=0 by omega) f G2 k (ps.map (·.2)) sure part op
        rw [hx] at hst
        refine wp_reg ?_
        refine s_q hs (c_loadW ty29 rfl (hs.ev rfl) (hs.seg (i:=0) rfl) (by simp [hx64])) rfl fun ac hs=>?_
        refine s_q hs (c_fld fl88_0 (hs.ev rfl)) rfl fun ac hs=>?_
        refine s_q hs (c_loadS un53 rfl (hs.ev rfl) (hs.seg (i:=1) rfl) rfl) rfl fun ac hs=>?_
        refine s_q hs (c_move (hs.ev rfl)) rfl fun ac hs=>?_
        refine s_call hs fu51 (.cons (hs.ev rfl) (.cons (hs.ev rfl) (.cons (hs.ev rfl) .nil))) (di_look x G2 k hx64 (by omega) (by omega) _) rfl fun ac ww v62 hf hp hs=>?_
        obtain rfl:=hp
        replace hs:=hs [] (.nil _ _)
        refine s_end (then_n (wp_block (wp_seq (wp_reg ?_))))
        refine s_q hs (c_eqlI (hs.ev rfl) (hs.ev rfl)) rfl fun ac hs=>?_
        refine s_q hs (c_assign (hs.ev rfl)) rfl fun ac hs=>?_
        refine s_end (then_n ?_)
        refine s_cond hs rfl (fun hc=>?_) (fun hc=>?_)
        · try simp only [decide_eq_true_eq,decide_eq_false_iff_not,Bool.not_eq_true',Bool.not_eq_false',Bool.and_eq_true,Bool.or_eq_true,Bool.or_eq_false_iff] at hc
          have hl1:lookS x G2 k=1:=hc
          have hres:rdHalf f h many=some ⟨G2,ps.map (·.2),sure⟩:=hgo.trans (by rw [hst,if_pos hl1]; rfl)
          replace hs:=hs.pick (L':=[_,_,_,_]) (.cons _ (.refl _))
          refine wp_exit (blk_miss rfl (then_e (blk_miss rfl (then_e (then_e (blk_hit (then_n (wp_seq (wp_reg ?_)))))))))
          obtain ⟨rad,rcap,rfl,_,_⟩:=Rd.sl (texts_rd (hs.get (i:=1) rfl))
          refine s_q hs (c_loadW ty88 ag88 (hs.ev rfl) (hs.seg (i:=0) rfl) (by rfl)) rfl fun ac hs=>?_
          refine s_storeW (i:=3) hs ty88 rfl rfl rfl (by rfl) (by rfl) (by rfl) fun ww hs=>?_
          refine s_q hs (c_assign (hs.ev rfl)) rfl fun ac hs=>?_
          refine s_end ?_
          replace hs:=hs.sub (F':=[(6,_),(7,_)]) ⟨rfl,rfl,trivial⟩
          refine then_n (wp_ret ?_)
          refine sc_r ?_
          refine s_ret hs rfl (.cell (hs.tmp rfl) (run_loadA ty88 ag88 (hs.seg (i:=3) rfl) rfl (by rfl)) (.tmp (hs.tmp rfl) .nil)) rfl ⟨_,rfl,hs.fr,?_⟩
          rw [hres]
          exact ⟨_,ps,rfl,rfl,(hs.pick (L':=[_]) (.cons _ (.cons_cons _ (List.nil_sublist _)))).made⟩
        · try simp only [decide_eq_true_eq,decide_eq_false_iff_not,Bool.not_eq_true',Bool.not_eq_false',Bool.and_eq_true,Bool.or_eq_true,Bool.or_eq_false_iff] at hc
          have hl1:¬ lookS x G2 k=1:=hc
          refine wp_seq (wp_reg ?_)
          refine s_q hs (c_eqlI (hs.ev rfl) (hs.ev rfl)) rfl fun ac hs=>?_
          refine s_q hs (c_assign (hs.ev rfl)) rfl fun ac hs=>?_
          refine s_end (then_n ?_)
          refine s_cond hs rfl (fun hc=>?_) (fun hc=>?_)
          · try simp only [decide_eq_true_eq,decide_eq_false_iff_not,Bool.not_eq_true',Bool.not_eq_false',Bool.and_eq_true,Bool.or_eq_true,Bool.or_eq_false_iff] at hc
            have hl2:lookS x G2 k=2:=hc
            refine wp_seq (wp_reg ?_)
            refine s_q hs (c_buildS (zc:=tdC 0 (.slice none 0 0) false) ty88 bp88 .nil trivial (by simp [flatCells,Value.cells]) rfl) rfl fun ac hs=>?_
            refine s_storeW (i:=4) hs ty88 rfl rfl rfl (by rfl) (by rfl) (by rfl) fun ww hs=>?_
            refine s_q hs (c_assign (hs.ev rfl)) rfl fun ac hs=>?_
            refine s_end (then_n (wp_ret (blk_r (then_r (blk_r (then_r (then_r (blk_r (then_r ?_)))))))))
            refine sc_r ?_
            refine s_ret hs rfl (.cell (hs.tmp rfl) (run_loadA ty88 ag88 (hs.seg (i:=4) rfl) rfl (by rfl)) (.tmp (hs.tmp rfl) .nil)) rfl ⟨_,rfl,hs.fr,?_⟩
            rw [hgo.trans (by rw [hst,if_neg hl1,if_pos hl2])]
            rfl
          · try simp only [decide_eq_true_eq,decide_eq_false_iff_not,Bool.not_eq_true',Bool.not_eq_false',Bool.and_eq_true,Bool.or_eq_true,Bool.or_eq_false_iff] at hc
            have hl2:¬ lookS x G2 k=2:=hc
            obtain ⟨m7,hm7⟩:∃ m7,(x.getD 7 0).toNat=m7:=⟨_,rfl⟩
            have hm50:m7≤50:=hm7 ▸ look_len hl1 hl2
            obtain ⟨fl,hfl⟩:∃ fl,x.getD 6 0=fl:=⟨_,rfl⟩
            rw [hfl,hm7] at hst
            refine wp_skip (blk_n (then_n (wp_seq (wp_reg ?_))))
            refine s_q hs (c_idxA (j:=6) un29 ty5 (hs.ev rfl) (hs.ev rfl) rfl (by decide)) rfl fun ac hs=>?_
            refine s_q hs (c_to (c_loadS un5 rfl (hs.ev rfl) (hs.seg (i:=0) rfl) (getB (by omega))) ((congrArg B hfl))) rfl fun ac hs=>?_
            refine s_q hs (c_assign (hs.ev rfl)) rfl fun ac hs=>?_
            refine s_end (then_n (wp_seq (wp_seq (wp_reg ?_))))
            refine s_q hs (c_move (hs.ev rfl)) rfl fun ac hs=>?_
            refine s_q hs (c_andB (hs.ev rfl) (St.ev (v:=B 1) hs rfl)) rfl fun ac hs=>?_
            refine s_q hs (c_neqB (hs.ev rfl) (St.ev (v:=B 0) hs rfl)) rfl fun ac hs=>?_
            refine s_q hs (c_move (hs.ev rfl)) rfl fun ac hs=>?_
            refine s_q hs (c_eqlbool un4 (hs.ev rfl) (hs.ev rfl)) rfl fun ac hs=>?_
            refine s_end (then_n ?_)
            refine s_cond hs rfl (fun hc=>?_) (fun hc=>?_)
            · skip
              have hop:decide (¬ fl &&& 1=0)=op:=by
                rw [decide_not]
                simpa using hc
              refine wp_seq (wp_reg ?_)
              refine s_q hs (c_buildS (zc:=tdC 0 (.slice none 0 0) false) ty88 bp88 .nil trivial (by simp [flatCells,Value.cells]) rfl) rfl fun ac hs=>?_
              refine s_storeW (i:=4) hs ty88 rfl rfl rfl (by rfl) (by rfl) (by rfl) fun ww hs=>?_
              refine s_q hs (c_assign (hs.ev rfl)) rfl fun ac hs=>?_
              refine s_end (then_n (wp_ret (then_r (blk_r (then_r (then_r (blk_r (then_r ?_))))))))
              refine sc_r ?_
              refine s_ret hs rfl (.cell (hs.tmp rfl) (run_loadA ty88 ag88 (hs.seg (i:=4) rfl) rfl (by rfl)) (.tmp (hs.tmp rfl) .nil)) rfl ⟨_,rfl,hs.fr,?_⟩
              rw [hgo.trans (by rw [hst,if_neg hl1,if_neg hl2,if_pos hop])]
              rfl
            · skip
              have hop:¬ decide (¬ fl &&& 1=0)=op:=by
                rw [decide_not]
                simpa using hc
              refine wp_skip (then_n (wp_seq (wp_reg ?_)))
              refine s_q hs (c_move (hs.ev rfl)) rfl fun ac hs=>?_
              refine s_q hs (c_idxA (j:=7) un29 ty5 (hs.ev rfl) (hs.ev rfl) rfl (by decide)) rfl fun ac hs=>?_
              refine s_q hs (c_loadS un5 rfl (hs.ev rfl) (hs.seg (i:=0) rfl) (getB (by omega))) rfl fun ac hs=>?_
              refine s_q hs (c_to (c_cvBI un5 un3 (hs.ev rfl)) ((congrArg (fun n:Nat=>I (n:Int)) hm7))) rfl fun ac hs=>?_
              refine s_q hs (c_to (c_addI (hs.ev rfl) (hs.ev rfl) (by omega) (by omega)) ((congrArg I (show _=((8 + m7:Nat):Int) by omega)))) rfl fun ac hs=>?_
              refine s_q hs (c_sliceAS (i:=8) (j:=8 + m7) un29 ty5 (hs.ev rfl) (hs.ev rfl) (hs.ev rfl) rfl rfl (by omega) (by omega) (by decide)) rfl fun ac hs=>?_
              refine s_appB (i:=3) hs un38 ty5 rfl rfl rfl (RdB.midD (hs.seg (i:=0) rfl) hx64 hm50) (by simp; omega) rfl fun ac ww v82 hf hnil hs=>?_
              obtain ⟨ad82,cap82,rfl,_,_⟩:=Rd.sl (Rd.of_row (hs.get (i:=3) rfl))
              have hl3:(part++(x.drop 8).take m7).length≤50 * (k + 1):=by rw [List.length_append,List.length_take]; omega
              refine s_q hs (c_move (hs.ev rfl)) rfl fun ac hs=>?_
              refine s_q hs (c_andB (hs.ev rfl) (St.ev (v:=B 2) hs rfl)) rfl fun ac hs=>?_
              refine s_q hs (c_eqlB (hs.ev rfl) (St.ev (v:=B 0) hs rfl)) rfl fun ac hs=>?_
              refine s_q hs (c_assign (hs.ev rfl)) rfl fun ac hs=>?_
              refine s_q hs (c_assign (hs.ev rfl)) rfl fun ac hs=>?_
              refine s_end (then_n (wp_block (wp_seq (wp_reg ?_))))
              refine s_q hs (c_move (hs.ev rfl)) rfl fun ac hs=>?_
              refine s_q hs (c_assign (hs.ev rfl)) rfl fun ac hs=>?_
              refine s_end (then_n ?_)
              refine s_cond hs rfl (fun hc=>?_) (fun hc=>?_)
              · try simp only [decide_eq_true_eq,decide_eq_false_iff_not,Bool.not_eq_true',Bool.not_eq_false',Bool.and_eq_true,Bool.or_eq_true,Bool.or_eq_false_iff] at hc
                have h2:fl &&& 2=0:=hc
                have hI2:RI f h many (k + 1) ⟨G2,rv,ps,sure,.slice ad82 (part++(x.drop 8).take m7).length cap82,part++(x.drop 8).take m7,(decide (fl &&& 2=0))⟩:=⟨fun h=>absurd h (by omega),fun _=>hgo.trans (by
                  rw [show many - (k + 1)=many - k - 1 by omega,hst,if_neg hl1,if_neg hl2,if_neg hop,if_pos h2,decide_eq_true h2]),hl3,Nat.le_succ_of_le hl2b⟩
                replace hs:=hs.pick (L':=[_,_,_,_]) (.cons _ (.refl _))
                refine wp_skip (blk_n (blk_n (then_n (wp_reg ?_))))
                refine s_q hs (c_addI (hs.ev rfl) (hs.ev rfl) (by omega) (by omega)) rfl fun ac hs=>?_
                refine s_q hs (c_move (hs.ev rfl)) rfl fun ac hs=>?_
                refine s_end (then_n ?_)
                exact ⟨many - (k + 1),by omega,(k + 1,_),⟨by show k + 1≤_; omega,hI2,rfl⟩,St.next hs ⟨rfl,rfl,rfl,rfl,rfl,rfl,rfl,rfl,rfl,trivial⟩ rfl⟩
              · try simp only [decide_eq_true_eq,decide_eq_false_iff_not,Bool.not_eq_true',Bool.not_eq_false',Bool.and_eq_true,Bool.or_eq_true,Bool.or_eq_false_iff] at hc
                have h2:¬ fl &&& 2=0:=hc
                refine wp_seq (wp_reg ?_)
                refine s_q hs (c_move (hs.ev rfl)) rfl fun ac hs=>?_
                refine s_q hs (c_andB (hs.ev rfl) (St.ev (v:=B 4) hs rfl)) rfl fun ac hs=>?_
                refine s_q hs (c_neqB (hs.ev rfl) (St.ev (v:=B 0) hs rfl)) rfl fun ac hs=>?_
                refine s_q hs (c_move (hs.ev rfl)) rfl fun ac hs=>?_
                refine s_g hs rfl rfl (fun hg=>c_fld fl88_2 (hs.ev rfl)) rfl fun ac hs=>?_
                refine s_g hs rfl rfl (fun hg=>c_loadS un4 rfl (gev (hs.ev rfl) hg) (hs.seg (i:=1) rfl) rfl) rfl fun ac hs=>?_
                refine s_q hs (c_and (hs.ev rfl) (hs.ev rfl)) rfl fun ac hs=>?_
                refine s_q hs (c_assign (hs.ev rfl)) rfl fun ac hs=>?_
                refine s_end (then_n ?_)
                refine s_cond hs rfl (fun hc=>?_) (fun hc=>?_)
                · skip
                  have h48:¬ fl &&& 4=0∧sure=true:=by simpa using hc
                  refine wp_seq (wp_reg ?_)
                  refine s_q hs (c_buildS (zc:=tdC 0 (.slice none 0 0) false) ty88 bp88 .nil trivial (by simp [flatCells,Value.cells]) rfl) rfl fun ac hs=>?_
                  refine s_storeW (i:=4) hs ty88 rfl rfl rfl (by rfl) (by rfl) (by rfl) fun ww hs=>?_
                  refine s_q hs (c_assign (hs.ev rfl)) rfl fun ac hs=>?_
                  refine s_end (then_n (wp_ret (blk_r (blk_r (then_r (then_r (blk_r (then_r ?_))))))))
                  refine sc_r ?_
                  refine s_ret hs rfl (.cell (hs.tmp rfl) (run_loadA ty88 ag88 (hs.seg (i:=4) rfl) rfl (by rfl)) (.tmp (hs.tmp rfl) .nil)) rfl ⟨_,rfl,hs.fr,?_⟩
                  rw [hgo.trans (by rw [hst,if_neg hl1,if_neg hl2,if_neg hop,if_neg h2,if_pos h48.1,if_pos h48.2])]
                  rfl
                · skip
                  have h48:¬ (¬ fl &&& 4=0∧sure=true):=by
                    intro h9
                    simp [h9.1,h9.2] at hc
                  refine wp_seq (wp_reg ?_)
                  refine s_q hs (c_move (hs.ev rfl)) rfl fun ac hs=>?_
                  refine s_q hs (c_andB (hs.ev rfl) (St.ev (v:=B 4) hs rfl)) rfl fun ac hs=>?_
                  refine s_q hs (c_neqB (hs.ev rfl) (St.ev (v:=B 0) hs rfl)) rfl fun ac hs=>?_
                  refine s_q hs (c_assign (hs.ev rfl)) rfl fun ac hs=>?_
                  refine s_end (then_n ?_)
                  refine s_cond hs rfl (fun hc=>?_) (fun hc=>?_)
                  · try simp only [decide_eq_true_eq,decide_eq_false_iff_not,Bool.not_eq_true',Bool.not_eq_false',Bool.and_eq_true,Bool.or_eq_true,Bool.or_eq_false_iff] at hc
                    have h4:¬ fl &&& 4=0:=by simpa using hc
                    have hsu:¬ sure=true:=fun e=>h48 ⟨h4,e⟩
                    refine wp_reg ?_
                    refine s_q hs (c_fld fl88_2 (hs.ev rfl)) rfl fun ac hs=>?_
                    refine s_store (i:=1) hs ty4 rfl rfl rfl rfl (by rfl) (by rfl) (by simp [tdC,Value.cells]) (show _=tdC G2 rv true from rfl) fun ww hs=>?_
                    refine s_q hs (c_assign (hs.ev rfl)) rfl fun ac hs=>?_
                    refine s_end ?_
                    have hI2:RI f h many (k + 1) ⟨G2,rv,ps,true,.slice none 0 0,[],(decide (fl &&& 2=0))⟩:=⟨fun h=>absurd h (by omega),fun _=>hgo.trans (by
                      rw [show many - (k + 1)=many - k - 1 by omega,hst,if_neg hl1,if_neg hl2,if_neg hop,if_neg h2,if_pos h4,if_neg hsu,decide_eq_false h2]),Nat.zero_le _,Nat.le_succ_of_le hl2b⟩
                    replace hs:=((hs.nilrow 5 1).pick (L':=[_,_,_,_]) (.cons_cons _ (.cons _ (.cons_cons _ (.cons_cons _ (.cons _ (.refl _))))))).perm (L':=[.seg g8 (tdC (G2) (rv) (true)) 88,Ent.texts 38 (Ent.part 5) (rv) (ps),.row (.slice none 0 0) (([]:List UInt8)).length ((([]:List UInt8)).map B) 5 1,.seg g6 (tdC 0 (.slice none 0 0) false) 88]) (List.Perm.append_right [_] (List.perm_append_comm (l₁:=[_,_]) (l₂:=[_])))
                    refine blk_n (blk_n (then_n (wp_reg ?_)))
                    refine s_q hs (c_addI (hs.ev rfl) (hs.ev rfl) (by omega) (by omega)) rfl fun ac hs=>?_
                    refine s_q hs (c_move (hs.ev rfl)) rfl fun ac hs=>?_
                    refine s_end (then_n ?_)
                    exact ⟨many - (k + 1),by omega,(k + 1,_),⟨by show k + 1≤_; omega,hI2,rfl⟩,St.next hs ⟨rfl,rfl,rfl,rfl,rfl,rfl,rfl,rfl,rfl,trivial⟩ rfl⟩
                  · try simp only [decide_eq_true_eq,decide_eq_false_iff_not,Bool.not_eq_true',Bool.not_eq_false',Bool.and_eq_true,Bool.or_eq_true,Bool.or_eq_false_iff] at hc
                    have h4:¬ ¬ fl &&& 4=0:=by simpa using hc
                    refine wp_reg ?_
                    refine s_q hs (c_fld fl88_1 (hs.ev rfl)) rfl fun ac hs=>?_
                    refine s_q hs (c_loadS un51 rfl (hs.ev rfl) (hs.seg (i:=1) rfl) rfl) rfl fun ac hs=>?_
                    refine s_q hs (c_move (hs.ev rfl)) rfl fun ac hs=>?_
                    refine s_bslice hs un51 ty38 (.cons (hs.ev rfl) .nil) rfl (by simp [Value.cells]) (by decide) rfl rfl fun ac ww g89 hs=>?_
                    refine s_appT (i:=3) (j:=4) hs un51 ty38 rfl rfl rfl rfl rfl (hs.seg (i:=0) rfl) rfl (by omega) rfl fun ac ww v90 hs=>?_
                    obtain ⟨ad90,cap90,rfl,_,_⟩:=Rd.sl (texts_rd (hs.get (i:=3) rfl))
                    refine s_q hs (c_fld fl88_1 (hs.ev rfl)) rfl fun ac hs=>?_
                    refine s_store (i:=2) hs ty51 rfl rfl rfl rfl (by rfl) (by rfl) (by simp [tdC,Value.cells]) (show _=tdC G2 (.slice ad90 (ps++[(Value.slice ad82 (part++(x.drop 8).take m7).length cap82,part++(x.drop 8).take m7)]).length cap90) sure from rfl) fun ww hs=>?_
                    refine s_q hs (c_assign (hs.ev rfl)) rfl fun ac hs=>?_
                    refine s_end ?_
                    have hI2:RI f h many (k + 1) ⟨G2,.slice ad90 (ps++[(Value.slice ad82 (part++(x.drop 8).take m7).length cap82,part++(x.drop 8).take m7)]).length cap90,ps++[(Value.slice ad82 (part++(x.drop 8).take m7).length cap82,part++(x.drop 8).take m7)],sure,.slice none 0 0,[],(decide (fl &&& 2=0))⟩:=⟨fun h=>absurd h (by omega),fun _=>hgo.trans (by
                      rw [show many - (k + 1)=many - k - 1 by omega,hst,if_neg hl1,if_neg hl2,if_neg hop,if_neg h2,if_neg h4,decide_eq_false h2,List.map_append]
                      rfl),Nat.zero_le _,by show (ps++[_]).length≤_; rw [List.length_append]; exact Nat.succ_le_succ hl2b⟩
                    replace hs:=((hs.nilrow 5 1).pick (L':=[_,_,_,_]) (.cons_cons _ (.cons _ (.cons _ (.cons_cons _ (.cons_cons _ (.cons _ (.refl _)))))))).perm (L':=[.seg g8 (tdC (G2) (.slice ad90 (ps++[(Value.slice ad82 (part++(x.drop 8).take m7).length cap82,part++(x.drop 8).take m7)]).length cap90) (sure)) 88,Ent.texts 38 (Ent.part 5) (.slice ad90 (ps++[(Value.slice ad82 (part++(x.drop 8).take m7).length cap82,part++(x.drop 8).take m7)]).length cap90) (ps++[(Value.slice ad82 (part++(x.drop 8).take m7).length cap82,part++(x.drop 8).take m7)]),.row (.slice none 0 0) (([]:List UInt8)).length ((([]:List UInt8)).map B) 5 1,.seg g6 (tdC 0 (.slice none 0 0) false) 88]) (List.Perm.append_right [_] (List.perm_append_comm (l₁:=[_,_]) (l₂:=[_])))
                    refine blk_n (blk_n (then_n (wp_reg ?_)))
                    refine s_q hs (c_addI (hs.ev rfl) (hs.ev rfl) (by omega) (by omega)) rfl fun ac hs=>?_
                    refine s_q hs (c_move (hs.ev rfl)) rfl fun ac hs=>?_
                    refine s_end (then_n ?_)
                    exact ⟨many - (k + 1),by omega,(k + 1,_),⟨by show k + 1≤_; omega,hI2,rfl⟩,St.next hs ⟨rfl,rfl,rfl,rfl,rfl,rfl,rfl,rfl,rfl,trivial⟩ rfl⟩
    · try simp only [decide_eq_true_eq,decide_eq_false_iff_not,Bool.not_eq_true',Bool.not_eq_false',Bool.and_eq_true,Bool.or_eq_true,Bool.or_eq_false_iff] at hc
      have hk0:¬ k=0:=by omega
      have hgo:rdHalf f h many=(rdGo f G (many - k) k (ps.map (·.2)) sure part op).map fun r=>⟨G,r.1,r.2⟩:=hI.on hk0
      obtain ⟨G2,hGG⟩:∃ G2,G=G2:=⟨G,rfl⟩
      rw [hGG] at hs hgo
      refine wp_skip (then_n (wp_seq (wp_seq ?_)))
      have hst:=rd_pow (show ¬ many - k=0 by omega) f G2 k (ps.map (·.2)) sure part op
      rw [hx] at hst
      refine wp_reg ?_
      refine s_q hs (c_loadW ty29 rfl (hs.ev rfl) (hs.seg (i:=0) rfl) (by simp [hx64])) rfl fun ac hs=>?_
      refine s_q hs (c_fld fl88_0 (hs.ev rfl)) rfl fun ac hs=>?_
      refine s_q hs (c_loadS un53 rfl (hs.ev rfl) (hs.seg (i:=1) rfl) rfl) rfl fun ac hs=>?_
      refine s_q hs (c_move (hs.ev rfl)) rfl fun ac hs=>?_
      refine s_call hs fu51 (.cons (hs.ev rfl) (.cons (hs.ev rfl) (.cons (hs.ev rfl) .nil))) (di_look x G2 k hx64 (by omega) (by omega) _) rfl fun ac ww v62 hf hp hs=>?_
      obtain rfl:=hp
      replace hs:=hs [] (.nil _ _)
      refine s_end (then_n (wp_block (wp_seq (wp_reg ?_))))
      refine s_q hs (c_eqlI (hs.ev rfl) (hs.ev rfl)) rfl fun ac hs=>?_
      refine s_q hs (c_assign (hs.ev rfl)) rfl fun ac hs=>?_
      refine s_end (then_n ?_)
      refine s_cond hs rfl (fun hc=>?_) (fun hc=>?_)
      · try simp only [decide_eq_true_eq,decide_eq_false_iff_not,Bool.not_eq_true',Bool.not_eq_false',Bool.and_eq_true,Bool.or_eq_true,Bool.or_eq_false_iff] at hc
        have hl1:lookS x G2 k=1:=hc
        have hres:rdHalf f h many=some ⟨G2,ps.map (·.2),sure⟩:=hgo.trans (by rw [hst,if_pos hl1]; rfl)
        replace hs:=hs.pick (L':=[_,_,_,_]) (.cons _ (.refl _))
        refine wp_exit (blk_miss rfl (then_e (blk_miss rfl (then_e (then_e (blk_hit (then_n (wp_seq (wp_reg ?_)))))))))
        obtain ⟨rad,rcap,rfl,_,_⟩:=Rd.sl (texts_rd (hs.get (i:=1) rfl))
        refine s_q hs (c_loadW ty88 ag88 (hs.ev rfl) (hs.seg (i:=0) rfl) (by rfl)) rfl fun ac hs=>?_
        refine s_storeW (i:=3) hs ty88 rfl rfl rfl (by rfl) (by rfl) (by rfl) fun ww hs=>?_
        refine s_q hs (c_assign (hs.ev rfl)) rfl fun ac hs=>?_
        refine s_end ?_
        replace hs:=hs.sub (F':=[(6,_),(7,_)]) ⟨rfl,rfl,trivial⟩
        refine then_n (wp_ret ?_)
        refine sc_r ?_
        refine s_ret hs rfl (.cell (hs.tmp rfl) (run_loadA ty88 ag88 (hs.seg (i:=3) rfl) rfl (by rfl)) (.tmp (hs.tmp rfl) .nil)) rfl ⟨_,rfl,hs.fr,?_⟩
        rw [hres]
        exact ⟨_,ps,rfl,rfl,(hs.pick (L':=[_]) (.cons _ (.cons_cons _ (List.nil_sublist _)))).made⟩
      · try simp only [decide_eq_true_eq,decide_eq_false_iff_not,Bool.not_eq_true',Bool.not_eq_false',Bool.and_eq_true,Bool.or_eq_true,Bool.or_eq_false_iff] at hc
        have hl1:¬ lookS x G2 k=1:=hc
        refine wp_seq (wp_reg ?_)
        refine s_q hs (c_eqlI (hs.ev rfl) (hs.ev rfl)) rfl fun ac hs=>?_
        refine s_q hs (c_assign (hs.ev rfl)) rfl fun ac hs=>?_
        refine s_end (then_n ?_)
        refine s_cond hs rfl (fun hc=>?_) (fun hc=>?_)
        · try simp only [decide_eq_true_eq,decide_eq_false_iff_not,Bool.not_eq_true',Bool.not_eq_false',Bool.and_eq_true,Bool.or_eq_true,Bool.or_eq_false_iff] at hc
          have hl2:lookS x G2 k=2:=hc
          refine wp_seq (wp_reg ?_)
          refine s_q hs (c_buildS (zc:=tdC 0 (.slice none 0 0) false) ty88 bp88 .nil trivial (by simp [flatCells,Value.cells]) rfl) rfl fun ac hs=>?_
          refine s_storeW (i:=4) hs ty88 rfl rfl rfl (by rfl) (by rfl) (by rfl) fun ww hs=>?_
          refine s_q hs (c_assign (hs.ev rfl)) rfl fun ac hs=>?_
          refine s_end (then_n (wp_ret (blk_r (then_r (blk_r (then_r (then_r (blk_r (then_r ?_)))))))))
          refine sc_r ?_
          refine s_ret hs rfl (.cell (hs.tmp rfl) (run_loadA ty88 ag88 (hs.seg (i:=4) rfl) rfl (by rfl)) (.tmp (hs.tmp rfl) .nil)) rfl ⟨_,rfl,hs.fr,?_⟩
          rw [hgo.trans (by rw [hst,if_neg hl1,if_pos hl2])]
          rfl
        · try simp only [decide_eq_true_eq,decide_eq_false_iff_not,Bool.not_eq_true',Bool.not_eq_false',Bool.and_eq_true,Bool.or_eq_true,Bool.or_eq_false_iff] at hc
          have hl2:¬ lookS x G2 k=2:=hc
          obtain ⟨m7,hm7⟩:∃ m7,(x.getD 7 0).toNat=m7:=⟨_,rfl⟩
          have hm50:m7≤50:=hm7 ▸ look_len hl1 hl2
          obtain ⟨fl,hfl⟩:∃ fl,x.getD 6 0=fl:=⟨_,rfl⟩
          rw [hfl,hm7] at hst
          refine wp_skip (blk_n (then_n (wp_seq (wp_reg ?_))))
          refine s_q hs (c_idxA (j:=6) un29 ty5 (hs.ev rfl) (hs.ev rfl) rfl (by decide)) rfl fun ac hs=>?_
          refine s_q hs (c_to (c_loadS un5 rfl (hs.ev rfl) (hs.seg (i:=0) rfl) (getB (by omega))) ((congrArg B hfl))) rfl fun ac hs=>?_
          refine s_q hs (c_assign (hs.ev rfl)) rfl fun ac hs=>?_
          refine s_end (then_n (wp_seq (wp_seq (wp_reg ?_))))
          refine s_q hs (c_move (hs.ev rfl)) rfl fun ac hs=>?_
          refine s_q hs (c_andB (hs.ev rfl) (St.ev (v:=B 1) hs rfl)) rfl fun ac hs=>?_
          refine s_q hs (c_neqB (hs.ev rfl) (St.ev (v:=B 0) hs rfl)) rfl fun ac hs=>?_
          refine s_q hs (c_move (hs.ev rfl)) rfl fun ac hs=>?_
          refine s_q hs (c_eqlbool un4 (hs.ev rfl) (hs.ev rfl)) rfl fun ac hs=>?_
          refine s_end (then_n ?_)
          refine s_cond hs rfl (fun hc=>?_) (fun hc=>?_)
          · skip
            have hop:decide (¬ fl &&& 1=0)=op:=by
              rw [decide_not]
              simpa using hc
            refine wp_seq (wp_reg ?_)
            refine s_q hs (c_buildS (zc:=tdC 0 (.slice none 0 0) false) ty88 bp88 .nil trivial (by simp [flatCells,Value.cells]) rfl) rfl fun ac hs=>?_
            refine s_storeW (i:=4) hs ty88 rfl rfl rfl (by rfl) (by rfl) (by rfl) fun ww hs=>?_
            refine s_q hs (c_assign (hs.ev rfl)) rfl fun ac hs=>?_
            refine s_end (then_n (wp_ret (then_r (blk_r (then_r (then_r (blk_r (then_r ?_))))))))
            refine sc_r ?_
            refine s_ret hs rfl (.cell (hs.tmp rfl) (run_loadA ty88 ag88 (hs.seg (i:=4) rfl) rfl (by rfl)) (.tmp (hs.tmp rfl) .nil)) rfl ⟨_,rfl,hs.fr,?_⟩
            rw [hgo.trans (by rw [hst,if_neg hl1,if_neg hl2,if_pos hop])]
            rfl
          · skip
            have hop:¬ decide (¬ fl &&& 1=0)=op:=by
              rw [decide_not]
              simpa using hc
            refine wp_skip (then_n (wp_seq (wp_reg ?_)))
            refine s_q hs (c_move (hs.ev rfl)) rfl fun ac hs=>?_
            refine s_q hs (c_idxA (j:=7) un29 ty5 (hs.ev rfl) (hs.ev rfl) rfl (by decide)) rfl fun ac hs=>?_
            refine s_q hs (c_loadS un5 rfl (hs.ev rfl) (hs.seg (i:=0) rfl) (getB (by omega))) rfl fun ac hs=>?_
            refine s_q hs (c_to (c_cvBI un5 un3 (hs.ev rfl)) ((congrArg (fun n:Nat=>I (n:Int)) hm7))) rfl fun ac hs=>?_
            refine s_q hs (c_to (c_addI (hs.ev rfl) (hs.ev rfl) (by omega) (by omega)) ((congrArg I (show _=((8 + m7:Nat):Int) by omega)))) rfl fun ac hs=>?_
            refine s_q hs (c_sliceAS (i:=8) (j:=8 + m7) un29 ty5 (hs.ev rfl) (hs.ev rfl) (hs.ev rfl) rfl rfl (by omega) (by omega) (by decide)) rfl fun ac hs=>?_
            refine s_appB (i:=3) hs un38 ty5 rfl rfl rfl (RdB.midD (hs.seg (i:=0) rfl) hx64 hm50) (by simp; omega) rfl fun ac ww v82 hf hnil hs=>?_
            obtain ⟨ad82,cap82,rfl,_,_⟩:=Rd.sl (Rd.of_row (hs.get (i:=3) rfl))
            have hl3:(part++(x.drop 8).take m7).length≤50 * (k + 1):=by rw [List.length_append,List.length_take]; omega
            refine s_q hs (c_move (hs.ev rfl)) rfl fun ac hs=>?_
            refine s_q hs (c_andB (hs.ev rfl) (St.ev (v:=B 2) hs rfl)) rfl fun ac hs=>?_
            refine s_q hs (c_eqlB (hs.ev rfl) (St.ev (v:=B 0) hs rfl)) rfl fun ac hs=>?_
            refine s_q hs (c_assign (hs.ev rfl)) rfl fun ac hs=>?_
            refine s_q hs (c_assign (hs.ev rfl)) rfl fun ac hs=>?_
            refine s_end (then_n (wp_block (wp_seq (wp_reg ?_))))
            refine s_q hs (c_move (hs.ev rfl)) rfl fun ac hs=>?_
            refine s_q hs (c_assign (hs.ev rfl)) rfl fun ac hs=>?_
            refine s_end (then_n ?_)
            refine s_cond hs rfl (fun hc=>?_) (fun hc=>?_)
            · try simp only [decide_eq_true_eq,decide_eq_false_iff_not,Bool.not_eq_true',Bool.not_eq_false',Bool.and_eq_true,Bool.or_eq_true,Bool.or_eq_false_iff] at hc
              have h2:fl &&& 2=0:=hc
              have hI2:RI f h many (k + 1) ⟨G2,rv,ps,sure,.slice ad82 (part++(x.drop 8).take m7).length cap82,part++(x.drop 8).take m7,(decide (fl &&& 2=0))⟩:=⟨fun h=>absurd h (by omega),fun _=>hgo.trans (by
                rw [show many - (k + 1)=many - k - 1 by omega,hst,if_neg hl1,if_neg hl2,if_neg hop,if_pos h2,decide_eq_true h2]),hl3,Nat.le_succ_of_le hl2b⟩
              replace hs:=hs.pick (L':=[_,_,_,_]) (.cons _ (.refl _))
              refine wp_skip (blk_n (blk_n (then_n (wp_reg ?_))))
              refine s_q hs (c_addI (hs.ev rfl) (hs.ev rfl) (by omega) (by omega)) rfl fun ac hs=>?_
              refine s_q hs (c_move (hs.ev rfl)) rfl fun ac hs=>?_
              refine s_end (then_n ?_)
              exact ⟨many - (k + 1),by omega,(k + 1,_),⟨by show k + 1≤_; omega,hI2,rfl⟩,St.next hs ⟨rfl,rfl,rfl,rfl,rfl,rfl,rfl,rfl,rfl,trivial⟩ rfl⟩
            · try simp only [decide_eq_true_eq,decide_eq_false_iff_not,Bool.not_eq_true',Bool.not_eq_false',Bool.and_eq_true,Bool.or_eq_true,Bool.or_eq_false_iff] at hc
              have h2:¬ fl &&& 2=0:=hc
              refine wp_seq (wp_reg ?_)
              refine s_q hs (c_move (hs.ev rfl)) rfl fun ac hs=>?_
              refine s_q hs (c_andB (hs.ev rfl) (St.ev (v:=B 4) hs rfl)) rfl fun ac hs=>?_
              refine s_q hs (c_neqB (hs.ev rfl) (St.ev (v:=B 0) hs rfl)) rfl fun ac hs=>?_
              refine s_q hs (c_move (hs.ev rfl)) rfl fun ac hs=>?_
              refine s_g hs rfl rfl (fun hg=>c_fld fl88_2 (hs.ev rfl)) rfl fun ac hs=>?_
              refine s_g hs rfl rfl (fun hg=>c_loadS un4 rfl (gev (hs.ev rfl) hg) (hs.seg (i:=1) rfl) rfl) rfl fun ac hs=>?_
              refine s_q hs (c_and (hs.ev rfl) (hs.ev rfl)) rfl fun ac hs=>?_
              refine s_q hs (c_assign (hs.ev rfl)) rfl fun ac hs=>?_
              refine s_end (then_n ?_)
              refine s_cond hs rfl (fun hc=>?_) (fun hc=>?_)
              · skip
                have h48:¬ fl &&& 4=0∧sure=true:=by simpa using hc
                refine wp_seq (wp_reg ?_)
                refine s_q hs (c_buildS (zc:=tdC 0 (.slice none 0 0) false) ty88 bp88 .nil trivial (by simp [flatCells,Value.cells]) rfl) rfl fun ac hs=>?_
                refine s_storeW (i:=4) hs ty88 rfl rfl rfl (by rfl) (by rfl) (by rfl) fun ww hs=>?_
                refine s_q hs (c_assign (hs.ev rfl)) rfl fun ac hs=>?_
                refine s_end (then_n (wp_ret (blk_r (blk_r (then_r (then_r (blk_r (then_r ?_))))))))
                refine sc_r ?_
                refine s_ret hs rfl (.cell (hs.tmp rfl) (run_loadA ty88 ag88 (hs.seg (i:=4) rfl) rfl (by rfl)) (.tmp (hs.tmp rfl) .nil)) rfl ⟨_,rfl,hs.fr,?_⟩
                rw [hgo.trans (by rw [hst,if_neg hl1,if_neg hl2,if_neg hop,if_neg h2,if_pos h48.1,if_pos h48.2])]
                rfl
              · skip
                have h48:¬ (¬ fl &&& 4=0∧sure=true):=by
                  intro h9
                  simp [h9.1,h9.2] at hc
                refine wp_seq (wp_reg ?_)
                refine s_q hs (c_move (hs.ev rfl)) rfl fun ac hs=>?_
                refine s_q hs (c_andB (hs.ev rfl) (St.ev (v:=B 4) hs rfl)) rfl fun ac hs=>?_
                refine s_q hs (c_neqB (hs.ev rfl) (St.ev (v:=B 0) hs rfl)) rfl fun ac hs=>?_
                refine s_q hs (c_assign (hs.ev rfl)) rfl fun ac hs=>?_
                refine s_end (then_n ?_)
                refine s_cond hs rfl (fun hc=>?_) (fun hc=>?_)
                · try simp only [decide_eq_true_eq,decide_eq_false_iff_not,Bool.not_eq_true',Bool.not_eq_false',Bool.and_eq_true,Bool.or_eq_true,Bool.or_eq_false_iff] at hc
                  have h4:¬ fl &&& 4=0:=by simpa using hc
                  have hsu:¬ sure=true:=fun e=>h48 ⟨h4,e⟩
                  refine wp_reg ?_
                  refine s_q hs (c_fld fl88_2 (hs.ev rfl)) rfl fun ac hs=>?_
                  refine s_store (i:=1) hs ty4 rfl rfl rfl rfl (by rfl) (by rfl) (by simp [tdC,Value.cells]) (show _=tdC G2 rv true from rfl) fun ww hs=>?_
                  refine s_q hs (c_assign (hs.ev rfl)) rfl fun ac hs=>?_
                  refine s_end ?_
                  have hI2:RI f h many (k + 1) ⟨G2,rv,ps,true,.slice none 0 0,[],(decide (fl &&& 2=0))⟩:=⟨fun h=>absurd h (by omega),fun _=>hgo.trans (by
                    rw [show many - (k + 1)=many - k - 1 by omega,hst,if_neg hl1,if_neg hl2,if_neg hop,if_neg h2,if_pos h4,if_neg hsu,decide_eq_false h2]),Nat.zero_le _,Nat.le_succ_of_le hl2b⟩
                  replace hs:=((hs.nilrow 5 1).pick (L':=[_,_,_,_]) (.cons_cons _ (.cons _ (.cons_cons _ (.cons_cons _ (.cons _ (.refl _))))))).perm (L':=[.seg g8 (tdC (G2) (rv) (true)) 88,Ent.texts 38 (Ent.part 5) (rv) (ps),.row (.slice none 0 0) (([]:List UInt8)).length ((([]:List UInt8)).map B) 5 1,.seg g6 (tdC 0 (.slice none 0 0) false) 88]) (List.Perm.append_right [_] (List.perm_append_comm (l₁:=[_,_]) (l₂:=[_])))
                  refine blk_n (blk_n (then_n (wp_reg ?_)))
                  refine s_q hs (c_addI (hs.ev rfl) (hs.ev rfl) (by omega) (by omega)) rfl fun ac hs=>?_
                  refine s_q hs (c_move (hs.ev rfl)) rfl fun ac hs=>?_
                  refine s_end (then_n ?_)
                  exact ⟨many - (k + 1),by omega,(k + 1,_),⟨by show k + 1≤_; omega,hI2,rfl⟩,St.next hs ⟨rfl,rfl,rfl,rfl,rfl,rfl,rfl,rfl,rfl,trivial⟩ rfl⟩
                · try simp only [decide_eq_true_eq,decide_eq_false_iff_not,Bool.not_eq_true',Bool.not_eq_false',Bool.and_eq_true,Bool.or_eq_true,Bool.or_eq_false_iff] at hc
                  have h4:¬ ¬ fl &&& 4=0:=by simpa using hc
                  refine wp_reg ?_
                  refine s_q hs (c_fld fl88_1 (hs.ev rfl)) rfl fun ac hs=>?_
                  refine s_q hs (c_loadS un51 rfl (hs.ev rfl) (hs.seg (i:=1) rfl) rfl) rfl fun ac hs=>?_
                  refine s_q hs (c_move (hs.ev rfl)) rfl fun ac hs=>?_
                  refine s_bslice hs un51 ty38 (.cons (hs.ev rfl) .nil) rfl (by simp [Value.cells]) (by decide) rfl rfl fun ac ww g89 hs=>?_
                  refine s_appT (i:=3) (j:=4) hs un51 ty38 rfl rfl rfl rfl rfl (hs.seg (i:=0) rfl) rfl (by omega) rfl fun ac ww v90 hs=>?_
                  obtain ⟨ad90,cap90,rfl,_,_⟩:=Rd.sl (texts_rd (hs.get (i:=3) rfl))
                  refine s_q hs (c_fld fl88_1 (hs.ev rfl)) rfl fun ac hs=>?_
                  refine s_store (i:=2) hs ty51 rfl rfl rfl rfl (by rfl) (by rfl) (by simp [tdC,Value.cells]) (show _=tdC G2 (.slice ad90 (ps++[(Value.slice ad82 (part++(x.drop 8).take m7).length cap82,part++(x.drop 8).take m7)]).length cap90) sure from rfl) fun ww hs=>?_
                  refine s_q hs (c_assign (hs.ev rfl)) rfl fun ac hs=>?_
                  refine s_end ?_
                  have hI2:RI f h many (k + 1) ⟨G2,.slice ad90 (ps++[(Value.slice ad82 (part++(x.drop 8).take m7).length cap82,part++(x.drop 8).take m7)]).length cap90,ps++[(Value.slice ad82 (part++(x.drop 8).take m7).length cap82,part++(x.drop 8).take m7)],sure,.slice none 0 0,[],(decide (fl &&& 2=0))⟩:=⟨fun h=>absurd h (by omega),fun _=>hgo.trans (by
                    rw [show many - (k + 1)=many - k - 1 by omega,hst,if_neg hl1,if_neg hl2,if_neg hop,if_neg h2,if_neg h4,decide_eq_false h2,List.map_append]
                    rfl),Nat.zero_le _,by show (ps++[_]).length≤_; rw [List.length_append]; exact Nat.succ_le_succ hl2b⟩
                  replace hs:=((hs.nilrow 5 1).pick (L':=[_,_,_,_]) (.cons_cons _ (.cons _ (.cons _ (.cons_cons _ (.cons_cons _ (.cons _ (.refl _)))))))).perm (L':=[.seg g8 (tdC (G2) (.slice ad90 (ps++[(Value.slice ad82 (part++(x.drop 8).take m7).length cap82,part++(x.drop 8).take m7)]).length cap90) (sure)) 88,Ent.texts 38 (Ent.part 5) (.slice ad90 (ps++[(Value.slice ad82 (part++(x.drop 8).take m7).length cap82,part++(x.drop 8).take m7)]).length cap90) (ps++[(Value.slice ad82 (part++(x.drop 8).take m7).length cap82,part++(x.drop 8).take m7)]),.row (.slice none 0 0) (([]:List UInt8)).length ((([]:List UInt8)).map B) 5 1,.seg g6 (tdC 0 (.slice none 0 0) false) 88]) (List.Perm.append_right [_] (List.perm_append_comm (l₁:=[_,_]) (l₂:=[_])))
                  refine blk_n (blk_n (then_n (wp_reg ?_)))
                  refine s_q hs (c_addI (hs.ev rfl) (hs.ev rfl) (by omega) (by omega)) rfl fun ac hs=>?_
                  refine s_q hs (c_move (hs.ev rfl)) rfl fun ac hs=>?_
                  refine s_end (then_n ?_)
                  exact ⟨many - (k + 1),by omega,(k + 1,_),⟨by show k + 1≤_; omega,hI2,rfl⟩,St.next hs ⟨rfl,rfl,rfl,rfl,rfl,rfl,rfl,rfl,rfl,trivial⟩ rfl⟩
  · try simp only [decide_eq_true_eq,decide_eq_false_iff_not,Bool.not_eq_true',Bool.not_eq_false',Bool.and_eq_true,Bool.or_eq_true,Bool.or_eq_false_iff] at hc
    obtain rfl:k=many:=by omega
    have hres:rdHalf f h k=some ⟨G,ps.map (·.2),sure⟩:=by
      by_cases h0:k=0
      · obtain ⟨e1,e2,e3,e4,e5⟩:=hI.at0 h0
        rw [rdHalf,if_pos (.inl h0),show G=0 from e5,show ps=[] from e1,show sure=false from e2]
        rfl
      · rw [hI.on h0,Nat.sub_self]
        rfl
    obtain ⟨G2,hGG⟩:∃ G2,G=G2:=⟨G,rfl⟩
    rw [hGG] at hs hres
    refine wp_exit (then_e (then_e (blk_hit (then_n (wp_seq (wp_reg ?_))))))
    obtain ⟨rad,rcap,rfl,_,_⟩:=Rd.sl (texts_rd (hs.get (i:=1) rfl))
    refine s_q hs (c_loadW ty88 ag88 (hs.ev rfl) (hs.seg (i:=0) rfl) (by rfl)) rfl fun ac hs=>?_
    refine s_storeW (i:=3) hs ty88 rfl rfl rfl (by rfl) (by rfl) (by rfl) fun ww hs=>?_
    refine s_q hs (c_assign (hs.ev rfl)) rfl fun ac hs=>?_
    refine s_end ?_
    replace hs:=hs.sub (F':=[(6,_),(7,_)]) ⟨rfl,rfl,trivial⟩
    refine then_n (wp_ret ?_)
    refine sc_r ?_
    refine s_ret hs rfl (.cell (hs.tmp rfl) (run_loadA ty88 ag88 (hs.seg (i:=3) rfl) rfl (by rfl)) (.tmp (hs.tmp rfl) .nil)) rfl ⟨_,rfl,hs.fr,?_⟩
    rw [hres]
    exact ⟨_,ps,rfl,rfl,(hs.pick (L':=[_]) (.cons _ (.cons_cons _ (List.nil_sublist _)))).made⟩
end Go.Proofs.Ytkecdcmjkghddaa
end

section
/- The diary: Load. -/
namespace Go.Proofs.Ytkecdcmjkghddaa
open Go Go.Fw
def nextG (gen be:UInt32):UInt32:=if gen.toNat < be.toNat then be + 2 else gen + 1
def dload:Option Td→Option Td→Int × UInt32 × List (List UInt8)
  | none,_=>(31,0,[])
  | some _,none=>(31,0,[])
  | some e,some o=>if e.sure=true∧(¬ o.sure=true∨o.gen.toNat < e.gen.toNat) then (0,nextG e.gen o.gen,e.recs) else if o.sure=true then (0,nextG o.gen e.gen,o.recs) else
    if 0 < e.gen.toNat then (31,0,[]) else if 0 < o.gen.toNat then (0,o.gen + 2,[]) else (0,1,[])
def tdH (s:Sl) (h:Nat):Option Td:=rdHalf (fun k=>vis s (h * (s.n / 2) + k)) h (s.n / 2)
structure TV where
  g:UInt32
  rv:Value
  ps:List (Value × List UInt8)
  b:Bool
def TV.td (t:TV):Td:=⟨t.g,t.ps.map (·.2),t.b⟩
def TV.z:TV:=⟨0,.slice none 0 0,[],false⟩
def TV.c (t:TV):List Value:=tdC t.g t.rv t.b
def LdTo (w w':World) (v:Value) (r:Int × UInt32 × List (List UInt8)):Prop:=∃ rv ps,v=.tuple #[rv,U r.2.1,I r.1]∧ps.map (·.2)=r.2.2∧Has w.heap.size w' [Ent.texts 38 (Ent.part 5) rv ps]
theorem tv_one {E T:TypeId} {t:TV} {w:World} (h:(Ent.texts E (Ent.part T) t.rv t.ps).holds w):t.c.all (·.oneCell')=true:=by
  obtain ⟨ad,cap,e,_⟩:=Rd.sl (texts_rd h)
  simp [TV.c,tdC,e,Value.oneCell',U]
theorem LdTo.nil {N:Nat} {F:List (Nat × Value)} {L:List Ent} {w0 w:World} {a:Act} {v:Value} {e:Int} {g:UInt32} (hs:St N F L (fun _=>False) w0 a w) (hv:v=.tuple #[.slice none 0 0,U g,I e]):LdTo w0 w v (e,g,[]) :=
  ⟨.slice none 0 0,[],hv,rfl,((hs.texts0 38 (Ent.part 5)).pick (L':=[_]) (.cons_cons _ (List.nil_sublist _))).made⟩
structure LI (s:Sl) (k:Nat) (c0 c1:TV):Prop where
  a0:1≤k→tdH s 0=some c0.td
  a1:2≤k→tdH s 1=some c1.td
theorem di_Load (g sb:Nat) (qv:Value) (s:Sl) (hok:s.Ok) (hup:s.down=false) (h2:2≤s.n) (w:World) (hR:SlR w g sb qv s):Ctr Try.prog 30 [.pointer (some ⟨g,0,none⟩)] w (fun _=>False) (fun v w'=>LdTo w w' v (dload (tdH s 0) (tdH s 1))):=by
  have hn1:=hok.n1
  have hh0:half s.n 0=0 * (s.n / 2):=rfl
  have hh1:half s.n 1=1 * (s.n / 2):=rfl
  refine fn_start (N:=90) Try.func30 rfl rfl rfl fun ac hk=>?_
  have hs:=St.start hk w
  refine wp_seq (wp_reg ?_)
  refine s_q hs (c_assign (hs.ev rfl)) rfl fun ac hs=>?_
  refine s_q hs (c_assign (St.ev (v:=U 0) hs rfl)) rfl fun ac hs=>?_
  refine s_q hs (c_assign (hs.ev rfl)) rfl fun ac hs=>?_
  refine s_end (then_n (wp_seq (wp_block (wp_seq (wp_reg ?_)))))
  refine s_q hs (c_move (hs.ev rfl)) rfl fun ac hs=>?_
  refine s_q hs (c_eqlNil un23 (hs.ev rfl) (hs.ev rfl)) rfl fun ac hs=>?_
  refine s_q hs (c_assign (hs.ev rfl)) rfl fun ac hs=>?_
  refine s_end ?_
  replace hs:=hs.sub (F':=[(0,_),(2,_),(3,_),(4,_),(13,_)]) ⟨rfl,rfl,rfl,rfl,rfl,trivial⟩
  refine then_n ?_
  refine wp_cond_false (hs.ev rfl) ?_
  refine wp_seq (wp_reg ?_)
  refine s_q hs (c_move (hs.ev rfl)) rfl fun ac hs=>?_
  refine s_call hs fu20 (.cons (hs.ev rfl) .nil) (sl_Sectors g sb qv s _ (hR.fr0 hs.fr)) rfl fun ac ww v18 hf hp hs=>?_
  obtain rfl:=hp
  replace hs:=hs [] (.nil _ _)
  refine s_q hs (c_ff (c_lssI (hs.ev rfl) (hs.ev rfl)) ((by simp; omega))) rfl fun ac hs=>?_
  refine s_q hs (c_assign (hs.ev rfl)) rfl fun ac hs=>?_
  refine s_end ?_
  replace hs:=hs.sub (F':=[(0,_),(2,_),(3,_),(4,_),(16,_)]) ⟨rfl,rfl,rfl,rfl,rfl,trivial⟩
  refine then_n ?_
  refine wp_cond_false (hs.ev rfl) ?_
  refine wp_skip (blk_n (then_n (wp_seq (wp_reg ?_))))
  refine s_alloc hs ty89 rfl fun ac ww g5 hs=>?_
  refine s_end ?_
  replace hs:=((hs.texts0 38 (Ent.part 5)).texts0 38 (Ent.part 5))
  replace hs:=hs.sub (F':=[(0,_),(2,_),(3,_),(4,_),(5,_)]) ⟨rfl,rfl,rfl,rfl,rfl,trivial⟩
  refine then_n (wp_seq (wp_seq (wp_reg ?_)))
  refine s_q hs (c_move (St.ev (v:=U 0) hs rfl)) rfl fun ac hs=>?_
  refine s_end (then_n (wp_block ?_))
  refine s_loop hs (X:=Nat × TV × TV) (fun z=>[(20,U (UInt32.ofNat z.1))]) [(0,_),(5,_)] (fun z=>[Ent.texts 38 (Ent.part 5) (z.2.2).rv (z.2.2).ps,Ent.texts 38 (Ent.part 5) (z.2.1).rv (z.2.1).ps,.seg g5 ((z.2.1).c++(z.2.2).c) 89]) (fun n z=>z.1≤2∧LI s z.1 z.2.1 z.2.2∧n=2 - z.1) (_) ((0,TV.z,TV.z)) (⟨Nat.zero_le _,⟨fun h=>absurd h (by decide),fun h=>absurd h (by decide)⟩,rfl⟩) ⟨rfl,rfl,rfl,trivial⟩ rfl ?_
  rintro n ⟨k,c0,c1⟩ ac ww hok2 hs
  simp only [List.cons_append,List.nil_append] at hs
  obtain ⟨hk,hI,rfl⟩:=hok2
  replace hk:k≤2:=hk
  replace hI:LI s k c0 c1:=hI
  refine wp_seq (wp_reg ?_)
  refine s_q hs (c_lssU (hs.ev rfl) (St.ev (v:=U 2) hs rfl)) rfl fun ac hs=>?_
  refine s_end (then_n (wp_seq ?_))
  refine s_cond hs rfl (fun hc=>?_) (fun hc=>?_)
  · skip
    have hk2:k < 2:=by
      have h9:(UInt32.ofNat k).toNat=k:=by rw [UInt32.toNat_ofNat']; omega
      simp only [decide_eq_true_eq] at hc
      rw [h9] at hc
      exact hc
    refine wp_skip (then_n (wp_seq (wp_block (wp_seq (wp_reg ?_)))))
    rcases (show k=0∨k=1 by omega) with rfl | rfl
    · refine s_q hs (c_move (hs.ev rfl)) rfl fun ac hs=>?_
      refine s_q hs (c_assign (hs.ev rfl)) rfl fun ac hs=>?_
      refine s_end (then_n (wp_seq (wp_reg ?_)))
      refine s_q hs (c_move (hs.ev rfl)) rfl fun ac hs=>?_
      refine s_q hs (c_move (hs.ev rfl)) rfl fun ac hs=>?_
      refine s_call hs fu44 (.cons (hs.ev rfl) (.cons (hs.ev rfl) .nil)) (di_half g sb qv s 0 hn1 _ (hR.fr0 hs.fr)) rfl fun ac ww v26 hf hp hs=>?_
      obtain rfl:=hp
      replace hs:=hs [] (.nil _ _)
      refine s_q hs (c_move (hs.ev rfl)) rfl fun ac hs=>?_
      refine s_q hs (c_extract (hs.ev rfl) rfl) rfl fun ac hs=>?_
      refine s_q hs (c_extract (hs.ev rfl) rfl) rfl fun ac hs=>?_
      refine s_q hs (c_assign (hs.ev rfl)) rfl fun ac hs=>?_
      refine s_q hs (c_assign (hs.ev rfl)) rfl fun ac hs=>?_
      refine s_end (then_n (wp_seq (wp_reg ?_)))
      rcases hr:tdH s 0 with _ | td
      · refine s_q hs (c_move (hs.ev rfl)) rfl fun ac hs=>?_
        refine s_q hs (c_move (hs.ev rfl)) rfl fun ac hs=>?_
        refine s_q hs (c_move (hs.ev rfl)) rfl fun ac hs=>?_
        refine s_call hs fu45 (.cons (hs.ev rfl) (.cons (hs.ev rfl) (.cons (hs.ev rfl) .nil))) (di_read g sb qv s (half s.n 0) (s.n / 2) 0 (fun i=>vis s (0 * (s.n / 2) + i)) hok hup (by rw [hh0]; omega) (by rw [hh0]; intro h9; first | exact Nat.zero_div _ | (rw [Nat.one_mul]; exact Nat.div_self h9) | (rw [Nat.zero_mul]; exact Nat.zero_div _)) (fun i=>by rw [hh0]) _ (hR.fr0 hs.fr)) rfl fun ac ww v33 hf hp hs=>?_
        rw [show rdHalf _ 0 (s.n / 2)=tdH s 0 from rfl,hr] at hp
        replace hp:v33=.tuple #[.agg (tdC 0 (.slice none 0 0) false).toArray,I 31]:=hp
        obtain rfl:=hp
        replace hs:=hs [] (.nil _ _)
        refine s_q hs (c_move (hs.ev rfl)) rfl fun ac hs=>?_
        refine s_q hs (c_extract (hs.ev rfl) rfl) rfl fun ac hs=>?_
        refine s_q hs (c_extract (hs.ev rfl) rfl) rfl fun ac hs=>?_
        refine s_alloc hs ty88 rfl fun ac ww g9 hs=>?_
        refine s_storeW (i:=0) hs ty88 rfl rfl rfl (by rfl) (by rfl) (by rfl) fun ww hs=>?_
        refine s_q hs (c_assign (hs.ev rfl)) rfl fun ac hs=>?_
        refine s_end (then_n (wp_seq (wp_seq (wp_reg ?_))))
        refine s_q hs (c_move (hs.ev rfl)) rfl fun ac hs=>?_
        refine s_q hs (c_neqI (hs.ev rfl) (hs.ev rfl)) rfl fun ac hs=>?_
        refine s_end (then_n ?_)
        refine wp_cond_true (hs.ev rfl) ?_
        refine wp_seq (wp_reg ?_)
        refine s_q hs (c_move (hs.ev rfl)) rfl fun ac hs=>?_
        refine s_q hs (c_assign (hs.ev rfl)) rfl fun ac hs=>?_
        refine s_q hs (c_assign (St.ev (v:=U 0) hs rfl)) rfl fun ac hs=>?_
        refine s_q hs (c_assign (hs.ev rfl)) rfl fun ac hs=>?_
        refine s_end (then_n (wp_ret (then_r (blk_r (then_r (then_r (blk_r (then_r ?_))))))))
        refine s_ret hs rfl (.tmp (hs.tmp rfl) (.tmp (hs.tmp rfl) (.tmp (hs.tmp rfl) .nil))) rfl ⟨_,rfl,hs.fr,?_⟩
        exact LdTo.nil hs rfl
      · refine s_q hs (c_move (hs.ev rfl)) rfl fun ac hs=>?_
        refine s_q hs (c_move (hs.ev rfl)) rfl fun ac hs=>?_
        refine s_q hs (c_move (hs.ev rfl)) rfl fun ac hs=>?_
        refine s_call hs fu45 (.cons (hs.ev rfl) (.cons (hs.ev rfl) (.cons (hs.ev rfl) .nil))) (di_read g sb qv s (half s.n 0) (s.n / 2) 0 (fun i=>vis s (0 * (s.n / 2) + i)) hok hup (by rw [hh0]; omega) (by rw [hh0]; intro h9; first | exact Nat.zero_div _ | (rw [Nat.one_mul]; exact Nat.div_self h9) | (rw [Nat.zero_mul]; exact Nat.zero_div _)) (fun i=>by rw [hh0]) _ (hR.fr0 hs.fr)) rfl fun ac ww v33 hf hp hs=>?_
        rw [show rdHalf _ 0 (s.n / 2)=tdH s 0 from rfl,hr] at hp
        obtain ⟨rv,ps,rfl,hps,hh⟩:=hp
        replace hs:=hs _ hh
        refine s_q hs (c_move (hs.ev rfl)) rfl fun ac hs=>?_
        refine s_q hs (c_extract (hs.ev rfl) rfl) rfl fun ac hs=>?_
        refine s_q hs (c_extract (hs.ev rfl) rfl) rfl fun ac hs=>?_
        refine s_alloc hs ty88 rfl fun ac ww g9 hs=>?_
        refine s_storeW (i:=0) hs ty88 rfl rfl rfl (by rfl) (tv_one (t:=(TV.mk td.gen rv ps td.sure)) (hs.get (i:=1) rfl)) (by rfl) fun ww hs=>?_
        refine s_q hs (c_assign (hs.ev rfl)) rfl fun ac hs=>?_
        refine s_end (then_n (wp_seq (wp_seq (wp_reg ?_))))
        refine s_q hs (c_move (hs.ev rfl)) rfl fun ac hs=>?_
        refine s_q hs (c_neqI (hs.ev rfl) (hs.ev rfl)) rfl fun ac hs=>?_
        refine s_end (then_n ?_)
        refine wp_cond_false (hs.ev rfl) ?_
        refine wp_skip (then_n (wp_reg ?_))
        refine s_q hs (c_move (hs.ev rfl)) rfl fun ac hs=>?_
        refine s_q hs (c_loadW ty88 ag88 (hs.ev rfl) (hs.seg (i:=0) rfl) (by rfl)) rfl fun ac hs=>?_
        refine s_q hs (c_idxA (j:=0) un89 ty88 (hs.ev rfl) (hs.ev rfl) rfl (by omega)) rfl fun ac hs=>?_
        refine s_store (i:=4) hs ty88 rfl rfl rfl rfl (by rfl) (tv_one (t:=(TV.mk td.gen rv ps td.sure)) (hs.get (i:=1) rfl)) (by simp [TV.c,tdC]) (show _=TV.c (TV.mk td.gen rv ps td.sure)++TV.c c1 from rfl) fun ww hs=>?_
        refine s_end ?_
        have hI2:LI s (0 + 1) (TV.mk td.gen rv ps td.sure) c1:=⟨fun _=>by rw [hr,TV.td]; simp only; rw [hps],fun h=>absurd h (by decide)⟩
        replace hs:=(hs.pick (L':=[_,_,_]) (.cons _ (.cons_cons _ (.cons_cons _ (.cons _ (.refl _)))))).perm (L':=[Ent.texts 38 (Ent.part 5) (c1).rv (c1).ps,Ent.texts 38 (Ent.part 5) ((TV.mk td.gen rv ps td.sure)).rv ((TV.mk td.gen rv ps td.sure)).ps,.seg g5 (((TV.mk td.gen rv ps td.sure)).c++(c1).c) 89]) (.swap _ _ _)
        refine blk_n (then_n (wp_reg ?_))
        refine s_q hs (c_addU (hs.ev rfl) (St.ev (v:=U 1) hs rfl)) rfl fun ac hs=>?_
        refine s_q hs (c_move (hs.ev rfl)) rfl fun ac hs=>?_
        refine s_end (then_n ?_)
        exact ⟨2 - (_ + 1),of_decide_eq_true rfl,(_ + 1,_,_),⟨of_decide_eq_true rfl,hI2,rfl⟩,St.next hs ⟨rfl,rfl,rfl,trivial⟩ rfl⟩
    · refine s_q hs (c_move (hs.ev rfl)) rfl fun ac hs=>?_
      refine s_q hs (c_assign (hs.ev rfl)) rfl fun ac hs=>?_
      refine s_end (then_n (wp_seq (wp_reg ?_)))
      refine s_q hs (c_move (hs.ev rfl)) rfl fun ac hs=>?_
      refine s_q hs (c_move (hs.ev rfl)) rfl fun ac hs=>?_
      refine s_call hs fu44 (.cons (hs.ev rfl) (.cons (hs.ev rfl) .nil)) (di_half g sb qv s 1 hn1 _ (hR.fr0 hs.fr)) rfl fun ac ww v26 hf hp hs=>?_
      obtain rfl:=hp
      replace hs:=hs [] (.nil _ _)
      refine s_q hs (c_move (hs.ev rfl)) rfl fun ac hs=>?_
      refine s_q hs (c_extract (hs.ev rfl) rfl) rfl fun ac hs=>?_
      refine s_q hs (c_extract (hs.ev rfl) rfl) rfl fun ac hs=>?_
      refine s_q hs (c_assign (hs.ev rfl)) rfl fun ac hs=>?_
      refine s_q hs (c_assign (hs.ev rfl)) rfl fun ac hs=>?_
      refine s_end (then_n (wp_seq (wp_reg ?_)))
      rcases hr:tdH s 1 with _ | td
      · refine s_q hs (c_move (hs.ev rfl)) rfl fun ac hs=>?_
        refine s_q hs (c_move (hs.ev rfl)) rfl fun ac hs=>?_
        refine s_q hs (c_move (hs.ev rfl)) rfl fun ac hs=>?_
        refine s_call hs fu45 (.cons (hs.ev rfl) (.cons (hs.ev rfl) (.cons (hs.ev rfl) .nil))) (di_read g sb qv s (half s.n 1) (s.n / 2) 1 (fun i=>vis s (1 * (s.n / 2) + i)) hok hup (by rw [hh1]; omega) (by rw [hh1]; intro h9; first | exact Nat.zero_div _ | (rw [Nat.one_mul]; exact Nat.div_self h9) | (rw [Nat.zero_mul]; exact Nat.zero_div _)) (fun i=>by rw [hh1]) _ (hR.fr0 hs.fr)) rfl fun ac ww v33 hf hp hs=>?_
        rw [show rdHalf _ 1 (s.n / 2)=tdH s 1 from rfl,hr] at hp
        replace hp:v33=.tuple #[.agg (tdC 0 (.slice none 0 0) false).toArray,I 31]:=hp
        obtain rfl:=hp
        replace hs:=hs [] (.nil _ _)
        refine s_q hs (c_move (hs.ev rfl)) rfl fun ac hs=>?_
        refine s_q hs (c_extract (hs.ev rfl) rfl) rfl fun ac hs=>?_
        refine s_q hs (c_extract (hs.ev rfl) rfl) rfl fun ac hs=>?_
        refine s_alloc hs ty88 rfl fun ac ww g9 hs=>?_
        refine s_storeW (i:=0) hs ty88 rfl rfl rfl (by rfl) (by rfl) (by rfl) fun ww hs=>?_
        refine s_q hs (c_assign (hs.ev rfl)) rfl fun ac hs=>?_
        refine s_end (then_n (wp_seq (wp_seq (wp_reg ?_))))
        refine s_q hs (c_move (hs.ev rfl)) rfl fun ac hs=>?_
        refine s_q hs (c_neqI (hs.ev rfl) (hs.ev rfl)) rfl fun ac hs=>?_
        refine s_end (then_n ?_)
        refine wp_cond_true (hs.ev rfl) ?_
        refine wp_seq (wp_reg ?_)
        refine s_q hs (c_move (hs.ev rfl)) rfl fun ac hs=>?_
        refine s_q hs (c_assign (hs.ev rfl)) rfl fun ac hs=>?_
        refine s_q hs (c_assign (St.ev (v:=U 0) hs rfl)) rfl fun ac hs=>?_
        refine s_q hs (c_assign (hs.ev rfl)) rfl fun ac hs=>?_
        refine s_end (then_n (wp_ret (then_r (blk_r (then_r (then_r (blk_r (then_r ?_))))))))
        refine s_ret hs rfl (.tmp (hs.tmp rfl) (.tmp (hs.tmp rfl) (.tmp (hs.tmp rfl) .nil))) rfl ⟨_,rfl,hs.fr,?_⟩
        rw [hI.a0 (by decide)]
        exact LdTo.nil hs rfl
      · refine s_q hs (c_move (hs.ev rfl)) rfl fun ac hs=>?_
        refine s_q hs (c_move (hs.ev rfl)) rfl fun ac hs=>?_
        refine s_q hs (c_move (hs.ev rfl)) rfl fun ac hs=>?_
        refine s_call hs fu45 (.cons (hs.ev rfl) (.cons (hs.ev rfl) (.cons (hs.ev rfl) .nil))) (di_read g sb qv s (half s.n 1) (s.n / 2) 1 (fun i=>vis s (1 * (s.n / 2) + i)) hok hup (by rw [hh1]; omega) (by rw [hh1]; intro h9; first | exact Nat.zero_div _ | (rw [Nat.one_mul]; exact Nat.div_self h9) | (rw [Nat.zero_mul]; exact Nat.zero_div _)) (fun i=>by rw [hh1]) _ (hR.fr0 hs.fr)) rfl fun ac ww v33 hf hp hs=>?_
        rw [show rdHalf _ 1 (s.n / 2)=tdH s 1 from rfl,hr] at hp
        obtain ⟨rv,ps,rfl,hps,hh⟩:=hp
        replace hs:=hs _ hh
        refine s_q hs (c_move (hs.ev rfl)) rfl fun ac hs=>?_
        refine s_q hs (c_extract (hs.ev rfl) rfl) rfl fun ac hs=>?_
        refine s_q hs (c_extract (hs.ev rfl) rfl) rfl fun ac hs=>?_
        refine s_alloc hs ty88 rfl fun ac ww g9 hs=>?_
        refine s_storeW (i:=0) hs ty88 rfl rfl rfl (by rfl) (tv_one (t:=(TV.mk td.gen rv ps td.sure)) (hs.get (i:=1) rfl)) (by rfl) fun ww hs=>?_
        refine s_q hs (c_assign (hs.ev rfl)) rfl fun ac hs=>?_
        refine s_end (then_n (wp_seq (wp_seq (wp_reg ?_))))
        refine s_q hs (c_move (hs.ev rfl)) rfl fun ac hs=>?_
        refine s_q hs (c_neqI (hs.ev rfl) (hs.ev rfl)) rfl fun ac hs=>?_
        refine s_end (then_n ?_)
        refine wp_cond_false (hs.ev rfl) ?_
        refine wp_skip (then_n (wp_reg ?_))
        refine s_q hs (c_move (hs.ev rfl)) rfl fun ac hs=>?_
        refine s_q hs (c_loadW ty88 ag88 (hs.ev rfl) (hs.seg (i:=0) rfl) (by rfl)) rfl fun ac hs=>?_
        refine s_q hs (c_idxA (j:=1) un89 ty88 (hs.ev rfl) (hs.ev rfl) rfl (by omega)) rfl fun ac hs=>?_
        refine s_store (i:=4) hs ty88 rfl rfl rfl rfl (by rfl) (tv_one (t:=(TV.mk td.gen rv ps td.sure)) (hs.get (i:=1) rfl)) (by simp [TV.c,tdC]) (show _=TV.c c0++TV.c (TV.mk td.gen rv ps td.sure) from rfl) fun ww hs=>?_
        refine s_end ?_
        have hI2:LI s (1 + 1) c0 (TV.mk td.gen rv ps td.sure):=⟨fun _=>hI.a0 (by decide),fun h=>by rw [hr,TV.td]; simp only; rw [hps]⟩
        replace hs:=(hs.pick (L':=[Ent.texts 38 (Ent.part 5) ((TV.mk td.gen rv ps td.sure)).rv ((TV.mk td.gen rv ps td.sure)).ps,Ent.texts 38 (Ent.part 5) (c0).rv (c0).ps,.seg g5 ((c0).c++((TV.mk td.gen rv ps td.sure)).c) 89]) (.cons _ (.cons_cons _ (.cons _ (.refl _)))))
        refine blk_n (then_n (wp_reg ?_))
        refine s_q hs (c_addU (hs.ev rfl) (St.ev (v:=U 1) hs rfl)) rfl fun ac hs=>?_
        refine s_q hs (c_move (hs.ev rfl)) rfl fun ac hs=>?_
        refine s_end (then_n ?_)
        exact ⟨2 - (_ + 1),of_decide_eq_true rfl,(_ + 1,_,_),⟨of_decide_eq_true rfl,hI2,rfl⟩,St.next hs ⟨rfl,rfl,rfl,trivial⟩ rfl⟩
  · skip
    obtain rfl:k=2:=by
      have h9:(UInt32.ofNat k).toNat=k:=by rw [UInt32.toNat_ofNat']; omega
      simp only [decide_eq_false_iff_not] at hc
      rw [h9] at hc
      have:¬ k < 2:=hc
      omega
    rw [hI.a0 (by decide),hI.a1 (by decide)]
    refine wp_exit (then_e (then_e (blk_hit (then_n (wp_seq ?_)))))
    refine wp_region_rgXK (J:=[2,3]) pmix 6 1 (by kernel_rfl) (by kernel_rfl) rfl hs ?_
    simp only [List.take_succ_cons,List.take_zero]
    refine rg_q (fun ac ww h=>c_idxA un89 ty88 (h.ev rfl) (h.ev rfl) rfl (by decide)) rfl ?_
    refine rg_q (fun ac ww h=>c_loadA ty88 ag88 (h.ev rfl) (h.blk (hs.seg (i:=2) rfl)) (show _=c0.c from rfl) (by rfl)) rfl ?_
    refine rg_q (fun ac ww h=>c_idxA un89 ty88 (h.ev rfl) (h.ev rfl) rfl (by decide)) rfl ?_
    refine rg_q (fun ac ww h=>c_loadA ty88 ag88 (h.ev rfl) (h.blk (hs.seg (i:=2) rfl)) (show _=c1.c from rfl) (by rfl)) rfl ?_
    refine rg_alloc ty88 rfl ?_
    refine rg_alloc ty88 rfl ?_
    refine rg_nil fun ac ww L' hf hfe hs hlk=>?_
    simp only [List.drop_succ_cons,List.drop_zero]
    obtain ⟨v12,L12,M12,h12,e12,⟨v11,L11,M11,h11,e11,rfl,rfl⟩,rfl⟩:=hfe
    replace hs:=hs.add h12
    replace hs:=hs.add h11
    obtain ⟨g12,rfl,rfl⟩:=e12
    obtain ⟨g11,rfl,rfl⟩:=e11
    refine sf_storeW (i:=1) hs ty88 rfl rfl rfl (by rfl) (tv_one (hs.get (i:=3) rfl)) (by rfl) (fun ww hs=>late_read rfl rfl (hs.know.at_ 45 _ rfl) (c_idxA un89 ty88 (hs.ev rfl) (hs.ev rfl) rfl (by decide)) (late_read rfl rfl (hs.know.at_ 46 _ rfl) (c_loadA ty88 ag88 (hs.ev rfl) (hs.seg (i:=4) rfl) (show _=c1.c from rfl) (by rfl)) (late_nil))) fun ww hs=>?_
    refine sf_storeW (i:=0) hs ty88 rfl rfl rfl (by rfl) (tv_one (hs.get (i:=2) rfl)) (by rfl) (fun ww hs=>late_read rfl rfl (hs.know.at_ 45 _ rfl) (c_idxA un89 ty88 (hs.ev rfl) (hs.ev rfl) rfl (by decide)) (late_read rfl rfl (hs.know.at_ 46 _ rfl) (c_loadA ty88 ag88 (hs.ev rfl) (hs.seg (i:=4) rfl) (show _=c1.c from rfl) (by rfl)) (late_nil))) fun ww hs=>?_
    refine s_end ?_
    replace hs:=hs.sub (F':=[(11,_),(12,_)]) ⟨rfl,rfl,trivial⟩
    refine then_n (wp_seq (wp_block (wp_seq (wp_reg ?_))))
    refine s_q hs (c_fld fl88_2 (hs.ev rfl)) rfl fun ac hs=>?_
    refine s_q hs (c_loadS un4 rfl (hs.ev rfl) (hs.seg (i:=1) rfl) rfl) rfl fun ac hs=>?_
    refine s_q hs (c_move (hs.ev rfl)) rfl fun ac hs=>?_
    refine s_g hs rfl rfl (fun hg=>c_fld fl88_2 (hs.ev rfl)) rfl fun ac hs=>?_
    refine s_g hs rfl rfl (fun hg=>c_loadS un4 rfl (gev (hs.ev rfl) hg) (hs.seg (i:=0) rfl) rfl) rfl fun ac hs=>?_
    refine s_g hs rfl rfl (fun hg=>c_not (gev (hs.ev rfl) hg)) rfl fun ac hs=>?_
    refine s_g hs rfl rfl (fun hg=>c_move (gev (hs.ev rfl) hg)) rfl fun ac hs=>?_
    refine s_gn hs rfl rfl (fun hc hg=>c_fld fl88_0 (hs.ev rfl)) rfl fun ac hs=>?_
    refine s_gn hs rfl rfl (fun hc hg=>c_loadS un53 rfl (gev (gev (hs.ev rfl) hc) hg) (hs.seg (i:=1) rfl) rfl) rfl fun ac hs=>?_
    refine s_gn hs rfl rfl (fun hc hg=>c_fld fl88_0 (hs.ev rfl)) rfl fun ac hs=>?_
    refine s_gn hs rfl rfl (fun hc hg=>c_loadS un53 rfl (gev (gev (hs.ev rfl) hc) hg) (hs.seg (i:=0) rfl) rfl) rfl fun ac hs=>?_
    refine s_gn hs rfl rfl (fun hc hg=>c_gtrU (gev (gev (hs.ev rfl) hc) hg) (gev (gev (hs.ev rfl) hc) hg)) rfl fun ac hs=>?_
    refine s_g hs rfl rfl (fun hg=>c_or (gev (hs.ev rfl) hg) (gev (hs.ev rfl) hg)) rfl fun ac hs=>?_
    refine s_q hs (c_and (hs.ev rfl) (hs.ev rfl)) rfl fun ac hs=>?_
    refine s_q hs (c_assign (hs.ev rfl)) rfl fun ac hs=>?_
    refine s_end ?_
    replace hs:=hs.sub (F':=[(11,_),(12,_),(47,_)]) ⟨rfl,rfl,rfl,trivial⟩
    refine then_n ?_
    refine s_cond hs rfl (fun hc=>?_) (fun hc=>?_)
    · skip
      have h4:c0.b=true∧(¬ c1.b=true∨c1.g.toNat < c0.g.toNat):=by
        revert hc
        cases c0.b <;> cases c1.b <;> simp
      refine wp_seq ?_
      refine wp_region_rg pmix 10 (by kernel_rfl) rfl hs ?_
      simp only [List.take_succ_cons,List.take_zero]
      refine rg_q (fun ac ww h=>c_fld fl88_1 (h.ev rfl)) rfl ?_
      refine rg_q (fun ac ww h=>c_loadS un51 rfl (h.ev rfl) (h.blk (hs.seg (i:=1) rfl)) rfl) rfl ?_
      refine rg_q (fun ac ww h=>c_fld fl88_0 (h.ev rfl)) rfl ?_
      refine rg_q (fun ac ww h=>c_loadS un53 rfl (h.ev rfl) (h.blk (hs.seg (i:=1) rfl)) rfl) rfl ?_
      refine rg_q (fun ac ww h=>c_fld fl88_0 (h.ev rfl)) rfl ?_
      refine rg_q (fun ac ww h=>c_loadS un53 rfl (h.ev rfl) (h.blk (hs.seg (i:=0) rfl)) rfl) rfl ?_
      refine rg_call fu46 (fun ac ww h=>(.cons (h.ev rfl) (.cons (h.ev rfl) .nil))) (fun ww hf=>di_next c0.g c1.g _) rfl ?_
      refine rg_q (fun ac ww h=>c_assign (h.ev rfl)) rfl ?_
      refine rg_q (fun ac ww h=>c_assign (h.ev rfl)) rfl ?_
      refine rg_q (fun ac ww h=>c_assign (h.ev rfl)) rfl ?_
      refine rg_nil fun ac ww L' hf hfe hs=>?_
      simp only [List.drop_succ_cons,List.drop_zero]
      obtain rfl:L'=[]:=hfe
      replace hs:=hs.toL (List.nil_append _)
      refine s_end ?_
      replace hs:=hs.sub (F':=[(2,_),(3,_),(4,_),(11,_),(12,_)]) ⟨rfl,rfl,rfl,rfl,rfl,trivial⟩
      refine then_n (wp_ret (blk_r (then_r ?_)))
      refine s_ret hs rfl (.tmp (hs.tmp rfl) (.tmp (hs.tmp rfl) (.tmp (hs.tmp rfl) .nil))) rfl ⟨_,rfl,hs.fr,?_⟩
      rw [show dload (some c0.td) (some c1.td)=(0,nextG c0.g c1.g,c0.td.recs) from if_pos h4]
      exact ⟨c0.rv,c0.ps,rfl,rfl,(hs.pick (L':=[_]) (.cons _ (.cons _ (.cons _ (.cons_cons _ (List.nil_sublist _)))))).made⟩
    · skip
      have h4:¬ (c0.b=true∧(¬ c1.b=true∨c1.g.toNat < c0.g.toNat)):=by
        revert hc
        cases c0.b <;> cases c1.b <;> simp
      refine wp_seq (wp_reg ?_)
      refine s_q hs (c_fld fl88_2 (hs.ev rfl)) rfl fun ac hs=>?_
      refine s_q hs (c_loadS un4 rfl (hs.ev rfl) (hs.seg (i:=0) rfl) rfl) rfl fun ac hs=>?_
      refine s_q hs (c_assign (hs.ev rfl)) rfl fun ac hs=>?_
      refine s_end ?_
      replace hs:=hs.sub (F':=[(11,_),(12,_),(69,_)]) ⟨rfl,rfl,rfl,trivial⟩
      refine then_n ?_
      refine s_cond hs rfl (fun hc=>?_) (fun hc=>?_)
      · have h5:c1.b=true:=hc
        refine wp_seq ?_
        refine wp_region_rg pmix 10 (by kernel_rfl) rfl hs ?_
        simp only [List.take_succ_cons,List.take_zero]
        refine rg_q (fun ac ww h=>c_fld fl88_1 (h.ev rfl)) rfl ?_
        refine rg_q (fun ac ww h=>c_loadS un51 rfl (h.ev rfl) (h.blk (hs.seg (i:=0) rfl)) rfl) rfl ?_
        refine rg_q (fun ac ww h=>c_fld fl88_0 (h.ev rfl)) rfl ?_
        refine rg_q (fun ac ww h=>c_loadS un53 rfl (h.ev rfl) (h.blk (hs.seg (i:=0) rfl)) rfl) rfl ?_
        refine rg_q (fun ac ww h=>c_fld fl88_0 (h.ev rfl)) rfl ?_
        refine rg_q (fun ac ww h=>c_loadS un53 rfl (h.ev rfl) (h.blk (hs.seg (i:=1) rfl)) rfl) rfl ?_
        refine rg_call fu46 (fun ac ww h=>(.cons (h.ev rfl) (.cons (h.ev rfl) .nil))) (fun ww hf=>di_next c1.g c0.g _) rfl ?_
        refine rg_q (fun ac ww h=>c_assign (h.ev rfl)) rfl ?_
        refine rg_q (fun ac ww h=>c_assign (h.ev rfl)) rfl ?_
        refine rg_q (fun ac ww h=>c_assign (h.ev rfl)) rfl ?_
        refine rg_nil fun ac ww L' hf hfe hs=>?_
        simp only [List.drop_succ_cons,List.drop_zero]
        obtain rfl:L'=[]:=hfe
        replace hs:=hs.toL (List.nil_append _)
        refine s_end ?_
        replace hs:=hs.sub (F':=[(2,_),(3,_),(4,_),(11,_),(12,_)]) ⟨rfl,rfl,rfl,rfl,rfl,trivial⟩
        refine then_n (wp_ret (blk_r (then_r ?_)))
        refine s_ret hs rfl (.tmp (hs.tmp rfl) (.tmp (hs.tmp rfl) (.tmp (hs.tmp rfl) .nil))) rfl ⟨_,rfl,hs.fr,?_⟩
        rw [show dload (some c0.td) (some c1.td)=(0,nextG c1.g c0.g,c1.td.recs) from (if_neg h4).trans (if_pos h5)]
        exact ⟨c1.rv,c1.ps,rfl,rfl,(hs.pick (L':=[_]) (.cons _ (.cons _ (.cons_cons _ (List.nil_sublist _))))).made⟩
      · have h5:¬ c1.b=true:=by rw [show c1.b=false from hc]; decide
        refine wp_seq (wp_reg ?_)
        refine s_q hs (c_fld fl88_0 (hs.ev rfl)) rfl fun ac hs=>?_
        refine s_q hs (c_loadS un53 rfl (hs.ev rfl) (hs.seg (i:=1) rfl) rfl) rfl fun ac hs=>?_
        refine s_q hs (c_gtrU (hs.ev rfl) (St.ev (v:=U 0) hs rfl)) rfl fun ac hs=>?_
        refine s_q hs (c_assign (hs.ev rfl)) rfl fun ac hs=>?_
        refine s_end ?_
        replace hs:=hs.sub (F':=[(12,_),(79,_)]) ⟨rfl,rfl,trivial⟩
        refine then_n ?_
        refine s_cond hs rfl (fun hc=>?_) (fun hc=>?_)
        · try simp only [decide_eq_true_eq,decide_eq_false_iff_not,Bool.not_eq_true',Bool.not_eq_false',Bool.and_eq_true,Bool.or_eq_true,Bool.or_eq_false_iff] at hc
          have h6:0 < c0.g.toNat:=hc
          refine wp_seq (wp_reg ?_)
          refine s_q hs (c_assign (hs.ev rfl)) rfl fun ac hs=>?_
          refine s_q hs (c_assign (St.ev (v:=U 0) hs rfl)) rfl fun ac hs=>?_
          refine s_q hs (c_assign (hs.ev rfl)) rfl fun ac hs=>?_
          refine s_end ?_
          replace hs:=hs.sub (F':=[(2,_),(3,_),(4,_),(12,_)]) ⟨rfl,rfl,rfl,rfl,trivial⟩
          refine then_n (wp_ret (blk_r (then_r ?_)))
          refine s_ret hs rfl (.tmp (hs.tmp rfl) (.tmp (hs.tmp rfl) (.tmp (hs.tmp rfl) .nil))) rfl ⟨_,rfl,hs.fr,?_⟩
          rw [show dload (some c0.td) (some c1.td)=(31,0,[]) from (if_neg h4).trans ((if_neg h5).trans (if_pos h6))]
          exact LdTo.nil hs rfl
        · try simp only [decide_eq_true_eq,decide_eq_false_iff_not,Bool.not_eq_true',Bool.not_eq_false',Bool.and_eq_true,Bool.or_eq_true,Bool.or_eq_false_iff] at hc
          have h6:¬ 0 < c0.g.toNat:=hc
          refine wp_seq (wp_reg ?_)
          refine s_q hs (c_fld fl88_0 (hs.ev rfl)) rfl fun ac hs=>?_
          refine s_q hs (c_loadS un53 rfl (hs.ev rfl) (hs.seg (i:=0) rfl) rfl) rfl fun ac hs=>?_
          refine s_q hs (c_gtrU (hs.ev rfl) (St.ev (v:=U 0) hs rfl)) rfl fun ac hs=>?_
          refine s_q hs (c_assign (hs.ev rfl)) rfl fun ac hs=>?_
          refine s_end ?_
          replace hs:=hs.sub (F':=[(12,_),(83,_)]) ⟨rfl,rfl,trivial⟩
          refine then_n ?_
          refine s_cond hs rfl (fun hc=>?_) (fun hc=>?_)
          · try simp only [decide_eq_true_eq,decide_eq_false_iff_not,Bool.not_eq_true',Bool.not_eq_false',Bool.and_eq_true,Bool.or_eq_true,Bool.or_eq_false_iff] at hc
            have h7:0 < c1.g.toNat:=hc
            refine wp_seq ?_
            refine wp_region_rg pmix 6 (by kernel_rfl) rfl hs ?_
            simp only [List.take_succ_cons,List.take_zero]
            refine rg_q (fun ac ww h=>c_fld fl88_0 (h.ev rfl)) rfl ?_
            refine rg_q (fun ac ww h=>c_loadS un53 rfl (h.ev rfl) (h.blk (hs.seg (i:=0) rfl)) rfl) rfl ?_
            refine rg_q (fun ac ww h=>c_addU (h.ev rfl) (RC.ev (v:=U 2) h rfl)) rfl ?_
            refine rg_q (fun ac ww h=>c_assign (h.ev rfl)) rfl ?_
            refine rg_q (fun ac ww h=>c_assign (h.ev rfl)) rfl ?_
            refine rg_q (fun ac ww h=>c_assign (h.ev rfl)) rfl ?_
            refine rg_nil fun ac ww L' hf hfe hs=>?_
            simp only [List.drop_succ_cons,List.drop_zero]
            obtain rfl:L'=[]:=hfe
            replace hs:=hs.toL (List.nil_append _)
            refine s_end ?_
            replace hs:=hs.sub (F':=[(2,_),(3,_),(4,_)]) ⟨rfl,rfl,rfl,trivial⟩
            refine then_n (wp_ret (blk_r (then_r ?_)))
            refine s_ret hs rfl (.tmp (hs.tmp rfl) (.tmp (hs.tmp rfl) (.tmp (hs.tmp rfl) .nil))) rfl ⟨_,rfl,hs.fr,?_⟩
            rw [show dload (some c0.td) (some c1.td)=(0,c1.g + 2,[]) from (if_neg h4).trans ((if_neg h5).trans ((if_neg h6).trans (if_pos h7)))]
            exact LdTo.nil hs rfl
          · try simp only [decide_eq_true_eq,decide_eq_false_iff_not,Bool.not_eq_true',Bool.not_eq_false',Bool.and_eq_true,Bool.or_eq_true,Bool.or_eq_false_iff] at hc
            have h7:¬ 0 < c1.g.toNat:=hc
            refine wp_skip (blk_n (then_n (wp_seq (wp_reg ?_))))
            refine s_q hs (c_assign (hs.ev rfl)) rfl fun ac hs=>?_
            refine s_q hs (c_assign (St.ev (v:=U 1) hs rfl)) rfl fun ac hs=>?_
            refine s_q hs (c_assign (hs.ev rfl)) rfl fun ac hs=>?_
            refine s_end ?_
            replace hs:=hs.sub (F':=[(2,_),(3,_),(4,_)]) ⟨rfl,rfl,rfl,trivial⟩
            refine then_n (wp_ret ?_)
            refine s_ret hs rfl (.tmp (hs.tmp rfl) (.tmp (hs.tmp rfl) (.tmp (hs.tmp rfl) .nil))) rfl ⟨_,rfl,hs.fr,?_⟩
            rw [show dload (some c0.td) (some c1.td)=(0,1,[]) from (if_neg h4).trans ((if_neg h5).trans ((if_neg h6).trans (if_neg h7)))]
            exact LdTo.nil hs rfl
end Go.Proofs.Ytkecdcmjkghddaa
end

section
/- SlateLasts: what lasts behind a crash. -/
namespace Go.Proofs.Ytkecdcmjkghddaa
open Go Go.Fw
theorem fus_n (s:Sl) (n:Int):(s.fus n).2.n=s.n∧(s.fus n).2.steps=s.steps∧(s.fus n).2.q=s.q∧(s.fus n).2.xs=s.xs:=by
  unfold Sl.fus
  split <;> exact ⟨rfl,rfl,rfl,rfl⟩
end Go.Proofs.Ytkecdcmjkghddaa
end

section
/- The document's device: what is read. -/
namespace Go.Proofs.Ytkecdcmjkghddaa
open Go Go.Fw
def hdR (v1 v2:Value) (s:Sl):List Value:=[I s.n,v1,v2,I s.fuse,.bool s.down,I s.steps]
def rs (h:Nat) (v1 v2:Value) (s:Sl) (su:List Wr):List Ent:=[.seg h (hdR v1 v2 s) 77,.row v1 su.length (wrC su) 94 65,.row v2 s.q.length (wrC s.q) 94 65]
end Go.Proofs.Ytkecdcmjkghddaa
end

section
/- What halves of a device tell,in plain words; one byte turned. -/
namespace Go.Proofs.Ytkecdcmjkghddaa
open Go Go.Fw
theorem or4 (a b c d:UInt8):(((a.toUInt32 <<< UInt32.ofNat 24) ||| (b.toUInt32 <<< UInt32.ofNat 16)) ||| (c.toUInt32 <<< UInt32.ofNat 8) ||| d.toUInt32).toNat=a.toNat * 16777216 + b.toNat * 65536 + c.toNat * 256 + d.toNat:=by
  have ha:=a.toNat_lt; have hb:=b.toNat_lt; have hc:=c.toNat_lt; have hd:=d.toNat_lt
  have e:∀ (x:UInt8) (n:Nat),n < 32→(x.toUInt32 <<< UInt32.ofNat n).toNat=x.toNat * 2 ^ n % 4294967296:=fun x n hn=>by
    rw [UInt32.toNat_shiftLeft,Nat.shiftLeft_eq]
    simp [Nat.mod_eq_of_lt (a:=n) (b:=4294967296) (by omega),Nat.mod_eq_of_lt hn]
  rw [UInt32.toNat_or,UInt32.toNat_or,UInt32.toNat_or,e a 24 (by decide),e b 16 (by decide),e c 8 (by decide),UInt8.toNat_toUInt32]
  rw [show a.toNat * 2 ^ 24 % 4294967296=a.toNat * 16777216 by omega,show b.toNat * 2 ^ 16 % 4294967296=b.toNat * 65536 by omega,show c.toNat * 2 ^ 8 % 4294967296=c.toNat * 256 by omega]
  have s:∀ (x y n:Nat),y < 2 ^ n→x * 2 ^ n ||| y=x * 2 ^ n + y:=fun x y n h=>by
    rw [← Nat.shiftLeft_eq,Nat.shiftLeft_add_eq_or_of_lt h]
  rw [show a.toNat * 16777216=a.toNat * 2 ^ 24 by omega,s _ _ 24 (by omega)]
  rw [show a.toNat * 2 ^ 24 + b.toNat * 65536=(a.toNat * 256 + b.toNat) * 2 ^ 16 by omega,s _ _ 16 (by omega)]
  rw [show (a.toNat * 256 + b.toNat) * 2 ^ 16 + c.toNat * 256=(a.toNat * 65536 + b.toNat * 256 + c.toNat) * 2 ^ 8 by omega,s _ _ 8 (by omega)]
theorem shr8 (g:UInt32) (n:Nat) (h:n < 32):((g >>> UInt32.ofNat n).toUInt8).toNat=g.toNat / 2 ^ n % 256:=by
  rw [UInt32.toNat_toUInt8,UInt32.toNat_shiftRight,Nat.shiftRight_eq_div_pow]
  simp [Nat.mod_eq_of_lt (a:=n) (b:=4294967296) (by omega),Nat.mod_eq_of_lt h]
theorem get4_be4 (g:UInt32) (t:List UInt8):get4 (be4 g++t)=g:=by
  apply UInt32.toNat_inj.1
  have hg:=g.toNat_lt
  simp only [get4,be4,List.cons_append,List.getD_cons_zero,List.getD_cons_succ,List.nil_append]
  rw [or4,shr8 g 24 (by decide),shr8 g 16 (by decide),shr8 g 8 (by decide),UInt32.toNat_toUInt8]
  omega
theorem be4_get4 {l:List UInt8} (h:l.length=4):be4 (get4 l)=l:=by
  match l,h with
  | [a,b,c,d],_ =>
    have ha:=a.toNat_lt; have hb:=b.toNat_lt; have hc:=c.toNat_lt; have hd:=d.toNat_lt
    have e:=or4 a b c d
    simp only [get4,List.getD_cons_zero,List.getD_cons_succ]
    generalize ((((a.toUInt32 <<< UInt32.ofNat 24) ||| (b.toUInt32 <<< UInt32.ofNat 16)) ||| (c.toUInt32 <<< UInt32.ofNat 8)) ||| d.toUInt32)=v at e
    unfold be4
    rw [show (v >>> UInt32.ofNat 24).toUInt8=a from UInt8.toNat_inj.1 (by rw [shr8 v 24 (by decide)]; omega),show (v >>> UInt32.ofNat 16).toUInt8=b from UInt8.toNat_inj.1 (by rw [shr8 v 16 (by decide)]; omega),show (v >>> UInt32.ofNat 8).toUInt8=c from UInt8.toNat_inj.1 (by rw [shr8 v 8 (by decide)]; omega),show v.toUInt8=d from UInt8.toNat_inj.1 (by rw [UInt32.toNat_toUInt8]; omega)]
theorem get4_take (l:List UInt8) (n:Nat) (h:4≤n):get4 (l.take n)=get4 l:=by
  simp only [get4,List.getD_eq_getElem?_getD,List.getElem?_take]
  simp [show 0 < n by omega,show 1 < n by omega,show 2 < n by omega,show 3 < n by omega]
theorem lay_look {g:UInt32} {k:Int} {fl:UInt8} {p:List UInt8} (h:p.length≤50):lookS (lay g k fl p) g k=0:=by
  have hb:=layB_len (g:=g) (place:=k) (fl:=fl) h
  have h1:get4 (lay g k fl p)=g:=by
    unfold lay layB
    simp only [List.append_assoc]
    exact get4_be4 g _
  have h2:get4 ((lay g k fl p).drop 60)=g:=by
    unfold lay
    rw [List.drop_left' (by simp [hb])]
    exact (congrArg get4 (List.append_nil _).symm).trans (get4_be4 g [])
  have h3:(lay g k fl p).take 58=layB g k fl p:=by
    unfold lay
    rw [List.append_assoc,List.take_left' hb]
  have h4:∀ i,i < 58→(lay g k fl p).getD i 0=(layB g k fl p).getD i 0:=fun i hi=>by
    rw [← h3,List.getD_eq_getElem?_getD,List.getD_eq_getElem?_getD,List.getElem?_take,if_pos hi]
  have h5:¬ badS (lay g k fl p) k:=by
    unfold badS
    rw [h3,h4 4 (by decide),h4 5 (by decide),h4 7 (by decide)]
    rintro (h | h | h | h | h)
    · apply h
      unfold lay
      rw [List.append_assoc,List.getD_eq_getElem?_getD,List.getElem?_append_right (by omega),hb]
      rfl
    · apply h
      unfold lay
      rw [List.append_assoc,List.getD_eq_getElem?_getD,List.getElem?_append_right (by omega),hb]
      rfl
    · exact h rfl
    · exact h rfl
    · have:(i8 (p.length:Int)).toNat=p.length:=by
        have:=i8_toNat (p.length:Int)
        omega
      have e:(layB g k fl p).getD 7 0=i8 (p.length:Int):=rfl
      rw [e,this] at h
      omega
  rw [lookS,if_neg (fun h=>h.elim (fun a=>a h1) (fun a=>a h2)),if_neg h5]
theorem lay_fl {g:UInt32} {k:Int} {fl:UInt8} {p:List UInt8}:(lay g k fl p).getD 6 0=fl:=rfl
theorem lay_p {g:UInt32} {k:Int} {fl:UInt8} {p:List UInt8} (h:p.length≤50):((lay g k fl p).drop 8).take ((lay g k fl p).getD 7 0).toNat=p:=by
  have e:(lay g k fl p).getD 7 0=i8 (p.length:Int):=rfl
  have h2:(i8 (p.length:Int)).toNat=p.length:=by
    have:=i8_toNat (p.length:Int)
    omega
  rw [e,h2]
  unfold lay layB
  simp only [List.append_assoc]
  rw [← List.append_assoc (be4 g),List.drop_left' (by rfl),List.take_left' rfl]
theorem look_0 {x:List UInt8} {g:UInt32} {k:Int} (h:¬ lookS x g k=1):get4 x=g∧get4 (x.drop 60)=g:=by
  unfold lookS at h
  split at h
  · exact absurd rfl h
  · rename_i h1
    exact ⟨Classical.byContradiction fun a=>h1 (.inl a),Classical.byContradiction fun a=>h1 (.inr a)⟩
def Stop (F:Nat→List UInt8) (g:UInt32) (m k:Nat) (res:Bool):Prop:=∀ recs sure part op,rdGo F g m k recs sure part op=if res=true then some (recs,sure) else none
theorem stop_0 (F:Nat→List UInt8) (g:UInt32) (k:Nat):Stop F g 0 k true:=fun _ _ _ _=>rfl
theorem stop_1 {F:Nat→List UInt8} {g:UInt32} {m k:Nat} (h:lookS (F k) g k=1):Stop F g (m + 1) k true:=fun _ _ _ _=>by rw [rdGo,if_pos h,if_pos rfl]
theorem rd_step {F:Nat→List UInt8} {g:UInt32} {m k:Nat} {recs:List (List UInt8)} {sure:Bool} {part p:List UInt8} {op:Bool} {fl:UInt8} (hF:F k=lay g k fl p) (hp:p.length≤50) :
    rdGo F g (m + 1) k recs sure part op=(if decide (¬ fl &&& 1=0)=op then none else
    if fl &&& 2=0 then rdGo F g m (k + 1) recs sure (part++p) true else
    if ¬ fl &&& 4=0 then (if sure=true then none else rdGo F g m (k + 1) recs true [] false) else rdGo F g m (k + 1) (recs++[part++p]) sure [] false):=by
  rw [rdGo,hF,lay_look hp,if_neg (by decide),if_neg (by decide),lay_p hp,lay_fl]
theorem rd_rec {F:Nat→List UInt8} {g:UInt32} {fl:UInt8} (hfl:fl=0∨fl=4) {m:Nat} {recs:List (List UInt8)} {sure:Bool}:∀ (n:Nat) (f:UInt8) (k:Nat) (q part:List UInt8),need q.length=n→(f=1∨f=0)→(∀ i,i < n→F (k + i)=(secsF g fl n f (k:Nat) q).getD i []) →
    rdGo F g (n + m) k recs sure part (decide (f=0))=if fl=0 then rdGo F g m (k + n) (recs++[part++q]) sure [] false else if sure=true then none else rdGo F g m (k + n) recs true [] false
  | 0,f,k,q,part,hn,_,_=>by unfold need at hn; omega
  | 1,f,k,q,part,hn,hf,hF=>by
    have h0:F k=lay g k ((f ||| 2) ||| fl) q:=hF 0 (by decide)
    rw [Nat.add_comm 1 m,rd_step h0 (need_one.1 hn)]
    rcases hf with rfl | rfl <;> rcases hfl with rfl | rfl <;> rfl
  | n + 2,f,k,q,part,hn,hf,hF=>by
    have h0:F k=lay g k (f ||| fl) (q.take 50):=hF 0 (by omega)
    have ih:=rd_rec (F:=F) (g:=g) hfl (m:=m) (recs:=recs) (sure:=sure) (n + 1) 0 (k + 1) (q.drop 50) (part++q.take 50) (need_drop hn) (.inr rfl) (fun i hi=>by
      have:=hF (i + 1) (by omega)
      rw [show k + 1 + i=k + (i + 1) by omega,this]
      rfl)
    rw [show n + 2 + m=(n + 1 + m) + 1 by omega,rd_step h0 (by simp; omega),if_neg (by rcases hf with rfl | rfl <;> rcases hfl with rfl | rfl <;> decide),if_pos (by rcases hf with rfl | rfl <;> rcases hfl with rfl | rfl <;> decide)]
    rw [List.append_assoc,List.take_append_drop,show k + 1 + (n + 1)=k + (n + 2) by omega] at ih
    exact ih
theorem rd_part {F:Nat→List UInt8} {g:UInt32} {fl:UInt8} (hfl:fl=0∨fl=4) {m:Nat} {recs:List (List UInt8)} {sure res:Bool}:∀ (j n:Nat) (f:UInt8) (k:Nat) (q part:List UInt8),need q.length=n→(f=1∨f=0)→j < n→(∀ i,i < j→F (k + i)=(secsF g fl n f (k:Nat) q).getD i [])→Stop F g m (k + j) res →
    rdGo F g (j + m) k recs sure part (decide (f=0))=if res=true then some (recs,sure) else none
  | 0,n,f,k,q,part,hn,hf,hj,hF,hS=>by
    rw [Nat.zero_add]
    exact hS _ _ _ _
  | j + 1,0,f,k,q,part,hn,hf,hj,hF,hS=>by omega
  | j + 1,1,f,k,q,part,hn,hf,hj,hF,hS=>by omega
  | j + 1,n + 2,f,k,q,part,hn,hf,hj,hF,hS=>by
    have h0:F k=lay g k (f ||| fl) (q.take 50):=hF 0 (by omega)
    have ih:=rd_part (F:=F) (g:=g) hfl (m:=m) (recs:=recs) (sure:=sure) (res:=res) j (n + 1) 0 (k + 1) (q.drop 50) (part++q.take 50) (need_drop hn) (.inr rfl) (by omega) (fun i hi=>by
      have:=hF (i + 1) (by omega)
      rw [show k + 1 + i=k + (i + 1) by omega,this]
      rfl) (by rw [show k + 1 + j=k + (j + 1) by omega]; exact hS)
    rw [show j + 1 + m=(j + m) + 1 by omega,rd_step h0 (by simp; omega),if_neg (by rcases hf with rfl | rfl <;> rcases hfl with rfl | rfl <;> decide),if_pos (by rcases hf with rfl | rfl <;> rcases hfl with rfl | rfl <;> decide)]
    exact ih
abbrev It:=UInt8 × List UInt8
def secsA (g:UInt32):Nat→List It→List (List UInt8)
  | _,[]=>[]
  | k,x::t=>secs g (k:Nat) x.1 x.2++secsA g (k + need x.2.length) t
def itsN (t:List It):Nat:=(t.map fun x=>need x.2.length).foldr (· + ·) 0
theorem secsA_len (g:UInt32):∀ (k:Nat) (t:List It),(secsA g k t).length=itsN t
  | _,[]=>rfl
  | k,x::t=>by
    rw [secsA,List.length_append,secs_len,secsA_len g _ t]
    rfl
theorem secsA_app (g:UInt32):∀ (k:Nat) (t u:List It),secsA g k (t++u)=secsA g k t++secsA g (k + itsN t) u
  | k,[],u=>by simp [secsA,itsN]
  | k,x::t,u=>by
    rw [List.cons_append,secsA,secsA,secsA_app g _ t u,List.append_assoc,show k + itsN (x::t)=k + need x.2.length + itsN t by simp only [itsN,List.map_cons,List.foldr_cons]; omega]
theorem itsN_app (t u:List It):itsN (t++u)=itsN t + itsN u:=by
  have h:=congrArg List.length (secsA_app 0 0 t u)
  rw [List.length_append,secsA_len,secsA_len,secsA_len] at h
  exact h
theorem secsA_64 (g:UInt32):∀ (k:Nat) (t:List It),∀ x∈secsA g k t,x.length=64
  | _,[],_,h=>by cases h
  | k,y::t,x,h=>by
    rcases List.mem_append.1 h with h | h
    · exact secs_64 _ _ _ _ x h
    · exact secsA_64 g _ t x h
def wh:Nat→List It→List It
  | _,[]=>[]
  | M,x::t=>if need x.2.length≤M then x::wh (M - need x.2.length) t else []
def recsOf (t:List It):List (List UInt8):=(t.filter fun x=>decide (x.1=0)).map (·.2)
def markOf (t:List It):Bool:=t.any fun x=>decide (x.1=4)
def okM:Bool→List It→Prop
  | _,[]=>True
  | s,x::t=>(x.1=0∧okM s t)∨(x.1=4∧s=false∧okM true t)
theorem rd_all {F:Nat→List UInt8} {g:UInt32} {m:Nat} {res:Bool}:∀ (its:List It) (M k:Nat) (recs:List (List UInt8)) (sure:Bool),okM sure its→M≤itsN its→(∀ i,i < M→F (k + i)=(secsA g k its).getD i [])→Stop F g m (k + M) res →
    rdGo F g (M + m) k recs sure [] false=if res=true then some (recs++recsOf (wh M its),sure || markOf (wh M its)) else none
  | [],M,k,recs,sure,_,hM,_,hS=>by
    obtain rfl:M=0:=Nat.le_zero.1 hM
    have hS2:Stop F g m k res:=hS
    rw [Nat.zero_add,hS2]
    simp [wh,recsOf,markOf]
  | x::t,M,k,recs,sure,hk,hM,hF,hS=>by
    have hM2:M≤need x.2.length + itsN t:=hM
    have hfl:x.1=0∨x.1=4:=hk.imp (·.1) (·.1)
    by_cases h:need x.2.length≤M
    · obtain ⟨M',rfl⟩:∃ M',M=need x.2.length + M':=⟨M - need x.2.length,by omega⟩
      have h1:=rd_rec (F:=F) (g:=g) hfl (m:=M' + m) (recs:=recs) (sure:=sure) (need x.2.length) 1 k x.2 [] rfl (.inl rfl) (fun i hi=>by
        rw [hF i (by omega),secsA,List.getD_eq_getElem?_getD,List.getElem?_append_left (by rw [secs_len]; exact hi),← List.getD_eq_getElem?_getD]
        rfl)
      rw [show decide ((1:UInt8)=0)=false from rfl,List.nil_append,← Nat.add_assoc] at h1
      have hF2:∀ i,i < M'→F (k + need x.2.length + i)=(secsA g (k + need x.2.length) t).getD i []:=fun i hi=>by
        rw [Nat.add_assoc,hF _ (by omega),secsA,List.getD_eq_getElem?_getD,List.getElem?_append_right (by rw [secs_len]; omega),secs_len,Nat.add_sub_cancel_left,← List.getD_eq_getElem?_getD]
      rw [h1,show wh (need x.2.length + M') (x::t)=x::wh M' t by rw [wh,if_pos h,Nat.add_sub_cancel_left]]
      rcases hk with ⟨h0,hk⟩ | ⟨h4,h5,hk⟩
      · rw [if_pos h0,rd_all t M' (k + need x.2.length) _ sure hk (by omega) hF2 (by rw [Nat.add_assoc]; exact hS)]
        congr 2
        simp [recsOf,markOf,h0]
      · rw [if_neg (by rw [h4]; decide),if_neg (by rw [h5]; decide),rd_all t M' (k + need x.2.length) _ true hk (by omega) hF2 (by rw [Nat.add_assoc]; exact hS)]
        congr 2
        simp [recsOf,markOf,h4]
    · have h1:=rd_part (F:=F) (g:=g) hfl (m:=m) (recs:=recs) (sure:=sure) (res:=res) M (need x.2.length) 1 k x.2 [] rfl (.inl rfl) (by omega) (fun i hi=>by
        rw [hF i hi,secsA,List.getD_eq_getElem?_getD,List.getElem?_append_left (by rw [secs_len]; omega),← List.getD_eq_getElem?_getD]
        rfl) hS
      rw [show decide ((1:UInt8)=0)=false from rfl] at h1
      rw [h1,wh,if_neg h]
      simp [recsOf,markOf]
theorem secsF_look (g:UInt32) (fl:UInt8):∀ (n:Nat) (f:UInt8) (k:Nat) (q:List UInt8),need q.length=n→∀ i,i < n→lookS ((secsF g fl n f (k:Nat) q).getD i []) g ((k + i:Nat):Int)=0
  | 0,_,_,_,_,i,h=>by omega
  | 1,f,k,q,hn,i,h=>by
    obtain rfl:i=0:=by omega
    exact lay_look (need_one.1 hn)
  | n + 2,f,k,q,hn,0,h=>lay_look (by simp; omega)
  | n + 2,f,k,q,hn,i + 1,h=>by
    have:=secsF_look g fl (n + 1) 0 (k + 1) (q.drop 50) (need_drop hn) i (by omega)
    rw [show k + 1 + i=k + (i + 1) by omega] at this
    exact this
theorem secsA_look (g:UInt32):∀ (k:Nat) (t:List It) (i:Nat),i < itsN t→lookS ((secsA g k t).getD i []) g ((k + i:Nat):Int)=0
  | _,[],i,h=>by simp [itsN] at h
  | k,x::t,i,h=>by
    have h':i < need x.2.length + itsN t:=h
    rw [secsA,List.getD_eq_getElem?_getD]
    by_cases hi:i < need x.2.length
    · rw [List.getElem?_append_left (by rw [secs_len]; exact hi),← List.getD_eq_getElem?_getD]
      exact secsF_look g x.1 _ 1 k x.2 rfl i hi
    · rw [List.getElem?_append_right (by rw [secs_len]; omega),secs_len,← List.getD_eq_getElem?_getD]
      have:=secsA_look g (k + need x.2.length) t (i - need x.2.length) (by omega)
      rwa [show k + need x.2.length + (i - need x.2.length)=k + i by omega] at this
theorem rdHalf_all {F:Nat→List UInt8} {g:UInt32} {h many M m:Nat} {res:Bool} {its:List It} (hm:many=M + m) (hM1:1≤M) (hM:M≤itsN its) (hk:okM false its) (hg:¬ g=0) (hh:(g % 2).toNat=h) (hF:∀ i,i < M→F i=(secsA g 0 its).getD i []) (hS:Stop F g m M res) :
    rdHalf F h many=if res=true then some ⟨g,recsOf (wh M its),markOf (wh M its)⟩ else none:=by
  have h0:lookS (F 0) g ((0 + 0:Nat):Int)=0:=by
    rw [hF 0 hM1]
    exact secsA_look g 0 its 0 (by omega)
  obtain ⟨e1,e2⟩:=look_0 (by rw [h0]; decide)
  rw [rdHalf,if_neg,e1,hm,rd_all its M 0 [] false hk hM (fun i hi=>by rw [Nat.zero_add]; exact hF i hi) (by rw [Nat.zero_add]; exact hS)]
  · cases res <;> simp
  · rw [e1,e2]
    rintro (a | a | a | a)
    · omega
    · exact hg a
    · exact a rfl
    · exact a hh
theorem wh_app:∀ (M:Nat) (t u:List It),itsN t≤M→wh M (t++u)=t++wh (M - itsN t) u
  | M,[],u,_=>by simp [itsN]
  | M,x::t,u,h=>by
    have e:itsN (x::t)=need x.2.length + itsN t:=rfl
    rw [e] at h
    rw [List.cons_append,wh,if_pos (by omega),wh_app _ t u (by omega),e,Nat.sub_add_eq]
    rfl
theorem recsOf_app (t u:List It):recsOf (t++u)=recsOf t++recsOf u:=by simp [recsOf]
theorem markOf_app (t u:List It):markOf (t++u)=(markOf t || markOf u):=by simp [markOf]
theorem getD_appL {a b:List (List UInt8)} {i:Nat} (h:i < a.length):(a++b).getD i []=a.getD i []:=by
  rw [List.getD_eq_getElem?_getD,List.getElem?_append_left h,← List.getD_eq_getElem?_getD]
/-! one byte turned -/
/-! a device with power -/
structure Up (s:Sl):Prop where
  down:s.down=false
  fuse:s.fuse=-1
theorem on_up {s:Sl} (h:Up s):Up s.on:=⟨h.down,by show (if 0 < s.fuse then _ else s.fuse)=_; rw [h.fuse]; decide⟩
theorem write_up {s:Sl} (h:Up s) {j:Nat} (hj:j < s.n) (b:List UInt8):s.write j b=(0,{ s.on with q:=s.q++[⟨j,b⟩] }):=by
  rw [Sl.write,if_neg (by rw [h.down]; decide),if_neg (by omega),if_neg (by rw [h.fuse]; decide)]
  rfl
theorem vis_put (s:Sl) (j:Nat) (b:List UInt8) (i:Nat):vis { s.on with q:=s.q++[⟨j,b⟩] } i=if i=j then b else vis s i:=by
  show ofW (s.q++[⟨j,b⟩]) i (sec s.xs i)=_
  rw [ofW_app]
  show (if j=i then b else ofW s.q i (sec s.xs i))=_
  by_cases e:i=j
  · rw [if_pos e,if_pos e.symm]
  · rw [if_neg e,if_neg (fun h=>e h.symm),vis]
theorem writeL_up:∀ (l:List (List UInt8)) {s:Sl} {j:Nat},Up s→j + l.length≤s.n→(s.writeL j l).1=0∧Up (s.writeL j l).2∧(s.writeL j l).2.n=s.n∧∀ i,vis (s.writeL j l).2 i=if j≤i∧i < j + l.length then l.getD (i - j) [] else vis s i
  | [],s,j,h,_=>⟨rfl,h,rfl,fun i=>by rw [if_neg (by simp only [List.length_nil]; omega),Sl.writeL]⟩
  | b::t,s,j,h,hj=>by
    simp only [List.length_cons] at hj
    have hw:=write_up h (show j < s.n by omega) b
    obtain ⟨h1,h2,h3,h4⟩:=writeL_up t (s:={ s.on with q:=s.q++[⟨j,b⟩] }) (j:=j + 1) ⟨(on_up h).down,(on_up h).fuse⟩ (by show j + 1 + t.length≤s.n; omega)
    rw [Sl.writeL,hw,if_pos rfl]
    refine ⟨h1,h2,h3,fun i=>?_⟩
    rw [h4,vis_put]
    simp only [List.length_cons]
    by_cases e:i=j
    · subst e
      rw [if_neg (by omega),if_pos rfl,if_pos (by omega),Nat.sub_self]
      rfl
    · by_cases e2:j + 1≤i∧i < j + 1 + t.length
      · rw [if_pos e2,if_pos (by omega),show i - j=(i - (j + 1)) + 1 by omega]
        rfl
      · rw [if_neg e2,if_neg e,if_neg (by omega)]
theorem recsOf_map:∀ (l:List (List UInt8)),recsOf (l.map fun p=>((0:UInt8),p))=l
  | []=>rfl
  | p::l=>by
    have:=recsOf_map l
    simp only [recsOf,List.map_cons] at this ⊢
    rw [List.filter_cons_of_pos (by rfl),List.map_cons,this]
end Go.Proofs.Ytkecdcmjkghddaa
end

section
/- The law of turned bytes. -/
namespace Go.Proofs.Ytkecdcmjkghddaa
open Go Go.Fw
abbrev VP:=Value × List UInt8
def recsV (ps:List VP):List (List UInt8):=ps.map (·.2)
theorem vp_at {ps:List VP} {i:Nat} (h:i < ps.length):(ps.getD i (.nilIface,[])).2=(recsV ps).getD i []:=by
  simp [recsV,List.getD_eq_getElem?_getD,h]
theorem take_eq {a b:List (List UInt8)} {i:Nat} (ha:i < a.length) (hb:i < b.length):a.take (i + 1)=b.take (i + 1) ↔ (a.take i=b.take i∧a.getD i []=b.getD i []):=by
  rw [List.take_add_one,List.take_add_one,List.getElem?_eq_getElem ha,List.getElem?_eq_getElem hb,List.getD_eq_getElem?_getD,List.getD_eq_getElem?_getD,List.getElem?_eq_getElem ha,List.getElem?_eq_getElem hb]
  simp only [Option.toList_some,Option.getD_some]
  constructor
  · intro h
    have:=List.append_inj h (by simp; omega)
    exact ⟨this.1,by simpa using this.2⟩
  · rintro ⟨h1,h2⟩
    rw [h1,h2]
def preV (a b:List (List UInt8)):Bool:=decide (a.length≤b.length) && decide (a=b.take a.length)
theorem preV_yes {a u:List (List UInt8)}:preV a (a++u)=true:=by simp [preV]
theorem RdP.takeV {w:World} {ad:Option Addr} {cap m:Nat} {ps:List VP} (h:RdP w (.slice ad ps.length cap) ps) (hm:m≤ps.length):RdP w (.slice (if cap=0 then ad else ad.map (·.add 0)) m cap) (ps.take m):=by
  refine ⟨?_,fun q hq=>h.2 q (List.mem_of_mem_take hq)⟩
  obtain ⟨ad',cap',e,h1,h2,h3,h4⟩:=h.1
  cases e
  have hl:(ps.take m).length=m:=by rw [List.length_take]; omega
  have hz:(if cap=0 then ad else ad.map (·.add 0))=none→cap=0:=fun h9=>by
    by_cases e:cap=0
    · exact e
    · rw [if_neg e] at h9
      cases ad with
      | none=>exact h3 rfl
      | some a=>cases h9
  refine ⟨_,cap,by rw [hl],by rw [hl]; omega,h2,hz,?_⟩
  by_cases hm0:m=0
  · left
    subst hm0
    rfl
  rcases h4 with h4 | ⟨b,o,T,fr,all,rfl,hb,hc⟩
  · have:ps=[]:=List.map_eq_nil_iff.1 h4
    subst this
    exact absurd hm (by simpa using hm0)
  · refine .inr ⟨b,o,T,fr,all,?_,hb,?_⟩
    · split <;> rfl
    · rw [List.length_map,hl,List.map_take,← hc,List.take_take,List.length_map]
      congr 1
      omega
theorem ref15_Same (ps qs:List VP) (v1 v2:Value) (w:World) (hP:RdP w v1 ps) (hQ:RdP w v2 qs):Ctr Try.prog 35 [v1,v2] w (fun _=>False) (fun v _=>v=.bool (decide (recsV ps=recsV qs))):=by
  have hn1:=hP.1.le
  have hn2:=hQ.1.le
  obtain ⟨ad1,cap1,rfl,_,_⟩:=RdP.sl hP
  obtain ⟨ad2,cap2,rfl,_,_⟩:=RdP.sl hQ
  refine fn_start (N:=28) Try.func35 rfl rfl rfl fun ac hk=>?_
  have hs:=St.start hk w
  refine wp_seq (wp_reg ?_)
  refine s_q hs (c_assign (hs.ev rfl)) rfl fun ac hs=>?_
  refine s_end (then_n (wp_seq (wp_seq (wp_reg ?_))))
  refine s_q hs (c_move (hs.ev rfl)) rfl fun ac hs=>?_
  refine s_q hs (c_lenS un51 (hs.ev rfl)) rfl fun ac hs=>?_
  refine s_q hs (c_move (hs.ev rfl)) rfl fun ac hs=>?_
  refine s_q hs (c_lenS un51 (hs.ev rfl)) rfl fun ac hs=>?_
  refine s_q hs (c_neqI (hs.ev rfl) (hs.ev rfl)) rfl fun ac hs=>?_
  refine s_end ?_
  replace hs:=hs.sub (F':=[(0,_),(1,_),(4,_),(10,_)]) ⟨rfl,rfl,rfl,rfl,trivial⟩
  refine then_n ?_
  refine s_cond hs rfl (fun hc=>?_) (fun hc=>?_)
  · try simp only [decide_eq_true_eq,decide_eq_false_iff_not,Bool.not_eq_true',Bool.not_eq_false',Bool.and_eq_true,Bool.or_eq_true,Bool.or_eq_false_iff] at hc
    have hne:¬ recsV ps=recsV qs:=fun e=>by
      have h9:=congrArg List.length e
      simp only [recsV,List.length_map] at h9
      omega
    refine wp_seq (wp_reg ?_)
    refine s_q hs (c_assign (hs.ev rfl)) rfl fun ac hs=>?_
    refine s_end ?_
    replace hs:=hs.sub (F':=[(0,_),(1,_),(4,_)]) ⟨rfl,rfl,rfl,trivial⟩
    refine then_n (wp_ret (then_r ?_))
    refine s_ret hs rfl (.tmp (hs.tmp rfl) .nil) rfl ⟨_,rfl,hs.fr,?_⟩
    rw [decide_eq_false hne]
    rfl
  · try simp only [decide_eq_true_eq,decide_eq_false_iff_not,Bool.not_eq_true',Bool.not_eq_false',Bool.and_eq_true,Bool.or_eq_true,Bool.or_eq_false_iff] at hc
    have hlen:ps.length=qs.length:=by omega
    refine wp_skip (then_n (wp_seq (wp_seq (wp_reg ?_))))
    refine s_q hs (c_assign (hs.ev rfl)) rfl fun ac hs=>?_
    refine s_end ?_
    replace hs:=hs.sub (F':=[(0,_),(1,_),(4,_),(5,_)]) ⟨rfl,rfl,rfl,rfl,trivial⟩
    refine then_n (wp_block ?_)
    refine s_loop hs (X:=Nat) (fun i=>[(5,I i)]) [(0,_),(1,_)] (fun _=>[]) (fun n i=>i≤ps.length∧(recsV ps).take i=(recsV qs).take i∧n=ps.length - i) (_) (0) (⟨Nat.zero_le _,rfl,rfl⟩) ⟨rfl,rfl,rfl,trivial⟩ rfl ?_
    rintro n i ac ww hok2 hs
    skip
    obtain ⟨hi,he,rfl⟩:=hok2
    refine wp_seq (wp_seq (wp_reg ?_))
    refine s_q hs (c_move (hs.ev rfl)) rfl fun ac hs=>?_
    refine s_q hs (c_move (hs.ev rfl)) rfl fun ac hs=>?_
    refine s_q hs (c_lenS un51 (hs.ev rfl)) rfl fun ac hs=>?_
    refine s_q hs (c_lssI (hs.ev rfl) (hs.ev rfl)) rfl fun ac hs=>?_
    refine s_end (then_n ?_)
    refine s_cond hs rfl (fun hc=>?_) (fun hc=>?_)
    · try simp only [decide_eq_true_eq,decide_eq_false_iff_not,Bool.not_eq_true',Bool.not_eq_false',Bool.and_eq_true,Bool.or_eq_true,Bool.or_eq_false_iff] at hc
      have hip:i < ps.length:=by omega
      have hiq:i < qs.length:=by omega
      obtain ⟨b1,o1,T1,f1,all1,e1,hb1,hc1⟩:=RdP.at' (hP.fr0 hs.fr) (by omega)
      obtain ⟨b2,o2,T2,f2,all2,e2,hb2,hc2⟩:=RdP.at' (hQ.fr0 hs.fr) (by omega)
      have hs9:=hs
      subst e1 e2
      replace hs:=hs9
      have hc1':=seg_get1 (f:=fun q:VP=>q.1) (i:=i) (.nilIface,[]) hc1 hip
      have hc2':=seg_get1 (f:=fun q:VP=>q.1) (i:=i) (.nilIface,[]) hc2 hiq
      have hr1:=RdP.get (hP.fr0 hs.fr) hip
      have hr2:=RdP.get (hQ.fr0 hs.fr) hiq
      refine wp_skip (then_n (wp_seq (wp_block (wp_seq ?_))))
      refine wp_region_rg pmix 11 (by kernel_rfl) rfl hs ?_
      simp only [List.take_succ_cons,List.take_zero]
      refine rg_q (fun ac ww h=>c_move (h.ev rfl)) rfl ?_
      refine rg_q (fun ac ww h=>c_move (h.ev rfl)) rfl ?_
      refine rg_q (fun ac ww h=>c_idxS (j:=i) un51 ty38 (h.ev rfl) (h.ev rfl) (by omega) (by omega)) rfl ?_
      refine rg_q (fun ac ww h=>c_loadS un38 rfl (h.ev rfl) (h.blk hb1) hc1') rfl ?_
      refine rg_q (fun ac ww h=>c_cvST un38 un5 un9 (h.ev rfl) (hr1.fr0 h.fr)) rfl ?_
      refine rg_q (fun ac ww h=>c_move (h.ev rfl)) rfl ?_
      refine rg_q (fun ac ww h=>c_move (h.ev rfl)) rfl ?_
      refine rg_q (fun ac ww h=>c_idxS (j:=i) un51 ty38 (h.ev rfl) (h.ev rfl) (by omega) (by omega)) rfl ?_
      refine rg_q (fun ac ww h=>c_loadS un38 rfl (h.ev rfl) (h.blk hb2) hc2') rfl ?_
      refine rg_q (fun ac ww h=>c_cvST un38 un5 un9 (h.ev rfl) (hr2.fr0 h.fr)) rfl ?_
      refine rg_q (fun ac ww h=>c_neqTT (h.ev rfl) (h.ev rfl)) rfl ?_
      refine rg_nil fun ac ww L' hf hfe hs=>?_
      simp only [List.drop_succ_cons,List.drop_zero]
      obtain rfl:L'=[]:=hfe
      replace hs:=hs.toL (List.nil_append _)
      refine s_end (then_n ?_)
      refine s_cond hs rfl (fun hc=>?_) (fun hc=>?_)
      · skip
        have hne:¬ recsV ps=recsV qs:=fun e=>by
          simp only [bne_iff_ne,ne_eq] at hc
          exact hc (by rw [vp_at hip,vp_at hiq,e])
        refine wp_seq (wp_reg ?_)
        refine s_q hs (c_assign (hs.ev rfl)) rfl fun ac hs=>?_
        refine s_end (then_n (wp_ret (blk_r (then_r (then_r (blk_r (then_r ?_)))))))
        refine s_ret hs rfl (.tmp (hs.tmp rfl) .nil) rfl ⟨_,rfl,hs.fr,?_⟩
        rw [decide_eq_false hne]
        rfl
      · skip
        have he2:(recsV ps).take (i + 1)=(recsV qs).take (i + 1):=(take_eq (by simp [recsV]; omega) (by simp [recsV]; omega)).2 ⟨he,by
          rw [← vp_at hip,← vp_at hiq]
          simpa using hc⟩
        refine wp_skip (blk_n (then_n (wp_reg ?_)))
        refine s_q hs (c_move (hs.ev rfl)) rfl fun ac hs=>?_
        refine s_q hs (c_addI (hs.ev rfl) (hs.ev rfl) (by omega) (by omega)) rfl fun ac hs=>?_
        refine s_q hs (c_assign (hs.ev rfl)) rfl fun ac hs=>?_
        refine s_end (then_n ?_)
        exact ⟨ps.length - (i + 1),by omega,i + 1,⟨by omega,he2,rfl⟩,St.next hs ⟨rfl,rfl,rfl,trivial⟩ rfl⟩
    · try simp only [decide_eq_true_eq,decide_eq_false_iff_not,Bool.not_eq_true',Bool.not_eq_false',Bool.and_eq_true,Bool.or_eq_true,Bool.or_eq_false_iff] at hc
      obtain rfl:i=ps.length:=by omega
      have heq:recsV ps=recsV qs:=by
        rwa [List.take_of_length_le (by simp [recsV]),List.take_of_length_le (by simp [recsV]; omega)] at he
      refine wp_exit (then_e (then_e (blk_hit (then_n (wp_seq (wp_reg ?_))))))
      refine s_q hs (c_assign (hs.ev rfl)) rfl fun ac hs=>?_
      refine s_end ?_
      replace hs:=hs.sub (F':=[(4,_)]) ⟨rfl,trivial⟩
      refine then_n (wp_ret ?_)
      refine s_ret hs rfl (.tmp (hs.tmp rfl) .nil) rfl ⟨_,rfl,hs.fr,?_⟩
      rw [decide_eq_true heq]
      rfl
theorem law15_begins (ps qs:List VP) (v1 v2:Value) (w:World) (hP:RdP w v1 ps) (hQ:RdP w v2 qs):Ctr Try.prog 31 [v1,v2] w (fun _=>False) (fun v _=>v=.bool (preV (recsV ps) (recsV qs))):=by
  have hn1:=hP.1.le
  have hn2:=hQ.1.le
  obtain ⟨ad1,cap1,rfl,_,_⟩:=RdP.sl hP
  obtain ⟨ad2,cap2,rfl,_,_⟩:=RdP.sl hQ
  refine fn_start (N:=18) Try.func31 rfl rfl rfl fun ac hk=>?_
  have hs:=St.start hk w
  refine wp_seq (wp_reg ?_)
  refine s_q hs (c_assign (hs.ev rfl)) rfl fun ac hs=>?_
  refine s_end (then_n (wp_seq (wp_reg ?_)))
  by_cases hle:ps.length≤qs.length
  · refine s_q hs (c_move (hs.ev rfl)) rfl fun ac hs=>?_
    refine s_q hs (c_lenS un51 (hs.ev rfl)) rfl fun ac hs=>?_
    refine s_q hs (c_move (hs.ev rfl)) rfl fun ac hs=>?_
    refine s_q hs (c_lenS un51 (hs.ev rfl)) rfl fun ac hs=>?_
    refine s_q hs (c_tt (c_leqI (hs.ev rfl) (hs.ev rfl)) ((decide_eq_true (by omega)))) rfl fun ac hs=>?_
    refine s_q hs (c_move (hs.ev rfl)) rfl fun ac hs=>?_
    refine s_yes hs rfl rfl ?_
    refine s_q hs (c_move (hs.ev rfl)) rfl fun ac hs=>?_
    refine s_yes hs rfl rfl ?_
    refine s_q hs (c_move (hs.ev rfl)) rfl fun ac hs=>?_
    refine s_yes hs rfl rfl ?_
    refine s_q hs (c_move (hs.ev rfl)) rfl fun ac hs=>?_
    refine s_yes hs rfl rfl ?_
    refine s_q hs (c_lenS un51 (hs.ev rfl)) rfl fun ac hs=>?_
    refine s_yes hs rfl rfl ?_
    refine s_q hs (c_sliceH (j:=ps.length) un51 ty38 (hs.ev rfl) (hs.ev rfl) (by omega) (by omega)) rfl fun ac hs=>?_
    refine s_yes hs rfl rfl ?_
    refine s_call hs fu35 (.cons (hs.ev rfl) (.cons (hs.ev rfl) .nil)) (ref15_Same ps (qs.take ps.length) _ _ _ (hP.fr0 hs.fr) (RdP.takeV (hQ.fr0 hs.fr) hle)) rfl fun ac ww v16 hf hp hs=>?_
    obtain rfl:=hp
    replace hs:=hs [] (.nil _ _)
    refine s_q hs (c_pick (hs.ev rfl) (hs.ev rfl) (hs.ev rfl)) rfl fun ac hs=>?_
    refine s_q hs (c_assign (hs.ev rfl)) rfl fun ac hs=>?_
    refine s_end ?_
    replace hs:=hs.sub (F':=[(4,_)]) ⟨rfl,trivial⟩
    refine then_n (wp_ret ?_)
    refine s_ret hs rfl (.tmp (hs.tmp rfl) .nil) rfl ⟨_,rfl,hs.fr,?_⟩
    rw [preV,decide_eq_true (show (recsV ps).length≤(recsV qs).length by simp only [recsV,List.length_map]; omega),Bool.true_and]
    show Value.bool _=Value.bool _
    congr 2
    simp [recsV]
  · refine s_q hs (c_move (hs.ev rfl)) rfl fun ac hs=>?_
    refine s_q hs (c_lenS un51 (hs.ev rfl)) rfl fun ac hs=>?_
    refine s_q hs (c_move (hs.ev rfl)) rfl fun ac hs=>?_
    refine s_q hs (c_lenS un51 (hs.ev rfl)) rfl fun ac hs=>?_
    refine s_q hs (c_ff (c_leqI (hs.ev rfl) (hs.ev rfl)) ((decide_eq_false (by omega)))) rfl fun ac hs=>?_
    refine s_q hs (c_move (hs.ev rfl)) rfl fun ac hs=>?_
    refine s_no hs rfl rfl rfl rfl fun ac hs=>?_
    refine s_no hs rfl rfl rfl rfl fun ac hs=>?_
    refine s_no hs rfl rfl rfl rfl fun ac hs=>?_
    refine s_no hs rfl rfl rfl rfl fun ac hs=>?_
    refine s_no hs rfl rfl rfl rfl fun ac hs=>?_
    refine s_no hs rfl rfl rfl rfl fun ac hs=>?_
    refine s_q hs (c_pick (hs.ev rfl) (hs.ev rfl) (hs.ev rfl)) rfl fun ac hs=>?_
    refine s_q hs (c_assign (hs.ev rfl)) rfl fun ac hs=>?_
    refine s_end ?_
    replace hs:=hs.sub (F':=[(4,_)]) ⟨rfl,trivial⟩
    refine then_n (wp_ret ?_)
    refine s_ret hs rfl (.tmp (hs.tmp rfl) .nil) rfl ⟨_,rfl,hs.fr,?_⟩
    rw [preV,decide_eq_false (show ¬ (recsV ps).length≤(recsV qs).length by simp only [recsV,List.length_map]; omega)]
    rfl
def o15C (k:Int) (pv:Value) (gen:UInt32) (rv:Value) (n a:Int) (b:List UInt8):List Value:=I k::pv::U gen::rv::I n::I a::b.map B
def fitsV (p:List UInt8) (qs:List VP):Prop:=p.length≤2100∧qs.length≤12∧∀ q∈qs,q.2.length≤2100
theorem vp_mem {ps:List VP} {i:Nat} (h:i < ps.length):ps.getD i (.nilIface,[])∈ps:=by
  rw [List.getD_eq_getElem?_getD,List.getElem?_eq_getElem h]
  exact List.getElem_mem h
theorem vp_all {qs:List VP} (h:∀ j,j < qs.length→(qs.getD j (.nilIface,[])).2.length≤2100):∀ q∈qs,q.2.length≤2100:=fun q hq=>by
  obtain ⟨j,hj,rfl⟩:=List.getElem_of_mem hq
  have:=h j hj
  rwa [List.getD_eq_getElem?_getD,List.getElem?_eq_getElem hj] at this
theorem law15_fits (k:Int) (pv:Value) (gen:UInt32) (rv:Value) (n a:Int) (b:List UInt8) (p:List UInt8) (qs:List VP) (w:World) (hP:RdB w pv p) (hQ:RdP w rv qs):Ctr Try.prog 25 [.agg (o15C k pv gen rv n a b).toArray] w (fun _=>False) (fun v _=>∃ b,v=.bool b∧(b=true ↔ fitsV p qs)):=by
  have hnp:=hP.le
  have hnq:=hQ.1.le
  obtain ⟨pad,pcap,rfl,_,_⟩:=Rd.sl hP
  obtain ⟨qad,qcap,rfl,_,_⟩:=RdP.sl hQ
  refine fn_start (N:=26) Try.func25 rfl rfl rfl fun ac hk=>?_
  have hs:=St.start hk w
  refine wp_seq (wp_reg ?_)
  refine s_box hs rfl rfl rfl fun ac ww g1 hs=>?_
  refine s_q hs (c_assign (hs.ev rfl)) rfl fun ac hs=>?_
  refine s_end ?_
  replace hs:=hs.sub (F':=[(1,_),(2,_)]) ⟨rfl,rfl,trivial⟩
  refine then_n (wp_seq (wp_seq (wp_reg ?_)))
  refine s_q hs (c_fld fl55_1 (hs.ev rfl)) rfl fun ac hs=>?_
  refine s_q hs (c_loadS un38 rfl (hs.ev rfl) (hs.seg (i:=0) rfl) rfl) rfl fun ac hs=>?_
  refine s_q hs (c_lenS un38 (hs.ev rfl)) rfl fun ac hs=>?_
  refine s_q hs (c_gtrI (hs.ev rfl) (hs.ev rfl)) rfl fun ac hs=>?_
  refine s_q hs (c_move (hs.ev rfl)) rfl fun ac hs=>?_
  refine s_g hs rfl rfl (fun hg=>c_fld fl55_3 (hs.ev rfl)) rfl fun ac hs=>?_
  refine s_g hs rfl rfl (fun hg=>c_loadS un51 rfl (gev (hs.ev rfl) hg) (hs.seg (i:=0) rfl) rfl) rfl fun ac hs=>?_
  refine s_g hs rfl rfl (fun hg=>c_lenS un51 (gev (hs.ev rfl) hg)) rfl fun ac hs=>?_
  refine s_g hs rfl rfl (fun hg=>c_gtrI (gev (hs.ev rfl) hg) (hs.ev rfl)) rfl fun ac hs=>?_
  refine s_q hs (c_or (hs.ev rfl) (hs.ev rfl)) rfl fun ac hs=>?_
  refine s_end ?_
  replace hs:=hs.sub (F':=[(1,_),(2,_),(14,_)]) ⟨rfl,rfl,rfl,trivial⟩
  refine then_n ?_
  refine s_cond hs rfl (fun hc=>?_) (fun hc=>?_)
  · skip
    have hno:¬ fitsV p qs:=by
      rintro ⟨h1,h2,_⟩
      simp at hc
      omega
    refine wp_seq (wp_reg ?_)
    refine s_q hs (c_assign (hs.ev rfl)) rfl fun ac hs=>?_
    refine s_end ?_
    replace hs:=hs.sub (F':=[(1,_),(2,_)]) ⟨rfl,rfl,trivial⟩
    refine then_n (wp_ret (then_r ?_))
    refine s_ret hs rfl (.tmp (hs.tmp rfl) .nil) rfl ⟨_,rfl,hs.fr,?_⟩
    exact ⟨false,rfl,(fun h=>by cases h),fun h=>absurd h hno⟩
  · skip
    have h12:p.length≤2100∧qs.length≤12:=by
      simp at hc
      omega
    refine wp_skip (then_n (wp_seq (wp_seq (wp_reg ?_))))
    refine s_q hs (c_fld fl55_3 (hs.ev rfl)) rfl fun ac hs=>?_
    refine s_q hs (c_loadS un51 rfl (hs.ev rfl) (hs.seg (i:=0) rfl) rfl) rfl fun ac hs=>?_
    refine s_q hs (c_lenS un51 (hs.ev rfl)) rfl fun ac hs=>?_
    refine s_q hs (c_move (hs.ev rfl)) rfl fun ac hs=>?_
    refine s_end ?_
    replace hs:=hs.sub (F':=[(2,_),(16,_),(17,_),(18,_)]) ⟨rfl,rfl,rfl,rfl,trivial⟩
    refine then_n (wp_block ?_)
    refine s_loop hs (X:=Nat) (fun i=>[(18,I i)]) [(16,_),(17,_)] (fun _=>[_]) (fun n i=>i≤qs.length∧(∀ j,j < i→(qs.getD j (.nilIface,[])).2.length≤2100)∧n=qs.length - i) (_) (0) (⟨Nat.zero_le _,fun _ h=>absurd h (by omega),rfl⟩) ⟨rfl,rfl,rfl,trivial⟩ rfl ?_
    rintro n i ac ww hok2 hs
    simp only [List.cons_append,List.nil_append] at hs
    obtain ⟨hi,he,rfl⟩:=hok2
    refine wp_seq (wp_reg ?_)
    refine s_q hs (c_lssI (hs.ev rfl) (hs.ev rfl)) rfl fun ac hs=>?_
    refine s_end (then_n (wp_seq ?_))
    refine s_cond hs rfl (fun hc=>?_) (fun hc=>?_)
    · try simp only [decide_eq_true_eq,decide_eq_false_iff_not,Bool.not_eq_true',Bool.not_eq_false',Bool.and_eq_true,Bool.or_eq_true,Bool.or_eq_false_iff] at hc
      have hip:i < qs.length:=by omega
      obtain ⟨b1,o1,T1,f1,all1,rfl,hb1,hc1⟩:=RdP.at' (hQ.fr0 hs.fr) (by omega)
      have hc1':=seg_get1 (f:=fun q:VP=>q.1) (i:=i) (.nilIface,[]) hc1 hip
      have hr1:=RdP.get (hQ.fr0 hs.fr) hip
      refine wp_skip (then_n (wp_seq (wp_block (wp_seq (wp_reg ?_)))))
      refine s_q hs (c_idxS (j:=i) un51 ty38 (hs.ev rfl) (hs.ev rfl) (by omega) (by omega)) rfl fun ac hs=>?_
      refine s_q hs (c_loadS un38 rfl (hs.ev rfl) hb1 hc1') rfl fun ac hs=>?_
      refine s_q hs (c_assign (hs.ev rfl)) rfl fun ac hs=>?_
      refine s_end (then_n (wp_seq (wp_reg ?_)))
      refine s_q hs (c_move (hs.ev rfl)) rfl fun ac hs=>?_
      refine s_q hs (c_lenR un38 (hs.ev rfl) hr1) rfl fun ac hs=>?_
      refine s_q hs (c_gtrI (hs.ev rfl) (hs.ev rfl)) rfl fun ac hs=>?_
      refine s_end (then_n ?_)
      refine s_cond hs rfl (fun hc=>?_) (fun hc=>?_)
      · try simp only [decide_eq_true_eq,decide_eq_false_iff_not,Bool.not_eq_true',Bool.not_eq_false',Bool.and_eq_true,Bool.or_eq_true,Bool.or_eq_false_iff] at hc
        have hno:¬ fitsV p qs:=by
          rintro ⟨_,_,h3⟩
          have:=h3 _ (vp_mem hip)
          omega
        refine wp_seq (wp_reg ?_)
        refine s_q hs (c_assign (hs.ev rfl)) rfl fun ac hs=>?_
        refine s_end (then_n (wp_ret (blk_r (then_r (then_r (blk_r (then_r ?_)))))))
        refine s_ret hs rfl (.tmp (hs.tmp rfl) .nil) rfl ⟨_,rfl,hs.fr,?_⟩
        exact ⟨false,rfl,(fun h=>by cases h),fun h=>absurd h hno⟩
      · try simp only [decide_eq_true_eq,decide_eq_false_iff_not,Bool.not_eq_true',Bool.not_eq_false',Bool.and_eq_true,Bool.or_eq_true,Bool.or_eq_false_iff] at hc
        have hl9:(qs.getD i (.nilIface,[])).2.length≤2100:=by omega
        refine wp_skip (blk_n (then_n (wp_reg ?_)))
        refine s_q hs (c_addI (hs.ev rfl) (hs.ev rfl) (by omega) (by omega)) rfl fun ac hs=>?_
        refine s_q hs (c_move (hs.ev rfl)) rfl fun ac hs=>?_
        refine s_end (then_n ?_)
        exact ⟨qs.length - (i + 1),by omega,i + 1,⟨by omega,fun j hj=>by
            by_cases e:j=i
            · subst e; exact hl9
            · exact he j (by omega),rfl⟩,St.next hs ⟨rfl,rfl,rfl,trivial⟩ rfl⟩
    · try simp only [decide_eq_true_eq,decide_eq_false_iff_not,Bool.not_eq_true',Bool.not_eq_false',Bool.and_eq_true,Bool.or_eq_true,Bool.or_eq_false_iff] at hc
      obtain rfl:i=qs.length:=by omega
      refine wp_exit (then_e (then_e (blk_hit (then_n (wp_seq (wp_reg ?_))))))
      refine s_q hs (c_assign (hs.ev rfl)) rfl fun ac hs=>?_
      refine s_end ?_
      replace hs:=hs.sub (F':=[(2,_)]) ⟨rfl,trivial⟩
      refine then_n (wp_ret ?_)
      refine s_ret hs rfl (.tmp (hs.tmp rfl) .nil) rfl ⟨_,rfl,hs.fr,?_⟩
      exact ⟨true,rfl,fun _=>⟨h12.1,h12.2,vp_all he⟩,fun _=>rfl⟩
theorem flush_st15 (s:Sl):s.flush.2.steps≤s.steps + 1∧s.flush.2.n=s.n:=by
  unfold Sl.flush
  split
  · exact ⟨Nat.le_succ _,rfl⟩
  split
  · exact ⟨Nat.le_succ _,rfl⟩
  · exact ⟨Nat.le_refl _,rfl⟩
end Go.Proofs.Ytkecdcmjkghddaa
end

section
/- What stands behind a crash: the plain theory of diaries. -/
namespace Go.Proofs.Ytkecdcmjkghddaa
open Go Go.Fw
/-! rows of writes -/
def wl:Nat→List (List UInt8)→List Wr
  | _,[]=>[]
  | j,b::t=>⟨j,b⟩::wl (j + 1) t
theorem wl_app:∀ (j:Nat) (a b:List (List UInt8)),wl j (a++b)=wl j a++wl (j + a.length) b
  | j,[],b=>rfl
  | j,x::a,b=>by
    rw [List.cons_append,wl,wl_app (j + 1) a b,wl,List.cons_append,List.length_cons,show j + 1 + a.length=j + (a.length + 1) by omega]
theorem wl_len:∀ (j:Nat) (l:List (List UInt8)),(wl j l).length=l.length
  | _,[]=>rfl
  | j,b::t=>by rw [wl,List.length_cons,wl_len,List.length_cons]
theorem wl_take:∀ (j:Nat) (l:List (List UInt8)) (k:Nat),(wl j l).take k=wl j (l.take k)
  | _,[],k=>by simp [wl]
  | j,b::t,0=>rfl
  | j,b::t,k + 1=>by rw [wl,List.take_succ_cons,wl_take (j + 1) t k,List.take_succ_cons,wl]
theorem wl_get:∀ (j:Nat) (l:List (List UInt8)) (k:Nat),k < l.length→(wl j l).getD k default=⟨j + k,l.getD k []⟩
  | _,[],k,h=>by simp at h
  | j,b::t,0,h=>rfl
  | j,b::t,k + 1,h=>by
    rw [wl,List.getD_cons_succ,wl_get (j + 1) t k (by simpa using h),List.getD_cons_succ,show j + 1 + k=j + (k + 1) by omega]
theorem wl_ok {n:Nat}:∀ (j:Nat) (l:List (List UInt8)),(∀ x∈l,x.length=64)→j + l.length≤n→∀ x∈wl j l,x.Ok n
  | _,[],_,_,_,h=>by cases h
  | j,b::t,hl,hn,x,h=>by
    simp only [List.length_cons] at hn
    rcases List.mem_cons.1 h with rfl | h
    · exact ⟨hl b (List.mem_cons_self ..),by show j < n; omega⟩
    · exact wl_ok (j + 1) t (fun y hy=>hl y (List.mem_cons_of_mem _ hy)) (by omega) x h
theorem ofW_wl:∀ (l:List (List UInt8)) (j p:Nat) (f:List UInt8),ofW (wl j l) p f=if j≤p∧p < j + l.length then l.getD (p - j) [] else f
  | [],j,p,f=>by
    rw [if_neg (by simp only [List.length_nil]; omega)]
    rfl
  | b::t,j,p,f=>by
    rw [wl]
    show ofW (wl (j + 1) t) p (if j=p then b else f)=_
    rw [ofW_wl t (j + 1) p]
    simp only [List.length_cons]
    by_cases e:j=p
    · subst e
      rw [if_neg (by omega),if_pos rfl,if_pos (by omega),Nat.sub_self]
      rfl
    · by_cases c:j + 1≤p∧p < j + 1 + t.length
      · rw [if_pos c,if_pos (by omega),show p - j=(p - (j + 1)) + 1 by omega]
        rfl
      · rw [if_neg c,if_neg e,if_neg (by omega)]
theorem crash_wl {s:Sl} (hok:s.Ok) {j:Nat} {V:List (List UInt8)} (hq:s.q=wl j V) (h64:∀ x∈V,x.length=64) (hj:j + V.length≤s.n) (N At:Int) :
    ∃ M,M≤V.length∧clampN N V.length≤M∧(1≤M→1≤N∨64≤At)∧(64≤At→M=V.length∨clampN N V.length < M)∧∀ p,p < s.n→(j≤p∧p < j + M→sec (s.crash N At).xs p=V.getD (p - j) []) ∧
      (¬ (j≤p∧p < j + M)→sec (s.crash N At).xs p=sec s.xs p∨(p=j + M∧M < V.length∧∃ t,t < 64∧sec (s.crash N At).xs p=(V.getD M []).take t++(sec s.xs p).drop t)):=by
  have hql:s.q.length=V.length:=by rw [hq,wl_len]
  obtain ⟨kk,hkk⟩:∃ kk,clampN N V.length=kk:=⟨_,rfl⟩
  have hkl:kk≤V.length:=hkk ▸ clampN_le _ _
  have hT:∀ p,p < s.n→sec (putQ s.xs (s.q.take kk)) p=if j≤p∧p < j + kk then V.getD (p - j) [] else sec s.xs p:=fun p hp=>by
    rw [sec_putQ hp hok.xl (take_ok hok.qo),hq,wl_take,ofW_wl,List.length_take,Nat.min_eq_left hkl]
    by_cases c:j≤p∧p < j + kk
    · rw [if_pos c,if_pos c,List.getD_eq_getElem?_getD,List.getElem?_take,if_pos (by omega),← List.getD_eq_getElem?_getD]
    · rw [if_neg c,if_neg c]
  have hNk:1≤kk→1≤N:=fun h=>by rw [← hkk] at h; unfold clampN at h; omega
  by_cases hk:kk < V.length
  · obtain ⟨t,ht⟩:∃ t,clampN At 64=t:=⟨_,rfl⟩
    have ht64:t≤64:=ht ▸ clampN_le _ _
    have hx:s.q.getD kk default=⟨j + kk,V.getD kk []⟩:=by rw [hq,wl_get j V kk hk]
    have hxo:(⟨j + kk,V.getD kk []⟩:Wr).Ok s.n:=hx ▸ wr_ok hok.qo (by omega)
    have hS:∀ p,p < s.n→sec (s.crash N At).xs p=if p=j + kk then (V.getD kk []).take t++(sec s.xs p).drop t else if j≤p∧p < j + kk then V.getD (p - j) [] else sec s.xs p:=fun p hp=>by
      rw [crash_t (k:=kk) (by rw [hql]; exact hkk) (by rw [hql]; exact hk),hx,ht,sec_tear (putQ_len hok.xl (take_ok hok.qo)) hxo ht64 hp]
      show (if p=j + kk then _ else _)=_
      by_cases c:p=j + kk
      · rw [if_pos c,if_pos c,hT p hp,if_neg (by omega)]
      · rw [if_neg c,if_neg c,hT p hp]
    by_cases c64:t=64
    · refine ⟨kk + 1,hk,by omega,fun _=>.inr (by rw [c64] at ht; unfold clampN at ht; omega),fun _=>.inr (by omega),fun p hp=>⟨fun h=>?_,fun h=>?_⟩⟩
      · rw [hS p hp]
        by_cases c:p=j + kk
        · rw [if_pos c,c64,c,List.take_of_length_le (by have:=hxo.1; show (V.getD kk []).length≤64; exact Nat.le_of_eq this),List.drop_of_length_le (by rw [sec_len hok.xl (by omega)]; exact Nat.le_refl _),List.append_nil,Nat.add_sub_cancel_left]
        · rw [if_neg c,if_pos (by omega)]
      · left
        rw [hS p hp,if_neg (by omega),if_neg (by omega)]
    · refine ⟨kk,hkl,by omega,fun h=>.inl (hNk h),fun h=>absurd (show t=64 by rw [← ht]; unfold clampN; omega) c64,fun p hp=>⟨fun h=>?_,fun h=>?_⟩⟩
      · rw [hS p hp,if_neg (by omega),if_pos h]
      · rw [hS p hp]
        by_cases c:p=j + kk
        · exact .inr ⟨c,hk,t,by omega,by rw [if_pos c]⟩
        · left
          rw [if_neg c,if_neg h]
  · refine ⟨kk,hkl,by omega,fun h=>.inl (hNk h),fun _=>.inl (by omega),fun p hp=>⟨fun h=>?_,fun h=>.inl ?_⟩⟩
    · rw [crash_f (k:=kk) (by rw [hql]; exact hkk) (by rw [hql]; exact hk),hT p hp,if_pos h]
    · rw [crash_f (k:=kk) (by rw [hql]; exact hkk) (by rw [hql]; exact hk),hT p hp,if_neg h]
/-! sectors whose marks are small -/
def sg (x:List UInt8):Nat:=(get4 x).toNat
def eg (x:List UInt8):Nat:=(get4 (x.drop 60)).toNat
structure Small (x:List UInt8):Prop where
  len:x.length=64
  s:sg x < 256
  e:eg x < 256
theorem be4_small {g:UInt32} (h:g.toNat < 256):be4 g=[0,0,0,g.toUInt8]:=by
  unfold be4
  rw [show (g >>> UInt32.ofNat 24).toUInt8=0 from UInt8.toNat_inj.1 (by rw [shr8 g 24 (by decide)]; show _=0; omega),show (g >>> UInt32.ofNat 16).toUInt8=0 from UInt8.toNat_inj.1 (by rw [shr8 g 16 (by decide)]; show _=0; omega),show (g >>> UInt32.ofNat 8).toUInt8=0 from UInt8.toNat_inj.1 (by rw [shr8 g 8 (by decide)]; show _=0; omega)]
theorem take4 {x:List UInt8} (h:4≤x.length):x.take 4=be4 (get4 x):=by
  rw [← get4_take x 4 (Nat.le_refl _),be4_get4 (by rw [List.length_take]; omega)]
theorem mix4 {a b:UInt8} {t:Nat} (h:t < 4):([0,0,0,a]:List UInt8).take t++([0,0,0,b]:List UInt8).drop t=[0,0,0,b]:=by
  have:t=0∨t=1∨t=2∨t=3:=by omega
  rcases this with rfl | rfl | rfl | rfl <;> rfl
theorem mixT {a b:UInt8} {t:Nat} (h:t < 4):([0,0,0,a]:List UInt8).take t=([0,0,0,b]:List UInt8).take t:=by
  have:t=0∨t=1∨t=2∨t=3:=by omega
  rcases this with rfl | rfl | rfl | rfl <;> rfl
theorem torn {x y:List UInt8} {t:Nat} (hx:Small x) (hy:Small y) (ht:t < 64):Small (x.take t++y.drop t)∧eg (x.take t++y.drop t)=eg y∧(sg (x.take t++y.drop t)=sg x∨x.take t++y.drop t=y):=by
  have hl:(x.take t++y.drop t).length=64:=by rw [List.length_append,List.length_take,List.length_drop,hx.len,hy.len]; omega
  have hxt:(x.take t).length=t:=by rw [List.length_take,hx.len]; omega
  have hxe:x.drop 60=[0,0,0,(get4 (x.drop 60)).toUInt8]:=by
    rw [← be4_small hx.e,be4_get4 (by rw [List.length_drop,hx.len])]
  have hye:y.drop 60=[0,0,0,(get4 (y.drop 60)).toUInt8]:=by
    rw [← be4_small hy.e,be4_get4 (by rw [List.length_drop,hy.len])]
  have he:(x.take t++y.drop t).drop 60=y.drop 60:=by
    by_cases c:t≤60
    · rw [List.drop_append,List.drop_of_length_le (by omega),List.nil_append,hxt,List.drop_drop,show t + (60 - t)=60 by omega]
    · rw [List.drop_append,hxt,show 60 - t=0 by omega,List.drop_zero,List.drop_take]
      have h2:y.drop t=(y.drop 60).drop (t - 60):=by rw [List.drop_drop,show 60 + (t - 60)=t by omega]
      rw [h2,hxe]
      conv=>lhs; rw [hye]
      rw [mix4 (by omega),← hye]
  have hxs:x.take 4=[0,0,0,(get4 x).toUInt8]:=by rw [take4 (by rw [hx.len]; decide),be4_small hx.s]
  have hys:y.take 4=[0,0,0,(get4 y).toUInt8]:=by rw [take4 (by rw [hy.len]; decide),be4_small hy.s]
  have hs:sg (x.take t++y.drop t)=sg x∨x.take t++y.drop t=y:=by
    by_cases c:4≤t
    · left
      unfold sg
      rw [← get4_take (x.take t++y.drop t) 4 (Nat.le_refl _),List.take_append_of_le_length (by omega),List.take_take,Nat.min_eq_left c,get4_take _ _ (Nat.le_refl _)]
    · right
      have h1:x.take t=y.take t:=by
        have e1:=congrArg (List.take t) hxs
        have e2:=congrArg (List.take t) hys
        rw [List.take_take,Nat.min_eq_left (by omega)] at e1 e2
        rw [e1,e2]
        exact mixT (by omega)
      rw [h1,List.take_append_drop]
  have hee:eg (x.take t++y.drop t)=eg y:=by unfold eg; rw [he]
  exact ⟨⟨hl,hs.elim (fun h=>Nat.lt_of_le_of_lt (Nat.le_of_eq h) hx.s) (fun h=>by rw [h]; exact hy.s),by rw [hee]; exact hy.e⟩,hee,hs⟩
theorem laid_marks {g:UInt32} {its:List It} {i:Nat} (h:i < itsN its):sg ((secsA g 0 its).getD i [])=g.toNat∧eg ((secsA g 0 its).getD i [])=g.toNat:=by
  have h1:=secsA_look g 0 its i h
  obtain ⟨e1,e2⟩:=look_0 (show ¬ lookS ((secsA g 0 its).getD i []) g ((0 + i:Nat):Int)=1 by rw [h1]; decide)
  exact ⟨congrArg UInt32.toNat e1,congrArg UInt32.toNat e2⟩
theorem laid_len {g:UInt32} {its:List It} {i:Nat} (h:i < itsN its):((secsA g 0 its).getD i []).length=64:=by
  rw [List.getD_eq_getElem?_getD,List.getElem?_eq_getElem (by rw [secsA_len]; exact h)]
  exact secsA_64 g 0 its _ (List.getElem_mem _)
theorem laid_small {g:UInt32} {its:List It} {i:Nat} (h:i < itsN its) (hg:g.toNat < 256):Small ((secsA g 0 its).getD i []) :=
  ⟨laid_len h,by rw [(laid_marks h).1]; exact hg,by rw [(laid_marks h).2]; exact hg⟩
theorem look_other {x:List UInt8} {g:UInt32} {k:Int} (h:eg x < g.toNat):lookS x g k=1:=by
  rw [lookS,if_pos (.inr fun e=>by
    have:=congrArg UInt32.toNat e
    unfold eg at h
    omega)]
/-! writing while power may go -/
theorem write_any {s:Sl} {j:Nat} (hj:j < s.n) (b:List UInt8):(s.write j b=(5,s)∧s.down=true)∨(s.write j b=(5,s.off)∧s.down=false)∨(s.write j b=(0,{ s.on with q:=s.q++[⟨j,b⟩] })∧s.down=false):=by
  by_cases h1:s.down=true
  · exact .inl ⟨by rw [Sl.write,if_pos h1],h1⟩
  · have h1':s.down=false:=by simpa using h1
    by_cases h2:s.fuse=0
    · exact .inr (.inl ⟨by rw [Sl.write,if_neg h1,if_neg (by omega),if_pos h2],h1'⟩)
    · exact .inr (.inr ⟨by rw [Sl.write,if_neg h1,if_neg (by omega),if_neg h2]; rfl,h1'⟩)
theorem writeL_any:∀ (l:List (List UInt8)) {s:Sl} {j:Nat},j + l.length≤s.n→∃ m,m≤l.length∧(s.writeL j l).2.q=s.q++wl j (l.take m)∧(s.writeL j l).2.xs=s.xs∧(s.writeL j l).2.n=s.n ∧
    (((s.writeL j l).1=0∧m=l.length∧(s.writeL j l).2.down=s.down)∨((s.writeL j l).1=5∧m < l.length∧(s.writeL j l).2.down=true))
  | [],s,j,_=>⟨0,Nat.le_refl _,by simp [Sl.writeL,wl],rfl,rfl,.inl ⟨rfl,rfl,rfl⟩⟩
  | b::t,s,j,hj=>by
    simp only [List.length_cons] at hj
    rcases write_any (show j < s.n by omega) b with ⟨e,hd⟩ | ⟨e,hd⟩ | ⟨e,hd⟩
    · refine ⟨0,Nat.zero_le _,?_,?_,?_,.inr ⟨?_,by simp,?_⟩⟩ <;> rw [Sl.writeL,e,if_neg (show ¬ (5:Int)=0 by decide)]
      · simp [wl]
      · exact hd
    · refine ⟨0,Nat.zero_le _,?_,?_,?_,.inr ⟨?_,by simp,?_⟩⟩ <;> rw [Sl.writeL,e,if_neg (show ¬ (5:Int)=0 by decide)]
      · simp [wl,Sl.off]
      · rfl
      · rfl
      · rfl
    · obtain ⟨m,h1,h2,h3,h4,h5⟩:=writeL_any t (s:={ s.on with q:=s.q++[⟨j,b⟩] }) (j:=j + 1) (by show j + 1 + t.length≤s.n; omega)
      have ew:s.writeL j (b::t)=Sl.writeL { s.on with q:=s.q++[⟨j,b⟩] } (j + 1) t:=by rw [Sl.writeL,e,if_pos rfl]
      rw [ew]
      refine ⟨m + 1,by simp; omega,?_,h3,h4,?_⟩
      · rw [h2,List.take_succ_cons,wl,List.append_assoc]
        rfl
      · rcases h5 with ⟨a1,a2,a3⟩ | ⟨a1,a2,a3⟩
        · exact .inl ⟨a1,by simp [a2],a3⟩
        · exact .inr ⟨a1,by simp; omega,a3⟩
theorem writeL_down {s:Sl} (hd:s.down=true) {j:Nat} {b:List UInt8} {t:List (List UInt8)}:s.writeL j (b::t)=(5,s):=by
  have e:s.write j b=(5,s):=by rw [Sl.write,if_pos hd]
  rw [Sl.writeL,e,if_neg (show ¬ (5:Int)=0 by decide)]
def base (g:UInt32):Nat:=(g % 2).toNat * 2000
def ob (g:UInt32):Nat:=(1 - (g % 2).toNat) * 2000
theorem base_ob (g:UInt32):(base g=0∧ob g=2000)∨(base g=2000∧ob g=0):=by
  unfold base ob
  rcases odd01 g with h | h <;> rw [h]
  · exact .inl ⟨rfl,rfl⟩
  · exact .inr ⟨rfl,rfl⟩
structure QW (s:Sl) (g:UInt32) (pf:Nat) (its:List It) (M:Nat) (x0:It):Prop where
  q:s.q=wl (base g + pf) (((secsA g 0 (its++[x0])).take M).drop pf)
  lo:itsN its≤M
  hi:M < itsN (its++[x0])
  pfM:pf≤itsN its
  M2:M≤2000
  up:s.down=false→M=itsN its
theorem take_its {g:UInt32} {its:List It} {x:It} {m:Nat} (h:m≤need x.2.length):(secsA g 0 (its++[x])).take (itsN its + m)=secsA g 0 its++(secs g (itsN its:Nat) x.1 x.2).take m:=by
  rw [secsA_app,Nat.zero_add,show secsA g (itsN its) [x]=secs g (itsN its:Nat) x.1 x.2 by simp [secsA],List.take_append,secsA_len,List.take_of_length_le (by rw [secsA_len]; omega),Nat.add_sub_cancel_left]
theorem take_its0 {g:UInt32} {its:List It} {x:It}:(secsA g 0 (its++[x])).take (itsN its)=secsA g 0 its:=by
  have:=take_its (g:=g) (its:=its) (x:=x) (m:=0) (Nat.zero_le _)
  simpa using this
theorem need_pos (n:Nat):1≤need n:=by unfold need; omega
theorem itsN_snoc (its:List It) (x:It):itsN (its++[x])=itsN its + need x.2.length:=by rw [itsN_app]; rfl
theorem QW.put {s:Sl} {g:UInt32} {pf M:Nat} {its:List It} {x0:It} (h:QW s g pf its M x0) (hn:s.n=4000) (fl:UInt8) {p:List UInt8} (hp:p.length≤2048) :
    ∃ its' M' x0',QW (dput s g (itsN its) fl p).2.1 g pf its' M' x0'∧(dput s g (itsN its) fl p).2.1.xs=s.xs∧(dput s g (itsN its) fl p).2.1.n=s.n∧(dput s g (itsN its) fl p).2.2=itsN its' ∧
      (((dput s g (itsN its) fl p).1=0∧its'=its++[(fl,p)]∧x0'=(0,[]))∨(¬ (dput s g (itsN its) fl p).1=0∧((dput s g (itsN its) fl p).1=4∨(dput s g (itsN its) fl p).1=5)∧its'=its∧(x0'=x0∨x0'=(fl,p)))):=by
  have hle:itsN its≤2000:=Nat.le_trans h.lo h.M2
  have hl:=secs_len g (itsN its:Nat) fl p
  have hnp:=need_pos p.length
  by_cases c2:(s.n / 2:Int) - itsN its < need p.length
  · have e:dput s g (itsN its) fl p=(4,s,itsN its):=(if_neg (by omega)).trans (if_pos c2)
    rw [e]
    exact ⟨its,M,x0,h,rfl,rfl,rfl,.inr ⟨by show ¬ (4:Int)=0; decide,.inl rfl,rfl,.inl rfl⟩⟩
  have hb:half s.n g=base g:=by rw [hn]; rfl
  have hroom:itsN its + need p.length≤2000:=by omega
  by_cases hd:s.down=true
  · have hne:∃ b t,secs g (itsN its:Nat) fl p=b::t:=by
      cases hc:secs g (itsN its:Nat) fl p with
      | nil=>rw [hc] at hl; simp at hl; omega
      | cons b t=>exact ⟨b,t,rfl⟩
    obtain ⟨b,t,hbt⟩:=hne
    have e:dput s g (itsN its) fl p=(5,s,itsN its):=by
      unfold dput
      rw [if_neg (by omega),if_neg c2,hbt,writeL_down hd,if_neg (show ¬ (5:Int)=0 by decide)]
    rw [e]
    exact ⟨its,M,x0,h,rfl,rfl,rfl,.inr ⟨by show ¬ (5:Int)=0; decide,.inr rfl,rfl,.inl rfl⟩⟩
  have hd':s.down=false:=by simpa using hd
  have hM:=h.up hd'
  have hq:s.q=wl (base g + pf) ((secsA g 0 its).drop pf):=by rw [h.q,hM,take_its0]
  have hbo:=base_ob g
  obtain ⟨m,h1,h2,h3,h4,h5⟩:=writeL_any (secs g (itsN its:Nat) fl p) (s:=s) (j:=half s.n g + itsN its) (by rw [hb,hl]; omega)
  rw [hb] at h2 h3 h4 h5
  rw [hl] at h1 h5
  have hq2:s.q++wl (base g + itsN its) ((secs g (itsN its:Nat) fl p).take m)=wl (base g + pf) (((secsA g 0 (its++[(fl,p)])).take (itsN its + m)).drop pf):=by
    rw [take_its (x:=(fl,p)) h1,List.drop_append_of_le_length (by rw [secsA_len]; exact h.pfM),wl_app,hq,List.length_drop,secsA_len,show base g + pf + (itsN its - pf)=base g + itsN its by have:=h.pfM; omega]
  rcases h5 with ⟨a1,a2,a3⟩ | ⟨a1,a2,a3⟩
  · have e:dput s g (itsN its) fl p=(0,(s.writeL (base g + itsN its) (secs g (itsN its:Nat) fl p)).2,itsN its + need p.length):=by
      unfold dput
      rw [if_neg (by omega),if_neg c2,hb,if_pos a1]
    rw [e]
    have hN1:itsN (its++[(fl,p)])=itsN its + need p.length:=itsN_snoc its (fl,p)
    have hN2:itsN (its++[(fl,p)]++[((0:UInt8),([]:List UInt8))])=itsN its + need p.length + 1:=by rw [itsN_snoc,hN1]; rfl
    have hpf:=h.pfM
    refine ⟨its++[(fl,p)],itsN its + need p.length,(0,[]),⟨?_,Nat.le_of_eq hN1,by rw [hN2]; exact Nat.lt_succ_self _,by rw [hN1]; omega,hroom,fun _=>hN1.symm⟩,h3,h4,hN1.symm,.inl ⟨rfl,rfl,rfl⟩⟩
    show (s.writeL (base g + itsN its) (secs g (itsN its:Nat) fl p)).2.q=_
    rw [h2,hq2,a2]
    have:=take_its0 (g:=g) (its:=its++[(fl,p)]) (x:=(0,[]))
    rw [itsN_snoc] at this
    rw [this,← itsN_snoc its (fl,p),List.take_of_length_le (by rw [secsA_len]; exact Nat.le_refl _)]
  · have e:dput s g (itsN its) fl p=(5,(s.writeL (base g + itsN its) (secs g (itsN its:Nat) fl p)).2,itsN its):=by
      unfold dput
      rw [if_neg (by omega),if_neg c2,hb,if_neg (by rw [a1]; decide),a1]
    rw [e]
    refine ⟨its,itsN its + m,(fl,p),⟨?_,Nat.le_add_right _ _,by rw [itsN_snoc]; show itsN its + m < itsN its + need p.length; omega,h.pfM,by omega,fun hu=>?_⟩,h3,h4,rfl,.inr ⟨by show ¬ (5:Int)=0; decide,.inr rfl,rfl,.inr rfl⟩⟩
    · show (s.writeL (base g + itsN its) (secs g (itsN its:Nat) fl p)).2.q=_
      rw [h2,hq2]
    · have hu':(s.writeL (base g + itsN its) (secs g (itsN its:Nat) fl p)).2.down=false:=hu
      rw [a3] at hu'
      cases hu'
theorem dput_upE {s:Sl} (h:Up s) {g:UInt32} {nx:Nat} {fl:UInt8} {p:List UInt8} (hn:s.n=4000):Up (dput s g nx fl p).2.1∧((dput s g nx fl p).1=5→False):=by
  unfold dput
  split
  · exact ⟨h,fun e=>by cases e⟩
  split
  · exact ⟨h,fun e=>by cases e⟩
  · rename_i h1 h2
    have hb:=base_ob g
    have hh:half s.n g=base g:=by rw [hn]; rfl
    obtain ⟨a,b,c,d⟩:=writeL_up (secs g (nx:Nat) fl p) (s:=s) (j:=half s.n g + nx) h (by rw [secs_len,hh]; omega)
    rw [if_pos a]
    exact ⟨b,fun e=>by cases e⟩
theorem QW.puts:∀ (recs:List (List UInt8)) {s:Sl} {g:UInt32} {pf M:Nat} {its:List It} {x0:It},QW s g pf its M x0→s.n=4000→(∀ p∈recs,p.length≤2048)→x0.1=0 →
    ∃ its' M' x0',QW (dputs s g (itsN its) recs).2.1 g pf its' M' x0'∧(dputs s g (itsN its) recs).2.1.xs=s.xs∧(dputs s g (itsN its) recs).2.1.n=s.n∧(dputs s g (itsN its) recs).2.2=itsN its'∧x0'.1=0 ∧
      (((dputs s g (itsN its) recs).1=0∧its'=its++recs.map fun p=>((0:UInt8),p))∨(¬ (dputs s g (itsN its) recs).1=0∧((dputs s g (itsN its) recs).1=4∨(dputs s g (itsN its) recs).1=5)∧∃ r:List (List UInt8),its'=its++r.map fun p=>((0:UInt8),p)))∧(Up s→Up (dputs s g (itsN its) recs).2.1∧((dputs s g (itsN its) recs).1=5→False))
  | [],s,g,pf,M,its,x0,h,hn,_,h0=>⟨its,M,x0,h,rfl,rfl,rfl,h0,.inl ⟨rfl,by simp⟩,fun hu=>⟨hu,fun e=>by cases e⟩⟩
  | p::t,s,g,pf,M,its,x0,h,hn,hl,h0=>by
    obtain ⟨its1,M1,x1,q1,e1,e2,e3,e4⟩:=h.put hn 0 (hl p (List.mem_cons_self ..))
    rcases e4 with ⟨a1,rfl,rfl⟩ | ⟨a1,a2,rfl,a3⟩
    · rw [dputs_cons a1,e3]
      obtain ⟨its2,M2,x2,q2,f1,f2,f3,f4,f5,f6⟩:=QW.puts t q1 (e2.trans hn) (fun y hy=>hl y (List.mem_cons_of_mem _ hy)) rfl
      refine ⟨its2,M2,x2,q2,f1.trans e1,f2.trans e2,f3,f4,?_,fun hu=>f6 (dput_upE hu hn).1⟩
      rcases f5 with ⟨b1,rfl⟩ | ⟨b1,b2,r,rfl⟩
      · exact .inl ⟨b1,by simp⟩
      · exact .inr ⟨b1,b2,p::r,by simp⟩
    · rw [dputs_stop a1]
      refine ⟨its1,M1,x1,q1,e1,e2,e3,?_,.inr ⟨a1,a2,[],by simp⟩,fun hu=>dput_upE hu hn⟩
      rcases a3 with rfl | rfl
      · exact h0
      · rfl
theorem QW.flush {s:Sl} {g:UInt32} {pf M:Nat} {its:List It} {x0:It} (h:QW s g pf its M x0):(s.flush.1=5∧QW s.flush.2 g pf its M x0∧s.flush.2.xs=s.xs∧s.flush.2.n=s.n) ∨
    (s.flush.1=0∧M=itsN its∧QW s.flush.2 g (itsN its) its (itsN its) (0,[])∧s.flush.2.xs=putQ s.xs s.q∧s.flush.2.n=s.n):=by
  by_cases hd:s.down=true
  · have e:s.flush=(5,s):=by rw [Sl.flush,if_pos hd]
    rw [e]
    exact .inl ⟨rfl,h,rfl,rfl⟩
  · have hd':s.down=false:=by simpa using hd
    by_cases hf:s.fuse=0
    · have e:s.flush=(5,s.off):=by rw [Sl.flush,if_neg hd,if_pos hf]
      rw [e]
      exact .inl ⟨rfl,⟨h.q,h.lo,h.hi,h.pfM,h.M2,fun hu=>by cases hu⟩,rfl,rfl⟩
    · have e:s.flush=(0,{ s.on with xs:=putQ s.xs s.q,q:=[] }):=by rw [Sl.flush,if_neg hd,if_neg hf]
      rw [e]
      have hM:=h.up hd'
      refine .inr ⟨rfl,hM,⟨?_,Nat.le_refl _,by rw [itsN_snoc]; exact Nat.lt_add_of_pos_right (need_pos _),Nat.le_refl _,hM ▸ h.M2,fun _=>rfl⟩,rfl,rfl⟩
      show ([]:List Wr)=_
      rw [List.drop_of_length_le (by rw [List.length_take]; omega)]
      rfl
/-! behind a crash -/
def tdX (xs:List UInt8) (h:Nat):Option Td:=rdHalf (fun k=>sec xs (h * 2000 + k)) h 2000
theorem rdGo_congr {F G:Nat→List UInt8} {g:UInt32}:∀ (m k:Nat) (recs:List (List UInt8)) (sure:Bool) (part:List UInt8) (op:Bool),(∀ i,k≤i→i < k + m→F i=G i)→rdGo F g m k recs sure part op=rdGo G g m k recs sure part op
  | 0,_,_,_,_,_,_=>rfl
  | m + 1,k,recs,sure,part,op,h=>by
    have h0:=h k (Nat.le_refl _) (by omega)
    have ih:=fun a b c d=>rdGo_congr (g:=g) m (k + 1) a b c d (fun i h1 h2=>h i (by omega) (by omega))
    rw [rdGo,rdGo,h0,ih,ih,ih]
theorem rdHalf_congr {F G:Nat→List UInt8} {h many:Nat} (e:∀ i,i < many→F i=G i):rdHalf F h many=rdHalf G h many:=by
  by_cases hm:many=0
  · rw [rdHalf,rdHalf,if_pos (.inl hm),if_pos (.inl hm)]
  · rw [rdHalf,rdHalf,e 0 (by omega),rdGo_congr many 0 [] false [] false (fun i _ h2=>e i (by omega))]
theorem tdX_congr {xs ys:List UInt8} {h:Nat} (e:∀ i,i < 2000→sec xs (h * 2000 + i)=sec ys (h * 2000 + i)):tdX xs h=tdX ys h:=rdHalf_congr e
theorem rdHalf_par {F:Nat→List UInt8} {h many:Nat} {td:Td} (e:rdHalf F h many=some td):td.gen=0∨(td.gen % 2).toNat=h:=by
  unfold rdHalf at e
  split at e
  · cases e; exact .inl rfl
  · rename_i hc
    cases hr:rdGo F (get4 (F 0)) many 0 [] false [] false with
    | none=>rw [hr] at e; cases e
    | some r =>
      rw [hr] at e
      cases e
      exact .inr (Classical.byContradiction fun h9=>hc (.inr (.inr (.inr h9))))
theorem wh_pre1:∀ (t:List It) (x:It) (K:Nat),K < itsN (t++[x])→∃ u,t=wh K (t++[x])++u
  | [],x,K,h=>by
    refine ⟨[],?_⟩
    have h2:K < need x.2.length:=by rw [itsN_snoc] at h; simpa [itsN] using h
    rw [List.nil_append,wh,if_neg (by omega)]
    rfl
  | y::t,x,K,h=>by
    have h2:K < need y.2.length + itsN (t++[x]):=h
    rw [List.cons_append,wh]
    split
    · obtain ⟨u,hu⟩:=wh_pre1 t x (K - need y.2.length) (by omega)
      exact ⟨u,by rw [List.cons_append,← hu]⟩
    · exact ⟨y::t,rfl⟩
structure HC (xs:List UInt8) (g:UInt32) (pf:Nat) (its:List It):Prop where
  a:∀ i,i < pf→sec xs (base g + i)=(secsA g 0 its).getD i []
  b:∀ i,pf≤i→i < 2000→eg (sec xs (base g + i)) < g.toNat
structure CH (s s':Sl) (g:UInt32) (pf:Nat) (its:List It) (x0:It) (K M:Nat) (N At:Int):Prop where
  K1:pf≤K
  K2:K≤M
  k3:pf < K→1≤N∨64≤At
  hc:HC s'.xs g K (its++[x0])
  small:∀ p,p < 4000→Small (sec s'.xs p)
  oth:∀ i,i < 2000→sec s'.xs (ob g + i)=sec s.xs (ob g + i)
  zero:K=0→(∀ i,i < 2000→sec s'.xs (base g + i)=sec s.xs (base g + i))∨(tdX s'.xs (g % 2).toNat=some ⟨0,[],false⟩∧¬ 1≤N∧¬ 64≤At)
theorem crash_half {s:Sl} {g:UInt32} {pf M:Nat} {its:List It} {x0:It} (hok:s.Ok) (hn:s.n=4000) (hq:QW s g pf its M x0) (hh:HC s.xs g pf its) (hs:∀ p,p < 4000→Small (sec s.xs p)) (hg:g.toNat < 256) (N At:Int) :
    ∃ K,CH s (s.crash N At) g pf its x0 K M N At:=by
  have hbo:=base_ob g
  obtain ⟨W,hW⟩:∃ W,secsA g 0 (its++[x0])=W:=⟨_,rfl⟩
  have hWl:W.length=itsN (its++[x0]):=by rw [← hW,secsA_len]
  have hMW:M≤W.length:=by have:=hq.hi; omega
  have hpM:pf≤M:=Nat.le_trans hq.pfM hq.lo
  obtain ⟨V,hV⟩:∃ V,(W.take M).drop pf=V:=⟨_,rfl⟩
  have hVl:V.length=M - pf:=by rw [← hV,List.length_drop,List.length_take]; omega
  have hVg:∀ i,i < M - pf→V.getD i []=W.getD (pf + i) []:=fun i hi=>by
    rw [← hV,List.getD_eq_getElem?_getD,List.getElem?_drop,List.getElem?_take,if_pos (by omega),← List.getD_eq_getElem?_getD]
  have hWs:∀ i,i < M→Small (W.getD i []):=fun i hi=>by rw [← hW]; exact laid_small (by have:=hq.hi; omega) hg
  have hWm:∀ i,i < M→sg (W.getD i [])=g.toNat:=fun i hi=>by rw [← hW]; exact (laid_marks (by have:=hq.hi; omega)).1
  have hV64:∀ x∈V,x.length=64:=fun x hx=>by
    rw [← hV] at hx
    exact secsA_64 g 0 (its++[x0]) x (hW ▸ List.mem_of_mem_take (List.mem_of_mem_drop hx))
  have hM2:=hq.M2
  have hqV:s.q=wl (base g + pf) V:=by rw [hq.q,hW,hV]
  obtain ⟨M1,c1,c2,c3,c4,hC⟩:=crash_wl hok hqV hV64 (by rw [hVl]; omega) N At
  rw [hVl] at c1 c2 c4
  have hitW:∀ i,i < pf→(secsA g 0 its).getD i []=W.getD i []:=fun i hi=>by
    rw [← hW,secsA_app,getD_appL (by rw [secsA_len]; have:=hq.pfM; omega)]
  have hlow:∀ i,i < pf + M1→sec (s.crash N At).xs (base g + i)=W.getD i []:=fun i hi=>by
    obtain ⟨h1,h2⟩:=hC (base g + i) (by omega)
    by_cases c:i < pf
    · rcases h2 (by omega) with h2 | ⟨h2,_⟩
      · rw [h2,hh.a i c,hitW i c]
      · omega
    · rw [h1 (by omega),show base g + i - (base g + pf)=i - pf by omega,hVg _ (by omega),show pf + (i - pf)=i by omega]
  have hhigh:∀ i,pf + M1≤i→i < 2000→Small (sec (s.crash N At).xs (base g + i))∧eg (sec (s.crash N At).xs (base g + i))=eg (sec s.xs (base g + i))∧(sec (s.crash N At).xs (base g + i)=sec s.xs (base g + i)∨(i=pf + M1∧M1 < M - pf∧sg (sec (s.crash N At).xs (base g + i))=g.toNat)):=fun i h1 h2=>by
    have hsm:=hs (base g + i) (by omega)
    rcases (hC (base g + i) (by omega)).2 (by omega) with e | ⟨e1,e2,t,ht,e3⟩
    · rw [e]; exact ⟨hsm,rfl,.inl rfl⟩
    · have hi:i=pf + M1:=by omega
      rw [hVl] at e2
      have hx:V.getD M1 []=W.getD (pf + M1) []:=hVg M1 e2
      have ht2:=torn (x:=V.getD M1 []) (hx ▸ hWs (pf + M1) (by omega)) hsm ht
      rw [e3]
      refine ⟨ht2.1,ht2.2.1,ht2.2.2.elim (fun h=>.inr ⟨hi,e2,?_⟩) .inl⟩
      rw [h,hx,hWm _ (by omega)]
  refine ⟨pf + M1,Nat.le_add_right _ _,by omega,fun h=>c3 (by omega),⟨fun i hi=>by rw [hlow i hi,hW],fun i h1 h2=>?_⟩,fun p hp=>?_,fun i hi=>?_,fun hK=>?_⟩
  · rw [(hhigh i h1 h2).2.1]
    exact hh.b i (by omega) h2
  · by_cases c:base g≤p∧p < base g + 2000
    · rw [show p=base g + (p - base g) by omega]
      by_cases c5:p - base g < pf + M1
      · rw [hlow _ c5]; exact hWs _ (by omega)
      · exact (hhigh _ (by omega) (by omega)).1
    · rcases (hC p (by omega)).2 (by omega) with e | ⟨e1,e2,_⟩
      · rw [e]; exact hs p hp
      · rw [hVl] at e2; omega
  · rcases (hC (ob g + i) (by omega)).2 (by omega) with e | ⟨e1,e2,_⟩
    · exact e
    · rw [hVl] at e2; omega
  · have h0:=hhigh 0 (by omega) (by omega)
    rcases h0.2.2 with e | ⟨_,e2,e3⟩
    · left
      intro i hi
      by_cases ci:i=0
      · rw [ci]; exact e
      · rcases (hhigh i (by omega) hi).2.2 with e9 | ⟨e9,_⟩
        · exact e9
        · omega
    · right
      have hneN:¬ 1≤N:=fun h=>by
        have:1≤clampN N (M - pf):=by unfold clampN; omega
        omega
      have hneA:¬ 64≤At:=fun h=>by
        rcases c4 h with h9 | h9
        · omega
        · omega
      refine ⟨?_,hneN,hneA⟩
      have hb:(g % 2).toNat * 2000=base g:=rfl
      have h8:eg (sec s.xs (base g + 0)) < g.toNat:=hh.b 0 (by omega) (by omega)
      refine if_pos (.inr (.inr (.inl fun h9=>?_)))
      have h9':get4 ((sec (s.crash N At).xs (base g + 0)).drop 60)=get4 (sec (s.crash N At).xs (base g + 0)):=h9
      have h10:eg (sec (s.crash N At).xs (base g + 0))=sg (sec (s.crash N At).xs (base g + 0)):=congrArg UInt32.toNat h9'
      rw [h0.2.1,e3] at h10
      omega
theorem HC.told {xs:List UInt8} {g:UInt32} {K:Nat} {its:List It} (h:HC xs g K its) (h1:1≤K) (h2:K≤itsN its) (h3:K≤2000) (hk:okM false its) (hg:0 < g.toNat):tdX xs (g % 2).toNat=some ⟨g,recsOf (wh K its),markOf (wh K its)⟩:=by
  have hS:Stop (fun k=>sec xs ((g % 2).toNat * 2000 + k)) g (2000 - K) K true:=by
    by_cases c:K=2000
    · rw [c]; exact stop_0 _ _ _
    · rw [show 2000 - K=(2000 - K - 1) + 1 by omega]
      exact stop_1 (look_other (h.b K (Nat.le_refl _) (by omega)))
  have:=rdHalf_all (F:=fun k=>sec xs ((g % 2).toNat * 2000 + k)) (g:=g) (h:=(g % 2).toNat) (many:=2000) (M:=K) (m:=2000 - K) (res:=true) (its:=its) (by omega) h1 h2 hk (fun e=>by rw [e] at hg; exact absurd hg (by decide)) rfl (fun i hi=>h.a i hi) hS
  rw [if_pos rfl] at this
  exact this
theorem okM_app0:∀ (b:Bool) (t:List It) (x:It),x.1=0→okM b t→okM b (t++[x])
  | b,[],x,h,_=>.inl ⟨h,trivial⟩
  | b,y::t,x,h,hk=>by
    rcases hk with ⟨h1,h2⟩ | ⟨h1,h2,h3⟩
    · exact .inl ⟨h1,okM_app0 b t x h h2⟩
    · exact .inr ⟨h1,h2,okM_app0 true t x h h3⟩
theorem okM_zeros:∀ (t:List It),(∀ y∈t,y.1=0)→∀ u,okM false u→okM false (t++u)
  | [],_,u,hu=>hu
  | y::t,h,u,hu=>.inl ⟨h y (List.mem_cons_self ..),okM_zeros t (fun z hz=>h z (List.mem_cons_of_mem _ hz)) u hu⟩
theorem markOf_zeros {t:List It} (h:∀ y∈t,y.1=0):markOf t=false:=by
  rw [markOf,List.any_eq_false]
  intro y hy
  rw [h y hy]
  decide
structure Run (s:Sl) (c:UInt32) (its0 its1:List It) (M:Nat) (x0:It):Prop where
  ok:s.Ok
  n:s.n=4000
  qw:QW s c (itsN its0) (its0++its1) M x0
  x0:x0.1=0
  hc:HC s.xs c (itsN its0) (its0++its1)
  km:okM false (its0++its1)
  mrk:markOf its0=true
  c0:0 < c.toNat
  oth:∃ td,tdX s.xs (1 - (c % 2).toNat)=some td∧td.gen.toNat < c.toNat
  oe:∀ i,i < 2000→eg (sec s.xs (ob c + i)) < c.toNat
  small:∀ p,p < 4000→Small (sec s.xs p)
structure Rest (s:Sl) (c go:UInt32) (l:List (List UInt8)):Prop where
  ok:s.Ok
  n:s.n=4000
  up:Up s
  q:s.q=[]
  c0:0 < c.toNat
  cur:tdX s.xs (c % 2).toNat=some ⟨c,l,true⟩
  ce:∀ i,i < 2000→eg (sec s.xs (base c + i))≤c.toNat
  oth:∃ td,tdX s.xs (1 - (c % 2).toNat)=some td∧td.gen=go∧(td.sure=true→go.toNat < c.toNat)
  oe:∀ i,i < 2000→eg (sec s.xs (ob c + i)) < (nextG c go).toNat
  small:∀ p,p < 4000→Small (sec s.xs p)
theorem nextG_nat {c go:UInt32} (h1:c.toNat < 300) (h2:go.toNat < 300):(nextG c go).toNat=if c.toNat < go.toNat then go.toNat + 2 else c.toNat + 1:=by
  unfold nextG
  split
  · rw [UInt32.toNat_add]
    show (go.toNat + 2) % 4294967296=_
    omega
  · rw [UInt32.toNat_add]
    show (c.toNat + 1) % 4294967296=_
    omega
theorem HC.ce {xs:List UInt8} {g:UInt32} {K:Nat} {its:List It} (h:HC xs g K its) (hK:K≤itsN its):∀ i,i < 2000→eg (sec xs (base g + i))≤g.toNat:=fun i hi=>by
  by_cases c:i < K
  · rw [h.a i c,(laid_marks (by omega)).2]
    exact Nat.le_refl _
  · exact Nat.le_of_lt (h.b i (by omega) hi)
theorem run_crash {s:Sl} {c:UInt32} {its0 its1:List It} {M:Nat} {x0:It} (h:Run s c its0 its1 M x0) (hc:c.toNat < 256) (N At:Int) :
    ∃ go l u v,Rest (s.crash N At) c go l∧go.toNat < c.toNat∧l=recsOf its0++u∧recsOf (its0++its1)=l++v:=by
  obtain ⟨K,hK⟩:=crash_half h.ok h.n h.qw h.hc h.small hc N At
  have hKi:K < itsN (its0++its1++[x0]):=Nat.lt_of_le_of_lt hK.K2 h.qw.hi
  have h1:1≤itsN its0:=by
    cases hi:its0 with
    | nil=>have:=h.mrk; rw [hi] at this; cases this
    | cons y t =>
      have e:itsN (y::t)=need y.2.length + itsN t:=rfl
      have:=need_pos y.2.length
      omega
  have htd:=hK.hc.told (Nat.le_trans h1 hK.K1) (Nat.le_of_lt hKi) (Nat.le_trans hK.K2 h.qw.M2) (okM_app0 _ _ _ h.x0 h.km) h.c0
  have hw:wh K (its0++its1++[x0])=its0++wh (K - itsN its0) (its1++[x0]):=by rw [List.append_assoc,wh_app _ _ _ hK.K1]
  obtain ⟨v,hv⟩:=wh_pre1 its1 x0 (K - itsN its0) (by rw [List.append_assoc,itsN_app] at hKi; have:=hK.K1; omega)
  rw [hw,recsOf_app,markOf_app,h.mrk,Bool.true_or] at htd
  obtain ⟨td,ho1,ho2⟩:=h.oth
  refine ⟨td.gen,_,recsOf (wh (K - itsN its0) (its1++[x0])),recsOf v,⟨Sl.crash_ok h.ok _ _,h.n,⟨rfl,rfl⟩,rfl,h.c0,htd,hK.hc.ce (Nat.le_of_lt hKi),⟨td,?_,rfl,fun _=>ho2⟩,fun i hi=>?_,hK.small⟩,ho2,rfl,?_⟩
  · rw [← ho1]
    exact tdX_congr fun i hi=>hK.oth i hi
  · rw [hK.oth i hi,nextG_nat (by omega) (by omega),if_neg (by omega)]
    have:=h.oe i hi
    omega
  · exact (recsOf_app its0 its1).trans ((congrArg (recsOf its0++·) ((congrArg recsOf hv).trans (recsOf_app _ _))).trans (List.append_assoc ..).symm)
theorem tdH_rest {s:Sl} (hn:s.n=4000) (hq:s.q=[]) (h:Nat):tdH s h=tdX s.xs h:=by
  unfold tdH tdX
  rw [hn]
  refine rdHalf_congr fun i _=>?_
  show ofW s.q _ _=_
  rw [hq]
  rfl
theorem rest_load {s:Sl} {c go:UInt32} {l:List (List UInt8)} (h:Rest s c go l):dload (tdH s 0) (tdH s 1)=(0,nextG c go,l):=by
  rw [tdH_rest h.n h.q,tdH_rest h.n h.q]
  obtain ⟨td,h1,rfl,h3⟩:=h.oth
  have hcur:=h.cur
  have g3:=h3
  rcases odd01 c with e | e
  · rw [e] at hcur h1
    have h1':tdX s.xs 1=some td:=h1
    rw [hcur,h1',dload,if_pos]
    refine ⟨rfl,?_⟩
    by_cases hs:td.sure=true
    · exact .inr (h3 hs)
    · exact .inl hs
  · rw [e] at hcur h1
    have h1':tdX s.xs 0=some td:=h1
    rw [hcur,h1',dload,if_neg,if_pos rfl]
    rintro ⟨hs,h4 | h4⟩
    · exact h4 rfl
    · have h5:c.toNat < td.gen.toNat:=h4
      have:=h3 hs
      omega
theorem Rest.par {s:Sl} {c go:UInt32} {l:List (List UInt8)} (h:Rest s c go l) (hb:(nextG c go).toNat < 256) (hgo:go.toNat < 300) (hc:c.toNat < 300):(nextG c go % 2).toNat=1 - (c % 2).toNat∧c.toNat < (nextG c go).toNat:=by
  have e:=nextG_nat hc hgo
  have m:∀ g:UInt32,(g % 2).toNat=g.toNat % 2:=fun g=>by rw [UInt32.toNat_mod]; rfl
  obtain ⟨td,h1,h2,h3⟩:=h.oth
  have hp:=rdHalf_par h1
  rw [m,m]
  rw [m] at hp
  rw [m,h2] at hp
  by_cases hlt:c.toNat < go.toNat
  · rw [if_pos hlt] at e
    rcases hp with hp | hp
    · rw [hp] at hlt
      exact absurd hlt (Nat.not_lt_zero _)
    · omega
  · rw [if_neg hlt] at e
    omega
structure Began (s0 s:Sl) (g:UInt32) (recs:List (List UInt8)) (e:Int) (its:List It) (M:Nat) (x0:It) (pf:Nat):Prop where
  qw:QW s g pf its M x0
  n:s.n=s0.n
  shape:∃ t:List It,(∀ y∈t,y.1=0)∧((its=t∧(x0.1=0∨x0.1=4))∨(its=t++[(4,[])]∧x0.1=0∧recsOf its=recs))
  pfx:(pf=0∧s.xs=s0.xs)∨(pf=itsN its∧M=itsN its∧s.xs=putQ s0.xs (wl (base g) (secsA g 0 its))∧markOf its=true)
  ok:e=0→pf=itsN its∧markOf its=true∧its=recs.map (fun p=>((0:UInt8),p))++[(4,[])]∧x0=(0,[])
theorem wh_zeros:∀ (t:List It),(∀ y∈t,y.1=0)→∀ (u:List It) (K:Nat),K≤itsN t→markOf (wh K (t++u))=false
  | [],_,u,K,h=>by
    have hK:K=0:=by simp [itsN] at h; exact h
    cases u with
    | nil=>rfl
    | cons y u =>
      have:=need_pos y.2.length
      rw [List.nil_append,wh,if_neg (by omega)]
      rfl
  | y::t,hz,u,K,h=>by
    have e:itsN (y::t)=need y.2.length + itsN t:=rfl
    rw [List.cons_append,wh]
    split
    · have ih:=wh_zeros t (fun z hz'=>hz z (List.mem_cons_of_mem _ hz')) u (K - need y.2.length) (by omega)
      have h0:y.1=0:=hz y (List.mem_cons_self ..)
      have hd:decide (y.1=4)=false:=by rw [h0]; decide
      have e2:∀ r:List It,markOf (y::r)=(decide (y.1=4) || markOf r):=fun r=>rfl
      rw [e2,hd,ih]
      rfl
    · rfl
theorem Began.okm {s0 s:Sl} {g:UInt32} {recs:List (List UInt8)} {e:Int} {its:List It} {M:Nat} {x0:It} {pf:Nat} (h:Began s0 s g recs e its M x0 pf):okM false (its++[x0]):=by
  obtain ⟨t,hz,⟨rfl,h1⟩ | ⟨rfl,h1,_⟩⟩:=h.shape
  · exact okM_zeros its hz _ (h1.elim (fun h=>.inl ⟨h,trivial⟩) (fun h=>.inr ⟨h,rfl,trivial⟩))
  · rw [List.append_assoc]
    exact okM_zeros t hz _ (.inr ⟨rfl,rfl,.inl ⟨h1,trivial⟩⟩)
theorem Began.mrk {s0 s:Sl} {g:UInt32} {recs:List (List UInt8)} {e:Int} {its:List It} {M:Nat} {x0:It} {pf:Nat} (h:Began s0 s g recs e its M x0 pf) (hm:markOf its=true):recsOf its=recs∧x0.1=0:=by
  obtain ⟨t,hz,⟨rfl,h1⟩ | ⟨rfl,h1,h2⟩⟩:=h.shape
  · rw [markOf_zeros hz] at hm; cases hm
  · exact ⟨h2,h1⟩
theorem Began.last {s0 s:Sl} {g:UInt32} {recs:List (List UInt8)} {e:Int} {its:List It} {M:Nat} {x0:It} {pf:Nat} (h:Began s0 s g recs e its M x0 pf) {K:Nat} (hK:K < itsN its):markOf (wh K (its++[x0]))=false:=by
  obtain ⟨t,hz,⟨rfl,h1⟩ | ⟨rfl,h1,h2⟩⟩:=h.shape
  · exact wh_zeros its hz _ K (Nat.le_of_lt hK)
  · rw [List.append_assoc]
    rw [itsN_snoc] at hK
    exact wh_zeros t hz _ K (Nat.le_of_lt_succ hK)
theorem began {s:Sl} {g:UInt32} {recs:List (List UInt8)} (hn:s.n=4000) (hq:s.q=[]) (hl:∀ p∈recs,p.length≤2048) :
    ∃ its M x0 pf,Began s (dstart s g recs).2.2.1 g recs (dstart s g recs).2.1 its M x0 pf∧(dstart s g recs).2.2.2=itsN its∧((dstart s g recs).2.1=0→(dstart s g recs).1=true)∧(Up s→(dstart s g recs).2.1=0∨(dstart s g recs).2.1=4):=by
  have h0:QW s g 0 [] 0 (0,[]):=⟨by rw [hq]; rfl,Nat.le_refl _,by decide,Nat.zero_le _,Nat.zero_le _,fun _=>rfl⟩
  obtain ⟨its,M,x0,q1,a1,a2,a3,a4,a5,a6⟩:=QW.puts recs h0 hn hl rfl
  have e0:dputs s g (itsN []) recs=dputs s g 0 recs:=rfl
  rw [e0] at q1 a1 a2 a3 a5 a6
  have hz:∀ r:List (List UInt8),∀ y∈r.map (fun p=>((0:UInt8),p)),y.1=0:=fun r y hy=>by
    obtain ⟨p,_,rfl⟩:=List.mem_map.1 hy
    rfl
  rcases a5 with ⟨b1,hits⟩ | ⟨b1,b2,r,hits⟩
  · rw [List.nil_append] at hits
    have hz1:∀ y∈its,y.1=0:=fun y hy=>hz recs y (hits ▸ hy)
    have hr:recsOf its=recs:=by rw [hits,recsOf_map]
    have hm:markOf its=false:=markOf_zeros hz1
    obtain ⟨its2,M2,x2,q2,c1,c2,c3,c4⟩:=q1.put (a2.trans hn) 4 (show ([]:List UInt8).length≤2048 by decide)
    rw [← a3] at q2 c1 c2 c3 c4
    rcases c4 with ⟨d1,rfl,rfl⟩ | ⟨d1,d2,rfl,d3⟩
    · have e:dstart s g recs=(true,(dput (dputs s g 0 recs).2.1 g (dputs s g 0 recs).2.2 4 []).2.1.flush.1,(dput (dputs s g 0 recs).2.1 g (dputs s g 0 recs).2.2 4 []).2.1.flush.2,(dput (dputs s g 0 recs).2.1 g (dputs s g 0 recs).2.2 4 []).2.2):=(if_pos b1).trans (if_pos d1)
      rw [e]
      have hmk2:markOf (its++[((4:UInt8),([]:List UInt8))])=true:=by rw [markOf_app,hm]; rfl
      have hr2:recsOf (its++[((4:UInt8),([]:List UInt8))])=recs:=by
        rw [recsOf_app,hr]
        exact List.append_nil _
      rcases q2.flush with ⟨f1,f2,f3,f4⟩ | ⟨f1,f2,f3,f4,f5⟩
      · refine ⟨_,M2,(0,[]),0,⟨f2,f4.trans (c2.trans a2),⟨its,hz1,.inr ⟨rfl,rfl,hr2⟩⟩,.inl ⟨rfl,f3.trans (c1.trans a1)⟩,fun h9=>?_⟩,c3,fun _=>rfl,fun hu=>?_⟩
        · rw [f1] at h9; cases h9
        · have hu2:=(dput_upE (fl:=4) (p:=[]) (g:=g) (nx:=(dputs s g 0 recs).2.2) (a6 hu).1 (a2.trans hn)).1
          exfalso
          have:(dput (dputs s g 0 recs).2.1 g (dputs s g 0 recs).2.2 4 []).2.1.flush.1=0:=by
            rw [Sl.flush,if_neg (by rw [hu2.down]; decide),if_neg (by rw [hu2.fuse]; decide)]
          rw [this] at f1
          cases f1
      · refine ⟨_,_,(0,[]),_,⟨f3,f5.trans (c2.trans a2),⟨its,hz1,.inr ⟨rfl,rfl,hr2⟩⟩,.inr ⟨rfl,rfl,?_,hmk2⟩,fun _=>⟨rfl,hmk2,by rw [hits],rfl⟩⟩,c3,fun _=>rfl,fun _=>.inl f1⟩
        rw [f4,c1,a1]
        congr 1
        rw [q2.q,f2,take_its0]
        rfl
    · have e:dstart s g recs=(false,(dput (dputs s g 0 recs).2.1 g (dputs s g 0 recs).2.2 4 []).1,(dput (dputs s g 0 recs).2.1 g (dputs s g 0 recs).2.2 4 []).2.1,(dput (dputs s g 0 recs).2.1 g (dputs s g 0 recs).2.2 4 []).2.2):=(if_pos b1).trans (if_neg d1)
      rw [e]
      have hx2:x2.1=0∨x2.1=4:=by
        rcases d3 with rfl | rfl
        · exact .inl a4
        · exact .inr rfl
      refine ⟨its2,M2,x2,0,⟨q2,c2.trans a2,⟨its2,hz1,.inl ⟨rfl,hx2⟩⟩,.inl ⟨rfl,c1.trans a1⟩,fun h9=>absurd h9 d1⟩,c3,fun h9=>absurd h9 d1,fun hu=>?_⟩
      rcases d2 with d2 | d2
      · exact .inr d2
      · exact absurd d2 ((dput_upE (a6 hu).1 (a2.trans hn)).2)
  · rw [List.nil_append] at hits
    have hz1:∀ y∈its,y.1=0:=fun y hy=>hz r y (hits ▸ hy)
    have hm:markOf its=false:=markOf_zeros hz1
    have e:dstart s g recs=(false,(dputs s g 0 recs).1,(dputs s g 0 recs).2.1,(dputs s g 0 recs).2.2):=if_neg b1
    rw [e]
    refine ⟨its,M,x0,0,⟨q1,a2,⟨its,hz1,.inl ⟨rfl,.inl a4⟩⟩,.inl ⟨rfl,a1⟩,fun h9=>absurd h9 b1⟩,a3,fun h9=>absurd h9 b1,fun hu=>?_⟩
    rcases b2 with b2 | b2
    · exact .inr b2
    · exact absurd b2 (a6 hu).2
theorem began_hc {s0 s:Sl} {g:UInt32} {recs:List (List UInt8)} {e:Int} {its:List It} {M pf:Nat} {x0:It} (hok:s0.Ok) (hn:s0.n=4000) (h:Began s0 s g recs e its M x0 pf) (hg:g.toNat < 256)
    (hb:∀ i,i < 2000→eg (sec s0.xs (base g + i)) < g.toNat) (hs:∀ p,p < 4000→Small (sec s0.xs p)) :
    HC s.xs g pf its∧(∀ p,p < 4000→Small (sec s.xs p))∧∀ i,i < 2000→sec s.xs (ob g + i)=sec s0.xs (ob g + i):=by
  have hbo:=base_ob g
  rcases h.pfx with ⟨rfl,hx⟩ | ⟨rfl,hM,hx,_⟩
  · rw [hx]
    exact ⟨⟨fun i hi=>absurd hi (Nat.not_lt_zero _),fun i _ hi=>hb i hi⟩,hs,fun _ _=>rfl⟩
  · have hle:itsN its≤2000:=hM ▸ h.qw.M2
    have hwok:=wl_ok (n:=4000) (base g) (secsA g 0 its) (secsA_64 g 0 its) (by rw [secsA_len]; omega)
    have hS:∀ p,p < 4000→sec s.xs p=if base g≤p∧p < base g + itsN its then (secsA g 0 its).getD (p - base g) [] else sec s0.xs p:=fun p hp=>by
      rw [hx,sec_putQ (n:=4000) hp (hn ▸ hok.xl) hwok,ofW_wl,secsA_len]
    refine ⟨⟨fun i hi=>?_,fun i h1 h2=>?_⟩,fun p hp=>?_,fun i hi=>?_⟩
    · rw [hS _ (by omega),if_pos (by omega),Nat.add_sub_cancel_left]
    · rw [hS _ (by omega),if_neg (by omega)]
      exact hb i h2
    · rw [hS p hp]
      split
      · exact laid_small (by omega) hg
      · exact hs p hp
    · rw [hS _ (by omega),if_neg (by omega)]
theorem par_bo {c g:UInt32} (h:(g % 2).toNat=1 - (c % 2).toNat):base g=ob c∧ob g=base c∧1 - (g % 2).toNat=(c % 2).toNat:=by
  unfold base ob
  rcases odd01 c with e | e <;> rw [h,e] <;> exact ⟨rfl,rfl,rfl⟩
theorem rest_cut {s:Sl} {c go:UInt32} {l:List (List UInt8)} (h:Rest s c go l) (hgo:go.toNat < 300) (hc:c.toNat < 300) (hb:(nextG c go).toNat < 254) (f:Int) (hf:f≤9223372036854775807) {recs:List (List UInt8)} (hl:∀ p∈recs,p.length≤2048) (N At:Int) (hcond:c.toNat < go.toNat→1≤N∨64≤At) :
    ∃ c' go' l',Rest ((dstart (s.fus f).2 (nextG c go) recs).2.2.1.crash N At) c' go' l'∧(nextG c' go').toNat≤(nextG c go).toNat + 2∧c'.toNat < 300∧go'.toNat < 300∧((l'=recs)∨(l'=l∧¬ (dstart (s.fus f).2 (nextG c go) recs).2.1=0))∧(c'.toNat < go'.toNat→1≤N∨64≤At):=by
  obtain ⟨hpar,hlt⟩:=h.par (by omega) hgo hc
  obtain ⟨g,hg⟩:∃ g,nextG c go=g:=⟨_,rfl⟩
  rw [hg] at hpar hlt hb ⊢
  obtain ⟨hbo1,hbo2,hbo3⟩:=par_bo hpar
  have hfs:(s.fus f).2.xs=s.xs∧(s.fus f).2.n=s.n∧(s.fus f).2.q=s.q:=⟨(fus_n s f).2.2.2,(fus_n s f).1,(fus_n s f).2.2.1⟩
  have hok1:(s.fus f).2.Ok:=Sl.fus_ok h.ok hf
  obtain ⟨its,M,x0,pf,hB,-,-,-⟩:=began (s:=(s.fus f).2) (g:=g) (recs:=recs) (hfs.2.1.trans h.n) (hfs.2.2.trans h.q) hl
  obtain ⟨s2,hs2⟩:∃ s2,(dstart (s.fus f).2 g recs).2.2.1=s2:=⟨_,rfl⟩
  obtain ⟨e,he⟩:∃ e,(dstart (s.fus f).2 g recs).2.1=e:=⟨_,rfl⟩
  have hok2:s2.Ok:=by
    rw [← hs2]
    unfold dstart
    have k1:=fun (s:Sl) (hs:s.Ok)=>(show (dputs s g 0 recs).2.1.Ok from by
      have:∀ (r:List (List UInt8)) (s:Sl) (nx:Nat),s.Ok→(dputs s g nx r).2.1.Ok:=by
        intro r
        induction r with
        | nil=>intro s nx hs; exact hs
        | cons p t ih =>
          intro s nx hs
          rw [dputs]
          split
          · exact ih _ _ (dput_kept hs).ok
          · exact (dput_kept hs).ok
      exact this recs s 0 hs)
    split
    · split
      · exact Sl.flush_ok (dput_kept (k1 _ hok1)).ok
      · exact (dput_kept (k1 _ hok1)).ok
    · exact k1 _ hok1
  rw [hs2,he] at hB
  rw [hs2,he]
  have hn2:s2.n=4000:=hB.n.trans (hfs.2.1.trans h.n)
  obtain ⟨hHC,hsm,hoth⟩:=began_hc hok1 (hfs.2.1.trans h.n) hB (by omega) (fun i hi=>by rw [hfs.1,hbo1,← hg]; exact h.oe i hi) (fun p hp=>by rw [hfs.1]; exact h.small p hp)
  obtain ⟨K,hK⟩:=crash_half hok2 hn2 hB.qw hHC hsm (by omega) N At
  have hK2000:K≤2000:=Nat.le_trans hK.K2 hB.qw.M2
  have hKi:K < itsN (its++[x0]):=Nat.lt_of_le_of_lt hK.K2 hB.qw.hi
  -- the half of the elder generation
  have hold:tdX (s2.crash N At).xs (c % 2).toNat=some ⟨c,l,true⟩:=by
    rw [← h.cur]
    refine tdX_congr fun i hi=>?_
    have h1:=hK.oth i hi
    have h2:=hoth i hi
    rw [hbo2,hfs.1] at h2
    rw [hbo2] at h1
    exact h1.trans h2
  have holde:∀ i,i < 2000→eg (sec (s2.crash N At).xs (base c + i))≤c.toNat:=fun i hi=>by
    have h1:=hK.oth i hi
    have h2:=hoth i hi
    rw [hbo2,hfs.1] at h2
    rw [hbo2] at h1
    rw [h1,h2]
    exact h.ce i hi
  have hng:∀ x:UInt32,x.toNat < 300→x.toNat≤g.toNat→(nextG c x).toNat≤g.toNat + 2:=fun x h1 h2=>by
    rw [nextG_nat hc h1]
    split <;> omega
  have hup:Up (s2.crash N At):=⟨rfl,rfl⟩
  have hend:∀ i,i < 2000→eg (sec (s2.crash N At).xs (base g + i))≤g.toNat:=hK.hc.ce (Nat.le_of_lt hKi)
  by_cases hK1:1≤K
  · have htd:=hK.hc.told hK1 (Nat.le_of_lt hKi) hK2000 hB.okm (by omega)
    by_cases hmk:markOf (wh K (its++[x0]))=true
    · -- the new generation is whole
      have hwhole:recsOf (wh K (its++[x0]))=recs:=by
        obtain ⟨u,hu⟩:=wh_pre1 its x0 K hKi
        have hm:markOf its=true:=by rw [hu,markOf_app,hmk]; rfl
        obtain ⟨hr,hx0⟩:=hB.mrk hm
        rw [← hr]
        have hM:itsN its≤K∨K < itsN its:=by omega
        rcases hM with hM | hM
        · rw [wh_app _ _ _ hM,recsOf_app]
          have:wh (K - itsN its) [x0]=[]:=by
            rw [itsN_snoc] at hKi
            rw [wh,if_neg (by omega)]
          rw [this]
          exact List.append_nil _
        · exfalso
          rw [hB.last hM] at hmk
          cases hmk
      rw [hwhole,hmk] at htd
      refine ⟨g,c,recs,⟨Sl.crash_ok hok2 _ _,hn2,hup,rfl,by omega,htd,hend,⟨⟨c,l,true⟩,by rw [hbo3]; exact hold,rfl,fun _=>hlt⟩,fun i hi=>?_,hK.small⟩,?_,by omega,hc,.inl rfl,fun h9=>by omega⟩
      · rw [hbo2,nextG_nat (by omega) hc,if_neg (by omega)]
        have:=holde i hi
        omega
      · rw [nextG_nat (by omega) hc,if_neg (by omega)]
        omega
    · have hmk':markOf (wh K (its++[x0]))=false:=by simpa using hmk
      rw [hmk'] at htd
      have hne:¬ e=0:=fun h9=>by
        obtain ⟨p1,p2,-⟩:=hB.ok h9
        have hKe:itsN its≤K:=p1 ▸ hK.K1
        rw [wh_app _ _ _ hKe,markOf_app,p2] at hmk'
        cases hmk'
      have hpf0:pf=0:=by
        rcases hB.pfx with ⟨p1,_⟩ | ⟨p1,p2,_,hm⟩
        · exact p1
        · exfalso
          have hKe:itsN its=K:=by have:=hK.K1; have:=hK.K2; omega
          rw [wh_app _ _ _ (Nat.le_of_eq hKe),markOf_app,hm] at hmk'
          cases hmk'
      refine ⟨c,g,l,⟨Sl.crash_ok hok2 _ _,hn2,hup,rfl,h.c0,hold,holde,⟨_,hpar ▸ htd,rfl,fun h9=>by cases h9⟩,fun i hi=>?_,hK.small⟩,hng g (by omega) (Nat.le_refl _),hc,by omega,.inr ⟨rfl,hne⟩,fun _=>hK.k3 (by omega)⟩
      rw [← hbo1,nextG_nat hc (by omega),if_pos hlt]
      have:=hend i hi
      omega
  · have hK0:K=0:=by omega
    have hne:¬ e=0:=fun h9=>by
      obtain ⟨p1,p2,-⟩:=hB.ok h9
      have h8:=hK.K1
      cases hi:its with
      | nil=>rw [hi] at p2; cases p2
      | cons y t =>
        have e1:itsN (y::t)=need y.2.length + itsN t:=rfl
        have:=need_pos y.2.length
        rw [hi] at p1
        omega
    rcases hK.zero hK0 with hz | ⟨hz,hz1,hz2⟩
    · -- nothing has turned there
      have hxs:∀ i,i < 2000→sec (s2.crash N At).xs (ob c + i)=sec s.xs (ob c + i):=fun i hi=>by
        have h1:=hz i hi
        rw [hbo1] at h1
        rw [h1]
        rcases hB.pfx with ⟨_,p2⟩ | ⟨p1,p2,_,hm⟩
        · rw [p2,hfs.1]
        · exfalso
          have h0:itsN its=0:=by have:=hK.K1; omega
          cases hi:its with
          | nil=>rw [hi] at hm; cases hm
          | cons y t =>
            have e1:itsN (y::t)=need y.2.length + itsN t:=rfl
            have:=need_pos y.2.length
            rw [hi] at h0
            omega
      obtain ⟨td,t1,t2,t3⟩:=h.oth
      refine ⟨c,go,l,⟨Sl.crash_ok hok2 _ _,hn2,hup,rfl,h.c0,hold,holde,⟨td,?_,t2,t3⟩,fun i hi=>by rw [hxs i hi]; exact h.oe i hi,hK.small⟩,by rw [hg]; omega,hc,hgo,.inr ⟨rfl,hne⟩,hcond⟩
      rw [← t1]
      exact tdX_congr fun i hi=>hxs i hi
    · have hcg:¬ c.toNat < go.toNat:=fun h9=>(hcond h9).elim hz1 hz2
      have eg1:g.toNat=c.toNat + 1:=by rw [← hg,nextG_nat hc hgo,if_neg hcg]
      have e0:(nextG c 0).toNat=c.toNat + 1:=by
        rw [nextG_nat hc (by decide),if_neg (show ¬ c.toNat < (0:UInt32).toNat from Nat.not_lt_zero _)]
      refine ⟨c,0,l,⟨Sl.crash_ok hok2 _ _,hn2,hup,rfl,h.c0,hold,holde,⟨⟨0,[],false⟩,by rw [← hpar]; exact hz,rfl,fun h9=>by cases h9⟩,fun i hi=>?_,hK.small⟩,by rw [e0]; omega,hc,by decide,.inr ⟨rfl,hne⟩,fun h9=>absurd h9 (Nat.not_lt_zero _)⟩
      rw [← hbo1,e0,← eg1]
      exact hK.hc.b i (by omega) hi
theorem flush_hc {s:Sl} {g:UInt32} {pf M:Nat} {its:List It} {x0:It} (hok:s.Ok) (hn:s.n=4000) (hq:QW s g pf its M x0) (hM:M=itsN its) (hh:HC s.xs g pf its) (hs:∀ p,p < 4000→Small (sec s.xs p)) (hg:g.toNat < 256) :
    HC (putQ s.xs s.q) g (itsN its) its∧(∀ p,p < 4000→Small (sec (putQ s.xs s.q) p))∧∀ i,i < 2000→sec (putQ s.xs s.q) (ob g + i)=sec s.xs (ob g + i):=by
  have hbo:=base_ob g
  have hle:itsN its≤2000:=hM ▸ hq.M2
  have hpf:=hq.pfM
  have hqq:s.q=wl (base g + pf) ((secsA g 0 its).drop pf):=by rw [hq.q,hM,take_its0]
  have hl:((secsA g 0 its).drop pf).length=itsN its - pf:=by rw [List.length_drop,secsA_len]
  have hS:∀ p,p < 4000→sec (putQ s.xs s.q) p=if base g + pf≤p∧p < base g + itsN its then (secsA g 0 its).getD (p - base g) [] else sec s.xs p:=fun p hp=>by
    rw [sec_putQ (n:=4000) hp (hn ▸ hok.xl) (hn ▸ hok.qo),hqq,ofW_wl,hl]
    by_cases c:base g + pf≤p∧p < base g + itsN its
    · rw [if_pos c,if_pos (by omega),List.getD_eq_getElem?_getD,List.getElem?_drop,← List.getD_eq_getElem?_getD,show pf + (p - (base g + pf))=p - base g by omega]
    · rw [if_neg c,if_neg (by omega)]
  refine ⟨⟨fun i hi=>?_,fun i h1 h2=>?_⟩,fun p hp=>?_,fun i hi=>?_⟩
  · rw [hS _ (by omega)]
    by_cases c:base g + pf≤base g + i∧base g + i < base g + itsN its
    · rw [if_pos c,Nat.add_sub_cancel_left]
    · rw [if_neg c,hh.a i (by omega)]
  · rw [hS _ (by omega),if_neg (by omega)]
    exact hh.b i (by omega) h2
  · rw [hS p hp]
    split
    · exact laid_small (by omega) hg
    · exact hs p hp
  · rw [hS _ (by omega),if_neg (by omega)]
theorem HC.app {xs:List UInt8} {g:UInt32} {pf:Nat} {its:List It} (h:HC xs g pf its) (hp:pf≤itsN its) (u:List It):HC xs g pf (its++u):=⟨fun i hi=>by rw [h.a i hi,secsA_app,getD_appL (by rw [secsA_len]; omega)],h.b⟩
theorem Run.append {s:Sl} {c:UInt32} {i0 i1:List It} {M:Nat} {x0:It} (h:Run s c i0 i1 M x0) {p:List UInt8} (hp:p.length≤2048) :
    ((dput s c (itsN (i0++i1)) 0 p).1=0∧(dput s c (itsN (i0++i1)) 0 p).2.2=itsN (i0++(i1++[(0,p)]))∧∃ M' x',Run (dput s c (itsN (i0++i1)) 0 p).2.1 c i0 (i1++[(0,p)]) M' x') ∨
    (((dput s c (itsN (i0++i1)) 0 p).1=4∨(dput s c (itsN (i0++i1)) 0 p).1=5)∧(dput s c (itsN (i0++i1)) 0 p).2.2=itsN (i0++i1)∧∃ M' x',Run (dput s c (itsN (i0++i1)) 0 p).2.1 c i0 i1 M' x'):=by
  obtain ⟨its',M',x',q1,e1,e2,e3,e4⟩:=h.qw.put h.n 0 hp
  have hk:=dput_kept (g:=c) (next:=itsN (i0++i1)) (fl:=0) (p:=p) h.ok
  rcases e4 with ⟨a1,rfl,rfl⟩ | ⟨a1,a2,rfl,a3⟩
  · refine .inl ⟨a1,by rw [e3,List.append_assoc],M',(0,[]),⟨hk.ok,e2.trans h.n,?_,rfl,?_,?_,h.mrk,h.c0,?_,?_,?_⟩⟩
    · rw [← List.append_assoc]; exact q1
    · rw [e1,← List.append_assoc]; exact h.hc.app h.qw.pfM _
    · rw [← List.append_assoc]; exact okM_app0 _ _ _ rfl h.km
    · rw [e1]; exact h.oth
    · rw [e1]; exact h.oe
    · rw [e1]; exact h.small
  · refine .inr ⟨a2,e3,M',x',⟨hk.ok,e2.trans h.n,q1,?_,?_,h.km,h.mrk,h.c0,?_,?_,?_⟩⟩
    · rcases a3 with rfl | rfl
      · exact h.x0
      · rfl
    · rw [e1]; exact h.hc
    · rw [e1]; exact h.oth
    · rw [e1]; exact h.oe
    · rw [e1]; exact h.small
theorem Run.flush {s:Sl} {c:UInt32} {i0 i1:List It} {M:Nat} {x0:It} (h:Run s c i0 i1 M x0) (hc:c.toNat < 256) :
    (s.flush.1=0∧Run s.flush.2 c (i0++i1) [] (itsN (i0++i1)) (0,[]))∨(s.flush.1=5∧Run s.flush.2 c i0 i1 M x0):=by
  have hok:=Sl.flush_ok h.ok
  rcases h.qw.flush with ⟨f1,f2,f3,f4⟩ | ⟨f1,f2,f3,f4,f5⟩
  · refine .inr ⟨f1,⟨hok,f4.trans h.n,f2,h.x0,by rw [f3]; exact h.hc,h.km,h.mrk,h.c0,by rw [f3]; exact h.oth,by rw [f3]; exact h.oe,by rw [f3]; exact h.small⟩⟩
  · obtain ⟨k1,k2,k3⟩:=flush_hc h.ok h.n h.qw f2 h.hc h.small hc
    obtain ⟨td,t1,t2⟩:=h.oth
    have hz:i0++i1++[]=i0++i1:=List.append_nil _
    refine .inl ⟨f1,⟨hok,f5.trans h.n,by rw [hz]; exact f3,rfl,by rw [hz,f4]; exact k1,by rw [hz]; exact h.km,by rw [markOf_app,h.mrk]; rfl,h.c0,⟨td,?_,t2⟩,fun i hi=>?_,by rw [f4]; exact k2⟩⟩
    · rw [← t1,f4]
      exact tdX_congr fun i hi=>k3 i hi
    · rw [f4,k3 i hi]
      exact h.oe i hi
theorem Run.fuse {s:Sl} {c:UInt32} {i0 i1:List It} {M:Nat} {x0:It} (h:Run s c i0 i1 M x0) {f:Int} (hf:f≤9223372036854775807):Run (s.fus f).2 c i0 i1 M x0:=by
  obtain ⟨e1,e2,e3,e4⟩:=fus_n s f
  have hd:(s.fus f).2.down=false→s.down=false:=fun hd=>by
    unfold Sl.fus at hd
    split at hd
    · exact hd
    · exact hd
  exact ⟨Sl.fus_ok h.ok hf,e1.trans h.n,⟨by rw [e3]; exact h.qw.q,h.qw.lo,h.qw.hi,h.qw.pfM,h.qw.M2,fun hu=>h.qw.up (hd hu)⟩,h.x0,by rw [e4]; exact h.hc,h.km,h.mrk,h.c0,by rw [e4]; exact h.oth,by rw [e4]; exact h.oe,by rw [e4]; exact h.small⟩
theorem Run.qlen {s:Sl} {c:UInt32} {i0 i1:List It} {M:Nat} {x0:It} (h:Run s c i0 i1 M x0):s.q.length≤2000:=by
  have:=h.qw.M2
  rw [h.qw.q,wl_len,List.length_drop,List.length_take]
  omega
theorem Run.next {s:Sl} {c:UInt32} {i0 i1:List It} {M:Nat} {x0:It} (h:Run s c i0 i1 M x0):itsN (i0++i1)≤s.n / 2:=by
  have:=h.qw.M2
  have:=h.qw.lo
  rw [h.n]
  omega
theorem dstart_kept {s:Sl} {g:UInt32} {recs:List (List UInt8)} (hok:s.Ok):Kept s (dstart s g recs).2.2.1 (41 * recs.length + 42):=by
  have k1:∀ (r:List (List UInt8)) (s:Sl) (nx:Nat),s.Ok→Kept s (dputs s g nx r).2.1 (41 * r.length):=by
    intro r
    induction r with
    | nil=>intro s nx hs; exact ⟨hs,rfl,Nat.le_add_right _ _,Nat.le_add_right _ _⟩
    | cons p t ih =>
      intro s nx hs
      have h1:=dput_kept (g:=g) (next:=nx) (fl:=0) (p:=p) hs
      rw [dputs]
      split
      · exact (h1.trans (ih _ _ h1.ok)).mono (by simp; omega)
      · exact h1.mono (by simp; omega)
  have k2:=k1 recs s 0 hok
  have k3:=k2.trans (dput_kept (g:=g) (next:=(dputs s g 0 recs).2.2) (fl:=4) (p:=[]) k2.ok)
  unfold dstart
  split
  · split
    · obtain ⟨f1,f2⟩:=flush_st15 (dput (dputs s g 0 recs).2.1 g (dputs s g 0 recs).2.2 4 []).2.1
      refine ⟨Sl.flush_ok k3.ok,f2.trans k3.n,by have:=k3.st; show (dput (dputs s g 0 recs).2.1 g (dputs s g 0 recs).2.2 4 []).2.1.flush.2.steps≤_; omega,?_⟩
      have hq:(dput (dputs s g 0 recs).2.1 g (dputs s g 0 recs).2.2 4 []).2.1.flush.2.q.length≤(dput (dputs s g 0 recs).2.1 g (dputs s g 0 recs).2.2 4 []).2.1.q.length:=by
        unfold Sl.flush
        split
        · exact Nat.le_refl _
        split
        · exact Nat.le_refl _
        · exact Nat.zero_le _
      have:=k3.q
      show (dput (dputs s g 0 recs).2.1 g (dputs s g 0 recs).2.2 4 []).2.1.flush.2.q.length≤_
      omega
    · exact k3.mono (by omega)
  · exact k2.mono (by omega)
theorem rest_start {s:Sl} {c go:UInt32} {l:List (List UInt8)} (h:Rest s c go l) (hgo:go.toNat < 300) (hc:c.toNat < 300) (hb:(nextG c go).toNat < 254) (hl:∀ p∈l,p.length≤2048) :
    ((dstart s (nextG c go) l).1=true∧(dstart s (nextG c go) l).2.1=0∧∃ its M x0,its=l.map (fun p=>((0:UInt8),p))++[(4,[])]∧(dstart s (nextG c go) l).2.2.2=itsN (its++[])∧Run (dstart s (nextG c go) l).2.2.1 (nextG c go) its [] M x0)∨(dstart s (nextG c go) l).2.1=4:=by
  obtain ⟨hpar,hlt⟩:=h.par (by omega) hgo hc
  obtain ⟨g,hg⟩:∃ g,nextG c go=g:=⟨_,rfl⟩
  rw [hg] at hpar hlt hb ⊢
  obtain ⟨hbo1,hbo2,hbo3⟩:=par_bo hpar
  obtain ⟨its,M,x0,pf,hB,hnx,htr,hup⟩:=began (s:=s) (g:=g) (recs:=l) h.n h.q hl
  rcases hup h.up with he | he
  · left
    have hk:=dstart_kept (g:=g) (recs:=l) h.ok
    refine ⟨htr he,he,its,M,x0,?_⟩
    obtain ⟨p1,p2,p3,p4⟩:=hB.ok he
    subst p4
    obtain ⟨hHC,hsm,hoth⟩:=began_hc h.ok h.n hB (by omega) (fun i hi=>by rw [hbo1,← hg]; exact h.oe i hi) h.small
    have hz:its++[]=its:=List.append_nil _
    have hkm:okM false its:=by
      rw [p3]
      exact okM_zeros _ (fun y hy=>by obtain ⟨p,_,rfl⟩:=List.mem_map.1 hy; rfl) _ (.inr ⟨rfl,rfl,trivial⟩)
    refine ⟨p3,by rw [hz]; exact hnx,⟨hk.ok,hk.n.trans h.n,by rw [hz,← p1]; exact hB.qw,rfl,by rw [hz,← p1]; exact hHC,by rw [hz]; exact hkm,p2,by omega,⟨⟨c,l,true⟩,?_,hlt⟩,fun i hi=>?_,hsm⟩⟩
    · rw [hbo3,← h.cur]
      refine tdX_congr fun i hi=>?_
      have h2:=hoth i hi
      rw [hbo2] at h2
      exact h2
    · rw [hoth i hi,hbo2]
      have:=h.ce i hi
      omega
  · exact .inr he
theorem sec_zero {n k:Nat} (h:k < n):sec (List.replicate (n * 64) (0:UInt8)) k=List.replicate 64 0:=by
  unfold sec
  rw [List.drop_replicate,List.take_replicate]
  congr 1
  omega
theorem run_first:(dstart (newS 4000) 1 []).1=true∧(dstart (newS 4000) 1 []).2.1=0∧∃ M x0,(dstart (newS 4000) 1 []).2.2.2=itsN (([(4,[])]:List It)++[])∧Run (dstart (newS 4000) 1 []).2.2.1 1 [(4,[])] [] M x0:=by
  have hup:Up (newS 4000):=⟨rfl,rfl⟩
  have hnn:(newS 4000).n=4000:=rfl
  have hok:(newS 4000).Ok:=newS_ok (by decide)
  have hxs:∀ k,k < 4000→sec (newS 4000).xs k=List.replicate 64 0:=fun k hk=>sec_zero hk
  have hz1:eg (List.replicate 64 (0:UInt8))=0:=by decide
  have hz2:Small (List.replicate 64 (0:UInt8)):=by constructor <;> decide
  have hd:(dput (newS 4000) 1 0 4 []).1=0:=by
    have ha:=writeL_up (secs 1 ((0:Nat):Int) 4 []) (s:=newS 4000) (j:=half (newS 4000).n 1 + 0) hup (by rw [secs_len,hnn]; decide)
    unfold dput
    rw [if_neg (by decide),if_neg (by rw [hnn]; decide),if_pos ha.1]
  obtain ⟨its,M,x0,pf,hB,hnx,htr,hup2⟩:=began (s:=newS 4000) (g:=1) (recs:=[]) hnn rfl (fun _ h=>by cases h)
  have he:(dstart (newS 4000) 1 []).2.1=0:=by
    rcases hup2 hup with he | he
    · exact he
    · exfalso
      have h2:=(dput_upE (fl:=4) (p:=[]) (g:=1) (nx:=0) hup hnn).1
      have e:dstart (newS 4000) 1 []=(true,(dput (newS 4000) 1 0 4 []).2.1.flush.1,(dput (newS 4000) 1 0 4 []).2.1.flush.2,(dput (newS 4000) 1 0 4 []).2.2):=(if_pos rfl).trans (if_pos hd)
      rw [e] at he
      have:(dput (newS 4000) 1 0 4 []).2.1.flush.1=0:=by
        rw [Sl.flush,if_neg (by rw [h2.down]; decide),if_neg (by rw [h2.fuse]; decide)]
      rw [this] at he
      cases he
  obtain ⟨p1,p2,p3,p4⟩:=hB.ok he
  subst p4
  have p3':its=[(4,[])]:=p3
  subst p3'
  have hk:=dstart_kept (g:=1) (recs:=[]) hok
  obtain ⟨hHC,hsm,hoth⟩:=began_hc hok hnn hB (by decide) (fun i hi=>by rw [hxs _ (by have:=base_ob 1; omega),hz1]; decide) (fun p hp=>by rw [hxs p hp]; exact hz2)
  have hb1:ob 1=0:=by decide
  refine ⟨htr he,he,M,(0,[]),hnx,⟨hk.ok,hk.n,by rw [← p1] at *; exact hB.qw,rfl,by rw [← p1] at *; exact hHC,Or.inr ⟨rfl,rfl,trivial⟩,p2,by decide,⟨⟨0,[],false⟩,?_,by decide⟩,fun i hi=>?_,hsm⟩⟩
  · have hz:tdX (newS 4000).xs 0=some ⟨0,[],false⟩:=by
      have h0:sec (newS 4000).xs (0 * 2000 + 0)=List.replicate 64 0:=hxs _ (by decide)
      have h1:get4 (sec (newS 4000).xs (0 * 2000 + 0))=0:=by rw [h0]; decide
      rw [tdX,rdHalf]
      exact if_pos (Or.inr (Or.inl h1))
    rw [show 1 - ((1:UInt32) % 2).toNat=0 by decide,← hz]
    refine tdX_congr fun i hi=>?_
    have h2:=hoth i hi
    rw [hb1] at h2
    rw [Nat.zero_mul]
    exact h2
  · rw [hoth i hi,hxs _ (by omega),hz1]
    decide
end Go.Proofs.Ytkecdcmjkghddaa
end

section
/- DiaryLasts: wherever power goes,what was flushed is told. -/
namespace Go.Proofs.Ytkecdcmjkghddaa
open Go Go.Fw
structure O15 where
  k:Int
  pv:Value
  p:List UInt8
  gen:UInt32
  rv:Value
  qs:List VP
  n:Int
  a:Int
  b:List UInt8
instance:Inhabited O15:=⟨⟨0,.nilIface,[],0,.nilIface,[],0,0,[]⟩⟩
def O15.c (o:O15):List Value:=o15C o.k o.pv o.gen o.rv o.n o.a o.b
structure O15.Ok (w:World) (o:O15):Prop where
  l:o.b.length=64
  p:RdB w o.pv o.p
  q:RdP w o.rv o.qs
  n:-9223372036854775808≤o.n∧o.n≤9223372036854775807
  a:-9223372036854775808≤o.a∧o.a≤9223372036854775807
theorem O15.len {o:O15} (h:o.b.length=64):o.c.length=70:=by simp [O15.c,o15C,h]
theorem O15.one {o:O15} {w:World} (hp:RdB w o.pv o.p) (hq:RdP w o.rv o.qs):o.c.all (·.oneCell')=true:=by
  obtain ⟨ad,cap,e,_⟩:=Rd.sl hp
  obtain ⟨ad2,cap2,e2,_⟩:=RdP.sl hq
  simp only [O15.c,o15C,e,e2,List.all_cons,Value.oneCell',Bool.true_and]
  exact all_map_B _
abbrev VW:=Value × Bool × List UInt8
def vpW (l:List VW):List VP:=l.map fun q=>(q.1,q.2.2)
def ownW (l:List VP):List VW:=l.map fun q=>(q.1,true,q.2)
theorem vpW_own (l:List VP):vpW (ownW l)=l:=by simp [vpW,ownW,List.map_map,Function.comp_def]
theorem vpW_len (l:List VW):(vpW l).length=l.length:=by simp [vpW]
def Ent.ptW (w1:World) (T:TypeId) (q:VW):Ent :=
  match q.2.1 with
  | true=>.row q.1 q.2.2.length (q.2.2.map B) T 1
  | false=>.pr (fun _=>False) (fun _=>RdB w1 q.1 q.2.2) (fun _ _ _ h=>h)
theorem txW_own {E T:TypeId} {v:Value} {ps:List VP} {w1:World}:Ent.texts E (Ent.part T) v ps=Ent.texts E (Ent.ptW w1 T) v (ownW ps):=by
  unfold Ent.texts textsL ownW
  simp only [List.length_map,List.map_map,Function.comp_def]
  rfl
theorem RdP.ptW {E T:TypeId} {v:Value} {ps:List VW} {w1 w:World} (hf:Fr0 w1 w) (h:(Ent.texts E (Ent.ptW w1 T) v ps).holds w):RdP w v (vpW ps):=by
  have h:Has 0 w (textsL E (Ent.ptW w1 T) v ps):=h
  have h0:w.ownsRow 0 E 1 v ps.length (ps.map (fun q=>q.1)):=h.holds (.row v ps.length (ps.map (fun q:VW=>q.1)) E 1) (by simp [textsL])
  refine ⟨?_,fun q hq=>?_⟩
  · have:=Rd.of_row h0
    simpa [vpW,List.map_map,Function.comp_def] using this
  · obtain ⟨⟨v9,b,l⟩,hx,rfl⟩:=List.mem_map.1 hq
    have hh:=h.holds (Ent.ptW w1 T (v9,b,l)) (by simp only [textsL,List.mem_cons,List.mem_map]; exact .inr ⟨_,hx,rfl⟩)
    cases b
    · exact (show RdB w1 v9 l from hh).fr0 hf
    · exact RdB.row (T:=T) hh
section
variable {N:Nat} {F:List (Nat × Value)} {L:List Ent} {M:Nat→Prop} {w0 w:World} {a:Act}
theorem _root_.Go.Fw.St.shrink {i:Nat} {e e':Ent} (hs:St N F L M w0 a w) (hi:L[i]?=some e) (he':e'.holds w) (hk:∀ k,e'.keys k→e.keys k):St N F (L.set i e') M w0 a w :=
  hs.mod hi (.refl _ _) he' (fun k hk'=>⟨.inl (hk k hk'),hs.has.lt e (List.mem_of_getElem? hi) k (hk k hk')⟩)
theorem _root_.Go.Fw.St.fact {e:Ent} (hs:St N F L M w0 a w) (he:e.holds w) (hk:∀ k,¬ e.keys k):St N F (e::L) M w0 a w :=
  ⟨hs.know,hs.has.cons he (fun k h=>absurd h (hk k)) (fun _ _=>Nat.zero_le _) (fun x _ k h=>absurd h (hk k)),fun x hx k hxk=>(List.mem_cons.1 hx).elim (fun r=>absurd (r ▸ hxk) (hk k)) (fun h=>hs.own x h k hxk),hs.fr⟩
theorem _root_.Go.Fw.St.frM {j:Nat} {e:Ent} {w':World} (hs:St N F L M w0 a w) (hj:L[j]?=some e) (hf:Fr e.keys w w'):Fr M w0 w':=hs.fr.trans hf fun k hk h=>(hs.own e (List.mem_of_getElem? hj) k h).elim (fun x=>absurd hk (by omega)) id
theorem other_tx {g0 g1:Nat} {x:UInt8} {pv:Value} {p:List UInt8} {w1:World} (hs:St N F (.seg g1 [.slice (some ⟨g0,0,none⟩) 1 1,pv] 38::.seg g0 [B x] 5::L) M w0 a w) (hp:RdB w1 pv p) :
    St N F (Ent.texts 38 (Ent.ptW w1 5) (.slice (some ⟨g1,0,none⟩) 2 2) [(.slice (some ⟨g0,0,none⟩) 1 1,true,[x]),(pv,false,p)]::L) M w0 a w:=by
  have h1:=(hs.segrow (i:=0) (n:=2) (sz:=1) rfl rfl (by decide)).segrow (i:=1) (n:=1) (sz:=1) rfl rfl (by decide)
  have h2:=h1.fact (e:=Ent.ptW w1 5 (pv,false,p)) hp (fun _ h=>h)
  exact St.grpn (A:=textsL 38 (Ent.ptW w1 5) (.slice (some ⟨g1,0,none⟩) 2 2) [(.slice (some ⟨g0,0,none⟩) 1 1,true,[x]),(pv,false,p)]) (L:=L) (h2.perm ((List.perm_append_comm (l₁:=[_,_]) (l₂:=[_])).append_right L))
end
theorem dl_keys {dg g sb nx:Nat} {qv:Value} {gen:UInt32} {s:Sl} {k:Nat} (h:(Ent.grp (sl g sb qv s)).keys k):(Ent.grp (dl dg g sb qv gen nx s)).keys k:=⟨Ent.grp (sl g sb qv s),by simp [dl],h⟩
structure DS where
  s:Sl
  qv:Value
  av:Value
  all:List VW
  sure:Nat
  dg:Nat
  c:UInt32
  i0:List It
  i1:List It
structure DJ (k:Nat) (z:DS):Prop where
  run:∃ M x0,Run z.s z.c z.i0 z.i1 M x0
  tot:recsOf (z.i0++z.i1)=recsV (vpW z.all)
  sur:recsOf z.i0=(recsV (vpW z.all)).take z.sure
  sle:z.sure≤(vpW z.all).length
  c:z.c.toNat≤1 + 5 * k
  le:z.all.length≤k + 2
  st:z.s.steps≤10000 * (k + 1)
  sm:∀ q∈z.all,q.2.2.length≤2048
theorem sm_recs {all:List VW} (h:∀ q∈all,q.2.2.length≤2048):∀ p∈recsV (vpW all),p.length≤2048:=fun p hp=>by
  simp only [recsV,vpW,List.map_map,List.mem_map] at hp
  obtain ⟨q,hq,rfl⟩:=hp
  exact h q hq
theorem recs_sm {all:List VW} (h:∀ p∈recsV (vpW all),p.length≤2048):∀ q∈all,q.2.2.length≤2048:=fun q hq=>h _ (by
  simp only [recsV,vpW,List.map_map,List.mem_map]
  exact ⟨q,hq,rfl⟩)
theorem recsV_len (all:List VW):(recsV (vpW all)).length=all.length:=by simp [recsV,vpW]
theorem recsOf_snoc (t:List It) (p:List UInt8):recsOf (t++[(0,p)])=recsOf t++[p]:=by
  rw [recsOf_app]
  rfl
theorem DJ.no {k:Nat} {z:DS} (h:DJ k z):DJ (k + 1) z:=⟨h.run,h.tot,h.sur,h.sle,by have:=h.c; omega,by have:=h.le; omega,by have:=h.st; omega,h.sm⟩
theorem DJ.to {k:Nat} {s s':Sl} {qv qv' av:Value} {all:List VW} {sure dg:Nat} {c:UInt32} {i0 i1:List It} (h:DJ k ⟨s,qv,av,all,sure,dg,c,i0,i1⟩) (hr:∃ M x0,Run s' c i0 i1 M x0) (hst:s'.steps≤s.steps + 41):DJ (k + 1) ⟨s',qv',av,all,sure,dg,c,i0,i1⟩ :=
  ⟨hr,h.tot,h.sur,h.sle,by have h1:c.toNat≤1 + 5 * k:=h.c; show c.toNat≤_; omega,by have h1:all.length≤k + 2:=h.le; show all.length≤_; omega,by have h1:s.steps≤10000 * (k + 1):=h.st; show s'.steps≤_; omega,h.sm⟩
theorem DJ.app {k:Nat} {s s':Sl} {qv qv' av av' tv:Value} {all:List VW} {sure dg:Nat} {c:UInt32} {i0 i1:List It} {p:List UInt8} (h:DJ k ⟨s,qv,av,all,sure,dg,c,i0,i1⟩) (hr:∃ M x0,Run s' c i0 (i1++[(0,p)]) M x0) (hst:s'.steps≤s.steps + 41) (hp:p.length≤2048):DJ (k + 1) ⟨s',qv',av',all++[(tv,true,p)],sure,dg,c,i0,i1++[(0,p)]⟩:=by
  have e:recsV (vpW (all++[(tv,true,p)]))=recsV (vpW all)++[p]:=by simp [recsV,vpW]
  have hsl:sure≤(recsV (vpW all)).length:=by have h1:sure≤(vpW all).length:=h.sle; rw [recsV_len]; rw [vpW_len] at h1; exact h1
  refine ⟨hr,?_,?_,?_,by have h1:c.toNat≤1 + 5 * k:=h.c; show c.toNat≤_; omega,?_,by have h1:s.steps≤10000 * (k + 1):=h.st; show s'.steps≤_; omega,fun q hq=>?_⟩
  · show recsOf (i0++(i1++[(0,p)]))=recsV (vpW (all++[(tv,true,p)]))
    rw [e,← List.append_assoc,recsOf_snoc]
    exact congrArg (·++[p]) h.tot
  · show recsOf i0=(recsV (vpW (all++[(tv,true,p)]))).take sure
    rw [e,List.take_append_of_le_length hsl]
    exact h.sur
  · show sure≤(vpW (all++[(tv,true,p)])).length
    rw [vpW_len,List.length_append]
    rw [recsV_len] at hsl
    exact Nat.le_succ_of_le hsl
  · have h1:all.length≤k + 2:=h.le
    show (all++[_]).length≤_
    rw [List.length_append]
    exact Nat.succ_le_succ h1
  · rcases List.mem_append.1 hq with hq | hq
    · exact h.sm q hq
    · rw [List.mem_singleton.1 hq]; exact hp
theorem DJ.fl {k:Nat} {s s':Sl} {qv qv' av:Value} {all:List VW} {sure dg:Nat} {c:UInt32} {i0 i1:List It} (h:DJ k ⟨s,qv,av,all,sure,dg,c,i0,i1⟩) (hr:∃ M x0,Run s' c (i0++i1) [] M x0) (hst:s'.steps≤s.steps + 1):DJ (k + 1) ⟨s',qv',av,all,(vpW all).length,dg,c,i0++i1,[]⟩ :=
  ⟨hr,by rw [List.append_nil]; exact h.tot,(show recsOf (i0++i1)=(recsV (vpW all)).take (vpW all).length by rw [List.take_of_length_le (by rw [recsV_len,vpW_len]; exact Nat.le_refl _)]; exact h.tot),Nat.le_refl _,by have h1:c.toNat≤1 + 5 * k:=h.c; show c.toNat≤_; omega,by have h1:all.length≤k + 2:=h.le; show all.length≤_; omega,by have h1:s.steps≤10000 * (k + 1):=h.st; show s'.steps≤_; omega,h.sm⟩
structure RS where
  s:Sl
  qv:Value
  av:Value
  all:List VW
  c:UInt32
  go:UInt32
structure RJ (k C S0:Nat) (on oa:Int) (j:Nat) (z:RS):Prop where
  rest:Rest z.s z.c z.go (recsV (vpW z.all))
  g1:z.c.toNat < 300
  g2:z.go.toNat < 300
  nx:(nextG z.c z.go).toNat≤C + 1 + 2 * j
  cond:j≤1→z.c.toNat < z.go.toNat→1≤on∨64≤oa
  le:z.all.length≤k + 2
  sm:∀ q∈z.all,q.2.2.length≤2048
  st:z.s.steps≤S0 + 200 * j
theorem RJ.pos {k C S0:Nat} {on oa:Int} {j:Nat} {z:RS} (h:RJ k C S0 on oa j z) (hb:C + 1 + 2 * j < 254):¬ nextG z.c z.go=0:=fun e=>by
  have h1:=(h.rest.par (by have:=h.nx; omega) h.g2 h.g1).2
  rw [e] at h1
  exact absurd h1 (Nat.not_lt_zero _)
theorem mod_i64 (a:Int) {m:UInt64} (hm:0 < m.toNat):(i64 a % m).toNat < m.toNat:=by
  rw [UInt64.toNat_mod]
  exact Nat.mod_lt _ hm
theorem wrap3a {n:Int} {x m j:Nat} (h:(x:Int)=n % 18446744073709551616) (h2:n≤9223372036854775807) (hm:x % 3=m) (hj:j < m):j≤1∧n + (j:Int)≤9223372036854775807∧m≤2:=by
  have hm2:m≤2:=by clear h; omega
  have hj1:j≤1:=by clear h; omega
  refine ⟨hj1,?_,hm2⟩
  by_cases e:0≤n
  · have hx:(x:Int)=n:=h.trans (Int.emod_eq_of_lt e (by clear h; omega))
    clear h
    omega
  · clear h
    omega
theorem wrap3 {n:Int} (h1:-9223372036854775808≤n) (h2:n≤9223372036854775807) {m j:Nat} (hm:(i64 n % 3).toNat=m) (hj:j < m):j≤1∧n + (j:Int)≤9223372036854775807∧m≤2:=by
  have h9:(i64 n % 3).toNat=(i64 n).toNat % 3:=UInt64.toNat_mod ..
  exact wrap3a (i64_toNat n) h2 (h9.symm.trans hm) hj
theorem law_DiaryLasts (ops:List O15) (v:Value) (w:World) (hops:∀ y∈ops,O15.Ok w y) (hqo:Rd w v ops.length (ops.flatMap O15.c)):Ctr Try.prog 8 [v] w (fun _=>False) (fun v2 _=>v2=.bool true):=by
  have hnl0:=hqo.le
  obtain ⟨vad,vcap,rfl,hvc,hvm⟩:=Rd.sl hqo
  refine fn_start (N:=225) Try.func8 rfl rfl rfl fun ac hk=>?_
  have hs:=St.start hk w
  refine wp_seq (wp_reg ?_)
  refine s_q hs (c_assign (hs.ev rfl)) rfl fun ac hs=>?_
  refine s_end (then_n (wp_seq (wp_reg ?_)))
  refine s_call hs fu9 (.cons (hs.ev rfl) .nil) (sl_New 4000 _) rfl fun ac ww v24 hf hp hs=>?_
  rw [if_pos (by decide)] at hp
  obtain ⟨g,sb,rfl,hh⟩:=hp
  replace hs:=hs _ (Has.grp' hh)
  refine s_q hs (c_move (hs.ev rfl)) rfl fun ac hs=>?_
  refine s_q hs (c_extract (hs.ev rfl) rfl) rfl fun ac hs=>?_
  refine s_q hs (c_extract (hs.ev rfl) rfl) rfl fun ac hs=>?_
  refine s_q hs (c_assign (hs.ev rfl)) rfl fun ac hs=>?_
  refine s_q hs (c_assign (hs.ev rfl)) rfl fun ac hs=>?_
  refine s_end ?_
  replace hs:=hs.sub (F':=[(0,_),(2,_),(3,_)]) ⟨rfl,rfl,rfl,trivial⟩
  refine then_n (wp_seq (wp_reg ?_))
  refine s_q hs (c_move (hs.ev rfl)) rfl fun ac hs=>?_
  refine s_callM (i:=0) hs fu26 (.cons (hs.ev rfl) (.cons (hs.ev rfl) (.cons (hs.ev rfl) .nil))) rfl (di_Start g sb 1 _ (newS 4000) [] _ (newS_ok (by decide)) (by decide) (by decide) (by decide) (by decide) (by decide) (by decide) _ (hs.get (i:=0) rfl) (fun _ _=>RdP.noneS _)) rfl fun ac ww v29 hf hp hs=>?_
  obtain ⟨dg,rfl,qv',h1,h2⟩:=hp
  obtain ⟨he1,he2,M0,x00,hnx,hR0⟩:=run_first
  have hkp:=(dstart_kept (g:=1) (recs:=[]) (newS_ok (n:=4000) (by decide))).st
  replace hs:=(hs (Ent.grp (dl dg g sb qv' 1 _ _)) h1 (fun k hk=>⟨h2 k hk,grp_lt h1 k hk⟩)).toL (L':=[Ent.grp (dl dg g sb qv' 1 (itsN (([(4,[])]:List It)++[])) (dstart (newS 4000) 1 []).2.2.1)]) (by rw [← hnx]; rfl)
  obtain ⟨s0,hs0⟩:∃ s0,(dstart (newS 4000) 1 []).2.2.1=s0:=⟨_,rfl⟩
  rw [hs0] at hs hR0 hkp
  replace hkp:s0.steps≤42:=hkp
  refine s_q hs (c_move (hs.ev rfl)) rfl fun ac hs=>?_
  refine s_q hs (c_extract (hs.ev rfl) (show _=some (Value.pointer (some ⟨dg,0,none⟩)) from congrArg some (congrArg (fun b=>dptr b dg) he1))) rfl fun ac hs=>?_
  refine s_q hs (c_extract (hs.ev rfl) (show _=some (I 0) from congrArg (fun n:Int=>some (I n)) he2)) rfl fun ac hs=>?_
  refine s_q hs (c_assign (hs.ev rfl)) rfl fun ac hs=>?_
  refine s_q hs (c_assign (hs.ev rfl)) rfl fun ac hs=>?_
  refine s_end ?_
  replace hs:=hs.sub (F':=[(0,_),(2,_),(3,_),(5,_),(6,_)]) ⟨rfl,rfl,rfl,rfl,rfl,trivial⟩
  refine then_n (wp_seq (wp_seq (wp_reg ?_)))
  refine s_call hs fu24 .nil (di_awake _) rfl fun ac ww v32 hf hp hs=>?_
  obtain rfl:=hp
  replace hs:=hs [] (.nil _ _)
  refine s_q hs (c_not (hs.ev rfl)) rfl fun ac hs=>?_
  refine s_q hs (c_move (hs.ev rfl)) rfl fun ac hs=>?_
  refine s_yes hs rfl rfl ?_
  refine s_q hs (c_move (hs.ev rfl)) rfl fun ac hs=>?_
  refine s_yes hs rfl rfl ?_
  refine s_q hs (c_eqlNil un23 (hs.ev rfl) (hs.ev rfl)) rfl fun ac hs=>?_
  refine s_q hs (c_pick (hs.ev rfl) (hs.ev rfl) (hs.ev rfl)) rfl fun ac hs=>?_
  refine s_q hs (c_move (hs.ev rfl)) rfl fun ac hs=>?_
  refine s_yes hs rfl rfl ?_
  refine s_q hs (c_move (hs.ev rfl)) rfl fun ac hs=>?_
  refine s_yes hs rfl rfl ?_
  refine s_q hs (c_neqI (hs.ev rfl) (hs.ev rfl)) rfl fun ac hs=>?_
  refine s_q hs (c_pick (hs.ev rfl) (hs.ev rfl) (hs.ev rfl)) rfl fun ac hs=>?_
  refine s_end ?_
  replace hs:=hs.sub (F':=[(0,_),(2,_),(3,_),(5,_),(41,_)]) ⟨rfl,rfl,rfl,rfl,rfl,trivial⟩
  refine then_n ?_
  refine wp_cond_false (hs.ev rfl) ?_
  refine wp_skip (then_n (wp_seq (wp_reg ?_)))
  refine s_q hs (c_assign (hs.ev rfl)) rfl fun ac hs=>?_
  refine s_end ?_
  replace hs:=hs.texts0 38 (Ent.ptW w 5)
  replace hs:=hs.sub (F':=[(0,_),(2,_),(3,_),(5,_),(7,_)]) ⟨rfl,rfl,rfl,rfl,rfl,trivial⟩
  refine then_n (wp_seq (wp_reg ?_))
  refine s_q hs (c_assign (hs.ev rfl)) rfl fun ac hs=>?_
  refine s_end (then_n (wp_seq (wp_seq (wp_reg ?_))))
  refine s_q hs (c_move (hs.ev rfl)) rfl fun ac hs=>?_
  refine s_q hs (c_lenS un67 (hs.ev rfl)) rfl fun ac hs=>?_
  refine s_q hs (c_move (hs.ev rfl)) rfl fun ac hs=>?_
  refine s_end ?_
  replace hs:=hs.sub (F':=[(2,_),(3,_),(5,_),(7,_),(8,_),(42,_),(43,_),(44,_)]) ⟨rfl,rfl,rfl,rfl,rfl,rfl,rfl,rfl,trivial⟩
  refine then_n (wp_block ?_)
  refine s_loop hs (X:=Nat × DS) (fun z=>[(44,I z.1),(5,.pointer (some ⟨z.2.dg,0,none⟩)),(7,z.2.av),(8,I z.2.sure)]) [(3,_),(42,_),(43,_)] (fun z=>[Ent.texts 38 (Ent.ptW w 5) (z.2.av) (z.2.all),Ent.grp (dl (z.2.dg) g sb (z.2.qv) (z.2.c) (itsN ((z.2.i0)++(z.2.i1))) (z.2.s))]) (fun n z=>z.1≤ops.length∧DJ z.1 z.2∧n=ops.length - z.1) (_) ((0,⟨s0,qv',.slice none 0 0,[],0,dg,1,[(4,[])],[]⟩)) (⟨Nat.zero_le _,⟨⟨_,_,hR0⟩,rfl,rfl,Nat.le_refl _,(show (1:UInt32).toNat≤1 + 5 * 0 by decide),Nat.zero_le _,by show s0.steps≤_; omega,fun _ h=>by cases h⟩,rfl⟩) ⟨rfl,rfl,rfl,rfl,rfl,rfl,rfl,trivial⟩ rfl ?_
  rintro n ⟨k,s,qv,av,all,sure,dg,c,i0,i1⟩ ac ww hok2 hs
  simp only [List.cons_append,List.nil_append] at hs
  obtain ⟨hk,hJ,rfl⟩:=hok2
  replace hk:k≤ops.length:=hk
  replace hJ:DJ k ⟨s,qv,av,all,sure,dg,c,i0,i1⟩:=hJ
  obtain ⟨M1,x1,hRun⟩:=hJ.run
  replace hRun:Run s c i0 i1 M1 x1:=hRun
  have htot:recsOf (i0++i1)=recsV (vpW all):=hJ.tot
  have hsur:recsOf i0=(recsV (vpW all)).take sure:=hJ.sur
  have hsle:sure≤(vpW all).length:=hJ.sle
  have hcb:c.toNat≤1 + 5 * k:=hJ.c
  have hale:all.length≤k + 2:=hJ.le
  have hst:s.steps≤10000 * (k + 1):=hJ.st
  have hsm:∀ q∈all,q.2.2.length≤2048:=hJ.sm
  have hok:=hRun.ok
  have hn4:=hRun.n
  have hql:=hRun.qlen
  have hnx:=hRun.next
  have hvl:=vpW_len all
  obtain ⟨aad,acap,rfl,_,_⟩:=RdP.sl (RdP.ptW hs.fr (hs.get (i:=0) rfl))
  refine wp_seq (wp_reg ?_)
  refine s_q hs (c_lssI (hs.ev rfl) (hs.ev rfl)) rfl fun ac hs=>?_
  refine s_end (then_n (wp_seq ?_))
  refine s_cond hs rfl (fun hc=>?_) (fun hc=>?_)
  · try simp only [decide_eq_true_eq,decide_eq_false_iff_not,Bool.not_eq_true',Bool.not_eq_false',Bool.and_eq_true,Bool.or_eq_true,Bool.or_eq_false_iff] at hc
    have hkn:k < ops.length:=by omega
    obtain ⟨pb,po,pT,pf,pall,rfl,hpb,hps⟩:=Rd.fm_at (by decide) (fun y hy=>O15.len (hops y hy).l) hqo (by omega)
    replace hps:=hps k hkn
    have ho:=hops _ (getD_mem hkn)
    obtain ⟨⟨ok,pv,p,gen,rv,qs,on,oa,ob⟩,hx⟩:∃ x,ops.getD k default=x:=⟨_,rfl⟩
    rw [hx] at hps ho
    have hob:ob.length=64:=ho.l
    have hpR:RdB w pv p:=ho.p
    have hqR:RdP w rv qs:=ho.q
    have hon:-9223372036854775808≤on∧on≤9223372036854775807:=ho.n
    have hoa:-9223372036854775808≤oa∧oa≤9223372036854775807:=ho.a
    have hone:=O15.one ho.p ho.q
    clear ho
    obtain ⟨pad,pcap,rfl,_,_⟩:=Rd.sl hpR
    refine wp_skip (then_n (wp_seq (wp_block (wp_seq (wp_reg ?_)))))
    refine s_q hs (c_move (hs.ev rfl)) rfl fun ac hs=>?_
    refine s_q hs (c_idxS (j:=k) un67 ty55 (hs.ev rfl) (hs.ev rfl) (by omega) (by omega)) rfl fun ac hs=>?_
    refine s_q hs (c_loadA ty55 ag55 (hs.ev rfl) (hs.old hpb id) hps (O15.len hob)) rfl fun ac hs=>?_
    refine s_alloc hs ty55 rfl fun ac ww g10 hs=>?_
    refine s_q hs (c_assign (hs.ev rfl)) rfl fun ac hs=>?_
    refine s_storeW (i:=0) hs ty55 rfl rfl rfl (O15.len hob) hone (by rfl) fun ww hs=>?_
    refine s_end (then_n (wp_seq (wp_seq (wp_reg ?_))))
    by_cases h50:50≤k
    · refine s_q hs (c_move (hs.ev rfl)) rfl fun ac hs=>?_
      refine s_q hs (c_tt (c_geqI (hs.ev rfl) (hs.ev rfl)) ((decide_eq_true (by omega)))) rfl fun ac hs=>?_
      refine s_q hs (c_move (hs.ev rfl)) rfl fun ac hs=>?_
      refine s_no hs rfl rfl rfl rfl fun ac hs=>?_
      refine s_no hs rfl rfl rfl rfl fun ac hs=>?_
      refine s_no hs rfl rfl rfl rfl fun ac hs=>?_
      refine s_q hs (c_pick (hs.ev rfl) (hs.ev rfl) (hs.ev rfl)) rfl fun ac hs=>?_
      refine s_q hs (c_move (hs.ev rfl)) rfl fun ac hs=>?_
      refine s_no hs rfl rfl rfl rfl fun ac hs=>?_
      refine s_no hs rfl rfl rfl rfl fun ac hs=>?_
      refine s_no hs rfl rfl rfl rfl fun ac hs=>?_
      refine s_no hs rfl rfl rfl rfl fun ac hs=>?_
      refine s_q hs (c_pick (hs.ev rfl) (hs.ev rfl) (hs.ev rfl)) rfl fun ac hs=>?_
      refine s_end (then_n ?_)
      refine wp_cond_true (hs.ev rfl) ?_
      refine wp_exit (then_e (blk_miss rfl (then_e (then_e (blk_hit (then_n (wp_seq (wp_reg ?_))))))))
      refine s_q hs (c_assign (hs.ev rfl)) rfl fun ac hs=>?_
      refine s_end ?_
      replace hs:=hs.sub (F':=[(2,_)]) ⟨rfl,trivial⟩
      refine then_n (wp_ret ?_)
      refine s_ret hs rfl (.tmp (hs.tmp rfl) .nil) rfl ⟨_,rfl,hs.fr,?_⟩
      rfl
    · refine s_q hs (c_move (hs.ev rfl)) rfl fun ac hs=>?_
      refine s_q hs (c_ff (c_geqI (hs.ev rfl) (hs.ev rfl)) ((decide_eq_false (by omega)))) rfl fun ac hs=>?_
      refine s_q hs (c_move (hs.ev rfl)) rfl fun ac hs=>?_
      refine s_yes hs rfl rfl ?_
      refine s_q hs (c_loadW ty55 ag55 (hs.ev rfl) (hs.seg (i:=0) rfl) (O15.len hob)) rfl fun ac hs=>?_
      refine s_yes hs rfl rfl ?_
      refine s_call hs fu25 (.cons (hs.ev rfl) .nil) (law15_fits ok _ gen rv on oa ob p qs _ (hpR.fr0 hs.fr) (hqR.fr0 hs.fr)) rfl fun ac ww v53 hf hp hs=>?_
      obtain ⟨bf,rfl,hbf⟩:=hp
      replace hs:=hs [] (.nil _ _)
      rcases Bool.eq_false_or_eq_true bf with rfl | rfl
      · refine s_yes hs rfl rfl ?_
        refine s_q hs (c_not (hs.ev rfl)) rfl fun ac hs=>?_
        refine s_q hs (c_pick (hs.ev rfl) (hs.ev rfl) (hs.ev rfl)) rfl fun ac hs=>?_
        refine s_q hs (c_move (hs.ev rfl)) rfl fun ac hs=>?_
        refine s_yes hs rfl rfl ?_
        refine s_q hs (c_fld fl55_1 (hs.ev rfl)) rfl fun ac hs=>?_
        refine s_yes hs rfl rfl ?_
        refine s_q hs (c_loadS un38 rfl (hs.ev rfl) (hs.seg (i:=0) rfl) rfl) rfl fun ac hs=>?_
        refine s_yes hs rfl rfl ?_
        refine s_q hs (c_lenS un38 (hs.ev rfl)) rfl fun ac hs=>?_
        refine s_yes hs rfl rfl ?_
        refine s_q hs (c_gtrI (hs.ev rfl) (hs.ev rfl)) rfl fun ac hs=>?_
        refine s_q hs (c_pick (hs.ev rfl) (hs.ev rfl) (hs.ev rfl)) rfl fun ac hs=>?_
        refine s_end (then_n ?_)
        refine s_cond hs rfl (fun hc=>?_) (fun hc=>?_)
        · try simp only [decide_eq_true_eq,decide_eq_false_iff_not,Bool.not_eq_true',Bool.not_eq_false',Bool.and_eq_true,Bool.or_eq_true,Bool.or_eq_false_iff] at hc
          refine wp_exit (then_e (blk_miss rfl (then_e (then_e (blk_hit (then_n (wp_seq (wp_reg ?_))))))))
          refine s_q hs (c_assign (hs.ev rfl)) rfl fun ac hs=>?_
          refine s_end ?_
          replace hs:=hs.sub (F':=[(2,_)]) ⟨rfl,trivial⟩
          refine then_n (wp_ret ?_)
          refine s_ret hs rfl (.tmp (hs.tmp rfl) .nil) rfl ⟨_,rfl,hs.fr,?_⟩
          rfl
        · try simp only [decide_eq_true_eq,decide_eq_false_iff_not,Bool.not_eq_true',Bool.not_eq_false',Bool.and_eq_true,Bool.or_eq_true,Bool.or_eq_false_iff] at hc
          have hp48:p.length≤2048:=by omega
          have hk50:k < 50:=by omega
          refine wp_skip (then_n (wp_seq (wp_reg ?_)))
          refine s_q hs (c_fld fl55_0 (hs.ev rfl)) rfl fun ac hs=>?_
          refine s_q hs (c_loadS un3 rfl (hs.ev rfl) (hs.seg (i:=0) rfl) rfl) rfl fun ac hs=>?_
          refine s_end (then_n (wp_block (wp_seq (wp_reg ?_))))
          refine s_q hs (c_eqlI (hs.ev rfl) (hs.ev rfl)) rfl fun ac hs=>?_
          refine s_q hs (c_assign (hs.ev rfl)) rfl fun ac hs=>?_
          refine s_end (then_n ?_)
          refine s_cond hs rfl (fun hc=>?_) (fun hc=>?_)
          · try simp only [decide_eq_true_eq,decide_eq_false_iff_not,Bool.not_eq_true',Bool.not_eq_false',Bool.and_eq_true,Bool.or_eq_true,Bool.or_eq_false_iff] at hc
            refine wp_seq (wp_reg ?_)
            refine s_q hs (c_move (hs.ev rfl)) rfl fun ac hs=>?_
            refine s_q hs (c_neqNil un56 (hs.ev rfl) (hs.ev rfl)) rfl fun ac hs=>?_
            refine s_end (then_n ?_)
            refine wp_cond_true (hs.ev rfl) ?_
            refine wp_seq (wp_reg ?_)
            refine s_q hs (c_move (hs.ev rfl)) rfl fun ac hs=>?_
            refine s_q hs (c_fld fl55_1 (hs.ev rfl)) rfl fun ac hs=>?_
            refine s_q hs (c_loadS un38 rfl (hs.ev rfl) (hs.seg (i:=0) rfl) rfl) rfl fun ac hs=>?_
            refine s_callM (i:=2) hs fu27 (.cons (hs.ev rfl) (.cons (hs.ev rfl) .nil)) rfl (di_Append dg g sb (itsN (i0++i1)) c qv s p _ hok (by omega) (by omega) hnx _ (hs.get (i:=2) rfl) (hpR.fr0 hs.fr)) rfl fun ac ww v71 hf hp hs=>?_
            obtain ⟨rfl,qv',h1,h2⟩:=hp
            replace hs:=hs (Ent.grp (dl dg g sb qv' c (dput s c (itsN (i0++i1)) 0 p).2.2 (dput s c (itsN (i0++i1)) 0 p).2.1)) h1 (fun k hk=>⟨h2 k hk,grp_lt h1 k hk⟩)
            have hkp2:=(dput_kept (g:=c) (next:=itsN (i0++i1)) (fl:=0) (p:=p) hok).st
            have hA:=hRun.append hp48
            refine s_q hs (c_assign (hs.ev rfl)) rfl fun ac hs=>?_
            refine s_end (then_n (wp_seq (wp_reg ?_)))
            refine s_q hs (c_move (hs.ev rfl)) rfl fun ac hs=>?_
            refine s_q hs (c_eqlI (hs.ev rfl) (hs.ev rfl)) rfl fun ac hs=>?_
            refine s_end (then_n ?_)
            refine s_cond hs rfl (fun hc=>?_) (fun hc=>?_)
            · try simp only [decide_eq_true_eq,decide_eq_false_iff_not,Bool.not_eq_true',Bool.not_eq_false',Bool.and_eq_true,Bool.or_eq_true,Bool.or_eq_false_iff] at hc
              have hw:(dput s c (itsN (i0++i1)) 0 p).1=0:=hc
              rcases hA with ⟨-,hN2,hR2⟩ | ⟨h9,-⟩
              rotate_left
              · exfalso
                rcases h9 with h9 | h9 <;> rw [h9] at hw <;> cases hw
              refine wp_reg ?_
              refine s_q hs (c_move (hs.ev rfl)) rfl fun ac hs=>?_
              refine s_bslice hs un38 ty5 .nil rfl (by simp [Value.cells]) (by decide) rfl rfl fun ac ww g75 hs=>?_
              refine s_q hs (c_fld fl55_1 (hs.ev rfl)) rfl fun ac hs=>?_
              refine s_q hs (c_loadS un38 rfl (hs.ev rfl) (hs.seg (i:=1) rfl) rfl) rfl fun ac hs=>?_
              replace hs:=hs.segrow (i:=0) (n:=0) (sz:=1) rfl rfl (by decide)
              refine s_appB (i:=0) (l:=[]) hs un38 ty5 rfl rfl rfl (hpR.fr0 hs.fr) (by simp; omega) rfl fun ac ww v78 hf hnil hs=>?_
              rw [List.nil_append] at hs
              obtain ⟨ad78,cap78,rfl,_,_⟩:=Rd.sl (RdB.row (hs.get (i:=0) rfl))
              refine s_bslice hs un51 ty38 (.cons (hs.ev rfl) .nil) rfl (by simp [Value.cells]) (by decide) rfl rfl fun ac ww g79 hs=>?_
              refine s_appP (i:=3) (j:=1) (pt:=Ent.ptW w 5) (z:=(true,p)) hs un51 ty38 rfl rfl rfl rfl rfl (hs.seg (i:=0) rfl) rfl (by omega) rfl fun ac ww v80 hs=>?_
              refine s_q hs (c_assign (hs.ev rfl)) rfl fun ac hs=>?_
              refine s_end ?_
              replace hs:=hs.pick (L':=[_,_]) (.cons _ (.cons _ (.cons _ (.refl _))))
              rw [hN2] at hs
              have hJ2:DJ (k + 1) ⟨(dput s c (itsN (i0++i1)) 0 p).2.1,qv',v80,all++[(.slice ad78 p.length cap78,true,p)],sure,dg,c,i0,i1++[(0,p)]⟩:=hJ.app hR2 hkp2 hp48
              refine blk_n (blk_n (then_n (wp_reg ?_)))
              refine s_q hs (c_addI (hs.ev rfl) (hs.ev rfl) (by omega) (by omega)) rfl fun ac hs=>?_
              refine s_q hs (c_move (hs.ev rfl)) rfl fun ac hs=>?_
              refine s_end (then_n ?_)
              exact ⟨ops.length - (k + 1),by omega,(k + 1,_),⟨by show k + 1≤_; omega,hJ2,rfl⟩,St.next hs ⟨rfl,rfl,rfl,rfl,rfl,rfl,rfl,trivial⟩ rfl⟩
            · try simp only [decide_eq_true_eq,decide_eq_false_iff_not,Bool.not_eq_true',Bool.not_eq_false',Bool.and_eq_true,Bool.or_eq_true,Bool.or_eq_false_iff] at hc
              have hw:¬ (dput s c (itsN (i0++i1)) 0 p).1=0:=hc
              rcases hA with ⟨h9,-⟩ | ⟨hE,hN2,hR2⟩
              · exact absurd h9 hw
              have hJ2:DJ (k + 1) ⟨(dput s c (itsN (i0++i1)) 0 p).2.1,qv',(.slice aad (vpW all).length acap),all,sure,dg,c,i0,i1⟩:=hJ.to hR2 hkp2
              rw [hN2] at hs
              replace hs:=hs.pick (L':=[_,_]) (.cons _ (.refl _))
              refine wp_seq (wp_reg ?_)
              rcases hE with hE | hE
              · refine s_q hs (c_move (hs.ev rfl)) rfl fun ac hs=>?_
                refine s_q hs (c_tt (c_neqI (hs.ev rfl) (hs.ev rfl)) ((by rw [hE]; decide))) rfl fun ac hs=>?_
                refine s_q hs (c_move (hs.ev rfl)) rfl fun ac hs=>?_
                refine s_yes hs rfl rfl ?_
                refine s_q hs (c_move (hs.ev rfl)) rfl fun ac hs=>?_
                refine s_yes hs rfl rfl ?_
                refine s_q hs (c_ff (c_neqI (hs.ev rfl) (hs.ev rfl)) ((by rw [hE]; decide))) rfl fun ac hs=>?_
                refine s_q hs (c_pick (hs.ev rfl) (hs.ev rfl) (hs.ev rfl)) rfl fun ac hs=>?_
                refine s_end (then_n ?_)
                refine wp_cond_false (hs.ev rfl) ?_
                refine wp_skip (blk_n (blk_n (then_n (wp_reg ?_))))
                refine s_q hs (c_addI (hs.ev rfl) (hs.ev rfl) (by omega) (by omega)) rfl fun ac hs=>?_
                refine s_q hs (c_move (hs.ev rfl)) rfl fun ac hs=>?_
                refine s_end (then_n ?_)
                exact ⟨ops.length - (k + 1),by omega,(k + 1,_),⟨by show k + 1≤_; omega,hJ2,rfl⟩,St.next hs ⟨rfl,rfl,rfl,rfl,rfl,rfl,rfl,trivial⟩ rfl⟩
              · refine s_q hs (c_move (hs.ev rfl)) rfl fun ac hs=>?_
                refine s_q hs (c_ff (c_neqI (hs.ev rfl) (hs.ev rfl)) ((by rw [hE]; decide))) rfl fun ac hs=>?_
                refine s_q hs (c_move (hs.ev rfl)) rfl fun ac hs=>?_
                refine s_no hs rfl rfl rfl rfl fun ac hs=>?_
                refine s_no hs rfl rfl rfl rfl fun ac hs=>?_
                refine s_q hs (c_pick (hs.ev rfl) (hs.ev rfl) (hs.ev rfl)) rfl fun ac hs=>?_
                refine s_end (then_n ?_)
                refine wp_cond_false (hs.ev rfl) ?_
                refine wp_skip (blk_n (blk_n (then_n (wp_reg ?_))))
                refine s_q hs (c_addI (hs.ev rfl) (hs.ev rfl) (by omega) (by omega)) rfl fun ac hs=>?_
                refine s_q hs (c_move (hs.ev rfl)) rfl fun ac hs=>?_
                refine s_end (then_n ?_)
                exact ⟨ops.length - (k + 1),by omega,(k + 1,_),⟨by show k + 1≤_; omega,hJ2,rfl⟩,St.next hs ⟨rfl,rfl,rfl,rfl,rfl,rfl,rfl,trivial⟩ rfl⟩
          · try simp only [decide_eq_true_eq,decide_eq_false_iff_not,Bool.not_eq_true',Bool.not_eq_false',Bool.and_eq_true,Bool.or_eq_true,Bool.or_eq_false_iff] at hc
            refine wp_seq (wp_reg ?_)
            refine s_q hs (c_eqlI (hs.ev rfl) (hs.ev rfl)) rfl fun ac hs=>?_
            refine s_q hs (c_assign (hs.ev rfl)) rfl fun ac hs=>?_
            refine s_end (then_n ?_)
            refine s_cond hs rfl (fun hc=>?_) (fun hc=>?_)
            · try simp only [decide_eq_true_eq,decide_eq_false_iff_not,Bool.not_eq_true',Bool.not_eq_false',Bool.and_eq_true,Bool.or_eq_true,Bool.or_eq_false_iff] at hc
              refine wp_seq (wp_reg ?_)
              refine s_q hs (c_move (hs.ev rfl)) rfl fun ac hs=>?_
              refine s_q hs (c_neqNil un56 (hs.ev rfl) (hs.ev rfl)) rfl fun ac hs=>?_
              refine s_end (then_n ?_)
              refine wp_cond_true (hs.ev rfl) ?_
              refine wp_seq (wp_reg ?_)
              refine s_q hs (c_move (hs.ev rfl)) rfl fun ac hs=>?_
              refine s_callM (i:=2) hs fu28 (.cons (hs.ev rfl) .nil) rfl (di_Flush dg g sb (itsN (i0++i1)) c qv s hok (by omega) (by omega) _ (hs.get (i:=2) rfl)) rfl fun ac ww v92 hf hp hs=>?_
              obtain ⟨rfl,qv',h1,h2⟩:=hp
              replace hs:=hs (Ent.grp (dl dg g sb qv' c (itsN (i0++i1)) s.flush.2)) h1 (fun k hk=>⟨h2 k hk,grp_lt h1 k hk⟩)
              have hkp2:=(flush_st15 s).1
              have hA:=hRun.flush (by omega)
              replace hs:=hs.pick (L':=[_,_]) (.cons _ (.refl _))
              refine s_q hs (c_assign (hs.ev rfl)) rfl fun ac hs=>?_
              refine s_end (then_n (wp_seq (wp_reg ?_)))
              refine s_q hs (c_move (hs.ev rfl)) rfl fun ac hs=>?_
              refine s_q hs (c_eqlI (hs.ev rfl) (hs.ev rfl)) rfl fun ac hs=>?_
              refine s_end (then_n ?_)
              refine s_cond hs rfl (fun hc=>?_) (fun hc=>?_)
              · try simp only [decide_eq_true_eq,decide_eq_false_iff_not,Bool.not_eq_true',Bool.not_eq_false',Bool.and_eq_true,Bool.or_eq_true,Bool.or_eq_false_iff] at hc
                have hw:s.flush.1=0:=hc
                rcases hA with ⟨-,hR2⟩ | ⟨h9,-⟩
                rotate_left
                · exfalso
                  rw [h9] at hw
                  cases hw
                refine wp_reg ?_
                refine s_q hs (c_move (hs.ev rfl)) rfl fun ac hs=>?_
                refine s_q hs (c_lenS un51 (hs.ev rfl)) rfl fun ac hs=>?_
                refine s_q hs (c_assign (hs.ev rfl)) rfl fun ac hs=>?_
                refine s_end ?_
                have hJ2:DJ (k + 1) ⟨s.flush.2,qv',(.slice aad (vpW all).length acap),all,(vpW all).length,dg,c,i0++i1,[]⟩:=hJ.fl ⟨_,_,hR2⟩ hkp2
                replace hs:=hs.toL (L':=[Ent.texts 38 (Ent.ptW w 5) ((.slice aad (vpW all).length acap)) (all),Ent.grp (dl (dg) g sb (qv') (c) (itsN ((i0++i1)++([]))) (s.flush.2))]) (by rw [List.append_nil])
                refine blk_n (blk_n (then_n (wp_reg ?_)))
                refine s_q hs (c_addI (hs.ev rfl) (hs.ev rfl) (by omega) (by omega)) rfl fun ac hs=>?_
                refine s_q hs (c_move (hs.ev rfl)) rfl fun ac hs=>?_
                refine s_end (then_n ?_)
                exact ⟨ops.length - (k + 1),by omega,(k + 1,_),⟨by show k + 1≤_; omega,hJ2,rfl⟩,St.next hs ⟨rfl,rfl,rfl,rfl,rfl,rfl,rfl,trivial⟩ rfl⟩
              · try simp only [decide_eq_true_eq,decide_eq_false_iff_not,Bool.not_eq_true',Bool.not_eq_false',Bool.and_eq_true,Bool.or_eq_true,Bool.or_eq_false_iff] at hc
                have hw:¬ s.flush.1=0:=hc
                rcases hA with ⟨h9,-⟩ | ⟨hE,hR2⟩
                · exact absurd h9 hw
                have hJ2:DJ (k + 1) ⟨s.flush.2,qv',(.slice aad (vpW all).length acap),all,sure,dg,c,i0,i1⟩:=hJ.to ⟨_,_,hR2⟩ (by omega)
                refine wp_seq (wp_reg ?_)
                refine s_q hs (c_move (hs.ev rfl)) rfl fun ac hs=>?_
                refine s_q hs (c_ff (c_neqI (hs.ev rfl) (hs.ev rfl)) ((by rw [hE]; decide))) rfl fun ac hs=>?_
                refine s_end (then_n ?_)
                refine wp_cond_false (hs.ev rfl) ?_
                refine wp_skip (blk_n (blk_n (then_n (wp_reg ?_))))
                refine s_q hs (c_addI (hs.ev rfl) (hs.ev rfl) (by omega) (by omega)) rfl fun ac hs=>?_
                refine s_q hs (c_move (hs.ev rfl)) rfl fun ac hs=>?_
                refine s_end (then_n ?_)
                exact ⟨ops.length - (k + 1),by omega,(k + 1,_),⟨by show k + 1≤_; omega,hJ2,rfl⟩,St.next hs ⟨rfl,rfl,rfl,rfl,rfl,rfl,rfl,trivial⟩ rfl⟩
            · try simp only [decide_eq_true_eq,decide_eq_false_iff_not,Bool.not_eq_true',Bool.not_eq_false',Bool.and_eq_true,Bool.or_eq_true,Bool.or_eq_false_iff] at hc
              refine wp_seq (wp_reg ?_)
              refine s_q hs (c_eqlI (hs.ev rfl) (hs.ev rfl)) rfl fun ac hs=>?_
              refine s_q hs (c_assign (hs.ev rfl)) rfl fun ac hs=>?_
              refine s_end (then_n ?_)
              refine s_cond hs rfl (fun hc=>?_) (fun hc=>?_)
              · try simp only [decide_eq_true_eq,decide_eq_false_iff_not,Bool.not_eq_true',Bool.not_eq_false',Bool.and_eq_true,Bool.or_eq_true,Bool.or_eq_false_iff] at hc
                refine wp_reg ?_
                refine s_q hs (c_move (hs.ev rfl)) rfl fun ac hs=>?_
                refine s_q hs (c_fld fl55_4 (hs.ev rfl)) rfl fun ac hs=>?_
                refine s_q hs (c_loadS un3 rfl (hs.ev rfl) (hs.seg (i:=0) rfl) rfl) rfl fun ac hs=>?_
                replace hs:=(hs.perm (L':=[_,_,_]) (List.perm_append_comm (l₁:=[_]) (l₂:=[_,_]))).ungrp
                refine s_callM (i:=1) hs fu13 (.cons (hs.ev rfl) (.cons (hs.ev rfl) .nil)) rfl (sl_Fuse g sb qv s on _ (hs.get (i:=1) rfl)) rfl fun ac ww v104 hf hp hs=>?_
                obtain ⟨rfl,qv',h1,h2⟩:=hp
                replace hs:=hs (Ent.grp (sl g sb qv' (s.fus on).2)) h1 (fun k hk=>⟨h2 k hk,grp_lt h1 k hk⟩)
                replace hs:=((St.grpn (A:=dl dg g sb qv' c (itsN (i0++i1)) (s.fus on).2) (L:=[_,_]) hs).pick (L':=[_,_]) (.cons_cons _ (.cons _ (.refl _)))).perm (L':=[_,_]) (.swap _ _ _)
                have hJ2:DJ (k + 1) ⟨(s.fus on).2,qv',(.slice aad (vpW all).length acap),all,sure,dg,c,i0,i1⟩:=hJ.to ⟨_,_,hRun.fuse hon.2⟩ (by rw [(fus_n s on).2.1]; omega)
                refine s_end ?_
                replace hs:=hs.sub (F':=[(3,_),(5,_),(7,_),(8,_),(9,_),(10,_),(42,_),(43,_),(44,_),(45,_),(46,_),(47,_),(48,_),(49,_),(50,_),(51,_),(52,_),(53,_),(54,_),(55,_),(56,_),(57,_),(58,_),(59,_),(60,_),(61,_),(62,_),(63,_),(64,_),(65,_),(87,_),(88,_),(99,_),(100,_),(101,_),(102,_),(103,_)]) ⟨rfl,rfl,rfl,rfl,rfl,rfl,rfl,rfl,rfl,rfl,rfl,rfl,rfl,rfl,rfl,rfl,rfl,rfl,rfl,rfl,rfl,rfl,rfl,rfl,rfl,rfl,rfl,rfl,rfl,rfl,rfl,rfl,rfl,rfl,rfl,rfl,rfl,trivial⟩
                refine blk_n (blk_n (then_n (wp_reg ?_)))
                refine s_q hs (c_addI (hs.ev rfl) (hs.ev rfl) (by omega) (by omega)) rfl fun ac hs=>?_
                refine s_q hs (c_move (hs.ev rfl)) rfl fun ac hs=>?_
                refine s_end (then_n ?_)
                exact ⟨ops.length - (k + 1),by omega,(k + 1,_),⟨by show k + 1≤_; omega,hJ2,rfl⟩,St.next hs ⟨rfl,rfl,rfl,rfl,rfl,rfl,rfl,trivial⟩ rfl⟩
              · try simp only [decide_eq_true_eq,decide_eq_false_iff_not,Bool.not_eq_true',Bool.not_eq_false',Bool.and_eq_true,Bool.or_eq_true,Bool.or_eq_false_iff] at hc
                refine wp_seq (wp_reg ?_)
                refine s_q hs (c_eqlI (hs.ev rfl) (hs.ev rfl)) rfl fun ac hs=>?_
                refine s_q hs (c_assign (hs.ev rfl)) rfl fun ac hs=>?_
                refine s_end (then_n ?_)
                refine s_cond hs rfl (fun hc=>?_) (fun hc=>?_)
                · try simp only [decide_eq_true_eq,decide_eq_false_iff_not,Bool.not_eq_true',Bool.not_eq_false',Bool.and_eq_true,Bool.or_eq_true,Bool.or_eq_false_iff] at hc
                  refine wp_seq (wp_reg ?_)
                  refine s_q hs (c_move (hs.ev rfl)) rfl fun ac hs=>?_
                  refine s_q hs (c_fld fl55_4 (hs.ev rfl)) rfl fun ac hs=>?_
                  refine s_q hs (c_loadS un3 rfl (hs.ev rfl) (hs.seg (i:=0) rfl) rfl) rfl fun ac hs=>?_
                  refine s_q hs (c_fld fl55_5 (hs.ev rfl)) rfl fun ac hs=>?_
                  refine s_q hs (c_loadS un3 rfl (hs.ev rfl) (hs.seg (i:=0) rfl) rfl) rfl fun ac hs=>?_
                  replace hs:=hs.shrink (i:=2) (e':=Ent.grp (sl g sb qv s)) rfl (dl_sl (hs.get (i:=2) rfl)) (fun k hk=>dl_keys hk)
                  refine s_callM (i:=2) hs fu14 (.cons (hs.ev rfl) (.cons (hs.ev rfl) (.cons (hs.ev rfl) .nil))) rfl (sl_Crash g sb qv s on oa hok _ (hs.get (i:=2) rfl)) rfl fun ac ww v112 hf hp hs=>?_
                  obtain ⟨rfl,qv',h1,h2⟩:=hp
                  replace hs:=hs (Ent.grp (sl g sb qv' (s.crash on oa))) h1 (fun k hk=>⟨h2 k hk,grp_lt h1 k hk⟩)
                  obtain ⟨go,l,u,v9,hRe,hgo,hl1,hl2⟩:=run_crash hRun (by omega) on oa
                  obtain ⟨s1,hs1⟩:∃ s1,s.crash on oa=s1:=⟨_,rfl⟩
                  have hst1:s1.steps=s.steps:=by rw [← hs1]; rfl
                  rw [hs1] at hs hRe
                  refine s_end ?_
                  replace hs:=hs.sub (F':=[(3,_),(5,_),(7,_),(8,_),(9,_),(10,_),(42,_),(43,_),(44,_),(45,_),(46,_),(47,_),(48,_),(49,_),(50,_),(51,_),(52,_),(53,_),(54,_),(55,_),(56,_),(57,_),(58,_),(59,_),(60,_),(61,_),(62,_),(63,_),(64,_),(65,_),(87,_),(88,_),(99,_),(100,_),(105,_),(106,_),(107,_),(108,_),(109,_),(110,_),(111,_)]) ⟨rfl,rfl,rfl,rfl,rfl,rfl,rfl,rfl,rfl,rfl,rfl,rfl,rfl,rfl,rfl,rfl,rfl,rfl,rfl,rfl,rfl,rfl,rfl,rfl,rfl,rfl,rfl,rfl,rfl,rfl,rfl,rfl,rfl,rfl,rfl,rfl,rfl,rfl,rfl,rfl,rfl,trivial⟩
                  refine then_n (wp_seq (wp_reg ?_))
                  refine s_q hs (c_move (hs.ev rfl)) rfl fun ac hs=>?_
                  refine s_call hs fu30 (.cons (hs.ev rfl) .nil) (di_Load g sb qv' s1 hRe.ok hRe.up.down (by rw [hRe.n]; decide) _ (sl_get (hs.get (i:=2) rfl))) rfl fun ac ww v115 hf hp hs=>?_
                  rw [rest_load hRe] at hp
                  obtain ⟨rv1,ps1,hv3,hps1,hh⟩:=hp
                  replace hs:=hs _ hh
                  replace hs:=hs.toL (L':=Ent.texts 38 (Ent.ptW w 5) (rv1) (ownW ps1)::_) (by rw [txW_own (w1:=w)]; rfl)
                  obtain ⟨all1,hall1⟩:∃ x,ownW ps1=x:=⟨_,rfl⟩
                  rw [hall1] at hs
                  replace hps1:recsV (vpW all1)=l:=by rw [← hall1,vpW_own]; exact hps1
                  replace hv3:v115=.tuple #[rv1,U (nextG c go),I 0]:=hv3
                  obtain rfl:=hv3
                  have hb1:preV (recsV ((vpW all).take sure)) (recsV (vpW all1))=true:=by
                    rw [hps1,hl1,show recsV ((vpW all).take sure)=recsOf i0 by rw [hsur]; exact List.map_take]
                    exact preV_yes
                  have hb2:preV (recsV (vpW all1)) (recsV (vpW all))=true:=by
                    rw [hps1,← htot,hl2]
                    exact preV_yes
                  have hle1:all1.length≤all.length:=by
                    have h9:=congrArg List.length hl2
                    rw [htot,recsV_len,List.length_append,← hps1,recsV_len] at h9
                    omega
                  have hsm1:∀ q∈all1,q.2.2.length≤2048:=recs_sm fun x hx=>sm_recs hsm x (by
                    rw [← htot,hl2,← hps1]
                    exact List.mem_append.2 (.inl hx))
                  rw [← hps1] at hRe
                  refine s_q hs (c_move (hs.ev rfl)) rfl fun ac hs=>?_
                  refine s_q hs (c_extract (hs.ev rfl) rfl) rfl fun ac hs=>?_
                  refine s_q hs (c_extract (hs.ev rfl) rfl) rfl fun ac hs=>?_
                  refine s_q hs (c_extract (hs.ev rfl) rfl) rfl fun ac hs=>?_
                  refine s_q hs (c_assign (hs.ev rfl)) rfl fun ac hs=>?_
                  refine s_q hs (c_assign (hs.ev rfl)) rfl fun ac hs=>?_
                  refine s_q hs (c_assign (hs.ev rfl)) rfl fun ac hs=>?_
                  refine s_end (then_n (wp_seq (wp_seq (wp_reg ?_))))
                  refine s_q hs (c_move (hs.ev rfl)) rfl fun ac hs=>?_
                  refine s_q hs (c_neqI (hs.ev rfl) (hs.ev rfl)) rfl fun ac hs=>?_
                  refine s_q hs (c_move (hs.ev rfl)) rfl fun ac hs=>?_
                  refine s_yes hs rfl rfl ?_
                  refine s_q hs (c_move (hs.ev rfl)) rfl fun ac hs=>?_
                  refine s_yes hs rfl rfl ?_
                  refine s_q hs (c_move (hs.ev rfl)) rfl fun ac hs=>?_
                  refine s_yes hs rfl rfl ?_
                  refine s_q hs (c_sliceH (j:=sure) un51 ty38 (hs.ev rfl) (hs.ev rfl) (by omega) (by omega)) rfl fun ac hs=>?_
                  refine s_yes hs rfl rfl ?_
                  refine s_q hs (c_move (hs.ev rfl)) rfl fun ac hs=>?_
                  refine s_yes hs rfl rfl ?_
                  refine s_call hs fu31 (.cons (hs.ev rfl) (.cons (hs.ev rfl) .nil)) (law15_begins ((vpW all).take sure) (vpW all1) _ _ _ (RdP.takeV (RdP.ptW hs.fr (hs.get (i:=2) rfl)) hsle) (RdP.ptW hs.fr (hs.get (i:=0) rfl))) rfl fun ac ww v126 hf hp hs=>?_
                  rw [hb1] at hp
                  obtain rfl:=hp
                  replace hs:=hs [] (.nil _ _)
                  refine s_yes hs rfl rfl ?_
                  refine s_q hs (c_not (hs.ev rfl)) rfl fun ac hs=>?_
                  refine s_q hs (c_pick (hs.ev rfl) (hs.ev rfl) (hs.ev rfl)) rfl fun ac hs=>?_
                  refine s_q hs (c_move (hs.ev rfl)) rfl fun ac hs=>?_
                  refine s_yes hs rfl rfl ?_
                  refine s_q hs (c_move (hs.ev rfl)) rfl fun ac hs=>?_
                  refine s_yes hs rfl rfl ?_
                  refine s_q hs (c_move (hs.ev rfl)) rfl fun ac hs=>?_
                  refine s_yes hs rfl rfl ?_
                  refine s_call hs fu31 (.cons (hs.ev rfl) (.cons (hs.ev rfl) .nil)) (law15_begins (vpW all1) (vpW all) _ _ _ (RdP.ptW hs.fr (hs.get (i:=0) rfl)) (RdP.ptW hs.fr (hs.get (i:=2) rfl))) rfl fun ac ww v132 hf hp hs=>?_
                  rw [hb2] at hp
                  obtain rfl:=hp
                  replace hs:=hs [] (.nil _ _)
                  refine s_yes hs rfl rfl ?_
                  refine s_q hs (c_not (hs.ev rfl)) rfl fun ac hs=>?_
                  refine s_q hs (c_pick (hs.ev rfl) (hs.ev rfl) (hs.ev rfl)) rfl fun ac hs=>?_
                  refine s_end (then_n ?_)
                  refine wp_cond_false (hs.ev rfl) ?_
                  refine wp_skip (then_n (wp_seq (wp_reg ?_)))
                  refine s_q hs (c_move (hs.ev rfl)) rfl fun ac hs=>?_
                  refine s_q hs (c_assign (hs.ev rfl)) rfl fun ac hs=>?_
                  refine s_q hs (c_assign (hs.ev rfl)) rfl fun ac hs=>?_
                  refine s_end ?_
                  replace hs:=hs.pick (L':=[_,_,_]) (.cons_cons _ (.cons_cons _ (.cons _ (.refl _))))
                  refine then_n (wp_seq (wp_seq (wp_reg ?_)))
                  refine s_q hs (c_fld fl55_4 (hs.ev rfl)) rfl fun ac hs=>?_
                  obtain ⟨m,hm⟩:∃ m,(i64 on % 3).toNat=m:=⟨_,rfl⟩
                  have hm3:m < 3:=hm ▸ mod_i64 on (m:=3) (by decide)
                  refine s_q hs (c_loadS un3 rfl (hs.ev rfl) (hs.seg (i:=1) rfl) rfl) rfl fun ac hs=>?_
                  refine s_q hs (c_cvIV un3 un33 (hs.ev rfl)) rfl fun ac hs=>?_
                  refine s_q hs (c_remV (hs.ev rfl) (St.ev (v:=V 3) hs rfl) (by decide)) rfl fun ac hs=>?_
                  refine s_q hs (c_to (c_cvVI un33 un3 (hs.ev rfl) (by rw [hm]; omega)) ((congrArg (fun n:Nat=>I (n:Int)) hm))) rfl fun ac hs=>?_
                  refine s_q hs (c_move (hs.ev rfl)) rfl fun ac hs=>?_
                  refine s_end (then_n (wp_block ?_))
                  refine s_loop hs (X:=Nat × RS) (fun z=>[(141,I z.1),(7,z.2.av),(14,U (nextG z.2.c z.2.go))]) [(3,_),(5,_),(8,_),(9,_),(10,_),(42,_),(43,_),(44,_),(45,_),(46,_),(47,_),(48,_),(49,_),(50,_),(51,_),(52,_),(53,_),(54,_),(55,_),(56,_),(57,_),(58,_),(59,_),(60,_),(61,_),(62,_),(63,_),(64,_),(65,_),(87,_),(88,_),(99,_),(100,_),(105,_),(106,_),(107,_),(108,_),(109,_),(110,_),(111,_),(113,_),(114,_),(115,_),(116,_),(117,_),(118,_),(119,_),(120,_),(121,_),(122,_),(123,_),(124,_),(125,_),(126,_),(127,_),(128,_),(129,_),(130,_),(131,_),(132,_),(133,_),(134,_),(135,_),(136,_),(137,_),(138,_),(139,_),(140,_)] (fun z=>[Ent.texts 38 (Ent.ptW w 5) (z.2.av) (z.2.all),.seg g10 (O15.c ⟨ok,.slice pad p.length pcap,p,gen,rv,qs,on,oa,ob⟩) 55,Ent.grp (sl g sb (z.2.qv) (z.2.s))]) (fun n z=>z.1≤m∧RJ k c.toNat s.steps on oa z.1 z.2∧n=m - z.1) (_) ((0,⟨s1,qv',rv1,all1,c,go⟩)) (⟨Nat.zero_le _,⟨hRe,by show c.toNat < _; omega,by show go.toNat < _; omega,by show (nextG c go).toNat≤_; rw [nextG_nat (by omega) (by omega),if_neg (by omega)]; omega,fun _ h=>by have h9:c.toNat < go.toNat:=h; omega,by show all1.length≤_; omega,hsm1,by show s1.steps≤_; omega⟩,rfl⟩) ⟨rfl,rfl,rfl,rfl,rfl,rfl,rfl,rfl,rfl,rfl,rfl,rfl,rfl,rfl,rfl,rfl,rfl,rfl,rfl,rfl,rfl,rfl,rfl,rfl,rfl,rfl,rfl,rfl,rfl,rfl,rfl,rfl,rfl,rfl,rfl,rfl,rfl,rfl,rfl,rfl,rfl,rfl,rfl,rfl,rfl,rfl,rfl,rfl,rfl,rfl,rfl,rfl,rfl,rfl,rfl,rfl,rfl,rfl,rfl,rfl,rfl,rfl,rfl,rfl,rfl,rfl,rfl,rfl,rfl,rfl,rfl,trivial⟩ rfl ?_
                  rintro n ⟨j,s2,qv2,av2,all2,c2,go2⟩ ac ww hok3 hs
                  simp only [List.cons_append,List.nil_append] at hs
                  obtain ⟨hj,hI,rfl⟩:=hok3
                  replace hj:j≤m:=hj
                  replace hI:RJ k c.toNat s.steps on oa j ⟨s2,qv2,av2,all2,c2,go2⟩:=hI
                  have hRe2:Rest s2 c2 go2 (recsV (vpW all2)):=hI.rest
                  have hg1:c2.toNat < 300:=hI.g1
                  have hg2:go2.toNat < 300:=hI.g2
                  have hnx2:(nextG c2 go2).toNat≤c.toNat + 1 + 2 * j:=hI.nx
                  have hco2:j≤1→c2.toNat < go2.toNat→1≤on∨64≤oa:=hI.cond
                  have hle2:all2.length≤k + 2:=hI.le
                  have hsm2:∀ q∈all2,q.2.2.length≤2048:=hI.sm
                  have hst2:s2.steps≤s.steps + 200 * j:=hI.st
                  have hgp:¬ nextG c2 go2=0:=hI.pos (by omega)
                  have hvl2:=vpW_len all2
                  obtain ⟨a2d,a2c,rfl,_,_⟩:=RdP.sl (RdP.ptW hs.fr (hs.get (i:=0) rfl))
                  refine wp_seq (wp_reg ?_)
                  refine s_q hs (c_lssI (hs.ev rfl) (hs.ev rfl)) rfl fun ac hs=>?_
                  refine s_end (then_n (wp_seq ?_))
                  refine s_cond hs rfl (fun hc=>?_) (fun hc=>?_)
                  · try simp only [decide_eq_true_eq,decide_eq_false_iff_not,Bool.not_eq_true',Bool.not_eq_false',Bool.and_eq_true,Bool.or_eq_true,Bool.or_eq_false_iff] at hc
                    have hjm:j < m:=by omega
                    obtain ⟨hj1,hnj,-⟩:=wrap3 hon.1 hon.2 hm hjm
                    refine wp_skip (then_n (wp_seq (wp_block (wp_seq (wp_reg ?_)))))
                    refine s_q hs (c_move (hs.ev rfl)) rfl fun ac hs=>?_
                    refine s_q hs (c_assign (hs.ev rfl)) rfl fun ac hs=>?_
                    refine s_end (then_n (wp_seq (wp_reg ?_)))
                    refine s_q hs (c_move (hs.ev rfl)) rfl fun ac hs=>?_
                    refine s_q hs (c_fld fl55_5 (hs.ev rfl)) rfl fun ac hs=>?_
                    obtain ⟨fz,hfz⟩:∃ fz,(i64 (IntKind.i64.wrap (oa + (j:Int))) % 40).toNat=fz:=⟨_,rfl⟩
                    have hf40:fz < 40:=hfz ▸ mod_i64 _ (m:=40) (by decide)
                    refine s_q hs (c_loadS un3 rfl (hs.ev rfl) (hs.seg (i:=1) rfl) (show _=some (I oa) from rfl)) rfl fun ac hs=>?_
                    refine s_q hs (c_move (hs.ev rfl)) rfl fun ac hs=>?_
                    refine s_q hs (c_addIw (hs.ev rfl) (hs.ev rfl)) rfl fun ac hs=>?_
                    refine s_q hs (c_cvIV un3 un33 (hs.ev rfl)) rfl fun ac hs=>?_
                    refine s_q hs (c_remV (hs.ev rfl) (St.ev (v:=V 40) hs rfl) (by decide)) rfl fun ac hs=>?_
                    refine s_q hs (c_to (c_cvVI un33 un3 (hs.ev rfl) (by rw [hfz]; omega)) ((congrArg (fun n:Nat=>I (n:Int)) hfz))) rfl fun ac hs=>?_
                    refine s_callM (i:=2) hs fu13 (.cons (hs.ev rfl) (.cons (hs.ev rfl) .nil)) rfl (sl_Fuse g sb qv2 s2 fz _ (hs.get (i:=2) rfl)) rfl fun ac ww v152 hf hp hs=>?_
                    obtain ⟨rfl,qv3,h1,h2⟩:=hp
                    replace hs:=hs (Ent.grp (sl g sb qv3 (s2.fus fz).2)) h1 (fun k hk=>⟨h2 k hk,grp_lt h1 k hk⟩)
                    have hok2:(s2.fus fz).2.Ok:=Sl.fus_ok hRe2.ok (by omega)
                    obtain ⟨hn3,hst3,hq3,-⟩:=fus_n s2 fz
                    have hq30:(s2.fus fz).2.q.length=0:=by rw [hq3,hRe2.q]; rfl
                    refine s_end ?_
                    replace hs:=hs.sub (F':=[(3,_),(5,_),(7,_),(8,_),(9,_),(10,_),(14,_),(16,_),(42,_),(43,_),(44,_),(45,_),(46,_),(47,_),(48,_),(49,_),(50,_),(51,_),(52,_),(53,_),(54,_),(55,_),(56,_),(57,_),(58,_),(59,_),(60,_),(61,_),(62,_),(63,_),(64,_),(65,_),(87,_),(88,_),(99,_),(100,_),(105,_),(106,_),(107,_),(108,_),(109,_),(110,_),(111,_),(113,_),(114,_),(115,_),(116,_),(117,_),(118,_),(119,_),(120,_),(121,_),(122,_),(123,_),(124,_),(125,_),(126,_),(127,_),(128,_),(129,_),(130,_),(131,_),(132,_),(133,_),(134,_),(135,_),(136,_),(137,_),(138,_),(139,_),(140,_),(141,_),(142,_),(143,_),(144,_),(145,_),(146,_),(147,_),(148,_),(149,_),(150,_),(151,_)]) ⟨rfl,rfl,rfl,rfl,rfl,rfl,rfl,rfl,rfl,rfl,rfl,rfl,rfl,rfl,rfl,rfl,rfl,rfl,rfl,rfl,rfl,rfl,rfl,rfl,rfl,rfl,rfl,rfl,rfl,rfl,rfl,rfl,rfl,rfl,rfl,rfl,rfl,rfl,rfl,rfl,rfl,rfl,rfl,rfl,rfl,rfl,rfl,rfl,rfl,rfl,rfl,rfl,rfl,rfl,rfl,rfl,rfl,rfl,rfl,rfl,rfl,rfl,rfl,rfl,rfl,rfl,rfl,rfl,rfl,rfl,rfl,rfl,rfl,rfl,rfl,rfl,rfl,rfl,rfl,rfl,rfl,rfl,trivial⟩
                    refine then_n (wp_seq (wp_reg ?_))
                    refine s_q hs (c_move (hs.ev rfl)) rfl fun ac hs=>?_
                    refine s_q hs (c_cvIB un3 un5 (hs.ev rfl)) rfl fun ac hs=>?_
                    refine s_bslice hs un38 ty5 (.cons (hs.ev rfl) .nil) rfl (by simp [Value.cells]) (by decide) rfl rfl fun ac ww g155 hs=>?_
                    refine s_q hs (c_fld fl55_1 (hs.ev rfl)) rfl fun ac hs=>?_
                    refine s_q hs (c_loadS un38 rfl (hs.ev rfl) (hs.seg (i:=2) rfl) rfl) rfl fun ac hs=>?_
                    refine s_bslice hs un51 ty38 (.cons (hs.ev rfl) (.cons (hs.ev rfl) .nil)) rfl (by simp [Value.cells]) (by decide) rfl rfl fun ac ww g158 hs=>?_
                    refine s_q hs (c_assign (hs.ev rfl)) rfl fun ac hs=>?_
                    refine s_end ?_
                    replace hs:=other_tx hs hpR
                    obtain ⟨oth,hoth⟩:∃ x:List VW,[(.slice (some ⟨g155,0,none⟩) 1 1,true,[i8 (j:Int)]),(.slice pad p.length pcap,false,p)]=x:=⟨_,rfl⟩
                    rw [hoth] at hs
                    have hol:oth.length=2:=by rw [← hoth]; rfl
                    have hosm:∀ q∈oth,q.2.2.length≤2048:=fun q hq=>by
                      rw [← hoth] at hq
                      simp only [List.mem_cons,List.not_mem_nil,or_false] at hq
                      rcases hq with rfl | rfl
                      · exact of_decide_eq_true rfl
                      · exact hp48
                    have hovl:=vpW_len oth
                    have hcut:=rest_cut hRe2 hg2 hg1 (by omega) fz (by omega) (recs:=recsV (vpW oth)) (sm_recs hosm) (on + (j:Int)) oa (fun h9=>(hco2 hj1 h9).imp (fun h=>by omega) id)
                    have hkp3:=dstart_kept (g:=nextG c2 go2) (recs:=recsV (vpW oth)) hok2
                    rw [recsV_len,hol] at hkp3
                    refine then_n (wp_seq (wp_reg ?_))
                    refine s_q hs (c_move (hs.ev rfl)) rfl fun ac hs=>?_
                    refine s_q hs (c_move (hs.ev rfl)) rfl fun ac hs=>?_
                    refine s_q hs (c_move (hs.ev rfl)) rfl fun ac hs=>?_
                    refine s_callM (i:=3) hs fu26 (.cons (hs.ev rfl) (.cons (hs.ev rfl) (.cons (hs.ev rfl) .nil))) rfl (di_Start g sb (nextG c2 go2) qv3 (s2.fus fz).2 (vpW oth) _ hok2 (by rw [hn3,hRe2.n]; decide) hgp (by omega) (by rw [hst3]; omega) (by omega) (by omega) _ (hs.get (i:=3) rfl) (fun w9 hf9=>RdP.ptW (hs.frM (j:=3) rfl hf9) (hs.getM (i:=0) (j:=3) rfl rfl (by decide) hf9))) rfl fun ac ww v163 hf hp hs=>?_
                    obtain ⟨dg1,hv3,hDl⟩:=hp
                    obtain ⟨D,hD⟩:∃ D,dstart (s2.fus fz).2 (nextG c2 go2) (recsV (vpW oth))=D:=⟨_,rfl⟩
                    have hD':dstart (s2.fus fz).2 (nextG c2 go2) ((vpW oth).map (·.2))=D:=hD
                    rw [hD'] at hv3 hDl
                    rw [hD] at hcut hkp3
                    obtain ⟨b9,e9,s3,n9⟩:=D
                    obtain ⟨qv4,h1,h2⟩:=hDl
                    replace hv3:v163=.tuple #[dptr b9 dg1,I e9]:=hv3
                    obtain rfl:=hv3
                    replace hs:=hs (Ent.grp (sl g sb qv4 s3)) (dl_sl h1) (fun k hk=>⟨h2 k (dl_keys hk),grp_lt (dl_sl h1) k hk⟩)
                    have hok3:s3.Ok:=hkp3.ok
                    have hst4:s3.steps≤(s2.fus fz).2.steps + (41 * 2 + 42):=hkp3.st
                    refine s_q hs (c_move (hs.ev rfl)) rfl fun ac hs=>?_
                    refine s_q hs (c_extract (hs.ev rfl) rfl) rfl fun ac hs=>?_
                    refine s_q hs (c_extract (hs.ev rfl) rfl) rfl fun ac hs=>?_
                    refine s_q hs (c_assign (hs.ev rfl)) rfl fun ac hs=>?_
                    refine s_q hs (c_assign (hs.ev rfl)) rfl fun ac hs=>?_
                    refine s_end ?_
                    replace hs:=hs.sub (F':=[(3,_),(5,_),(7,_),(8,_),(9,_),(10,_),(14,_),(16,_),(17,_),(19,_),(42,_),(43,_),(44,_),(45,_),(46,_),(47,_),(48,_),(49,_),(50,_),(51,_),(52,_),(53,_),(54,_),(55,_),(56,_),(57,_),(58,_),(59,_),(60,_),(61,_),(62,_),(63,_),(64,_),(65,_),(87,_),(88,_),(99,_),(100,_),(105,_),(106,_),(107,_),(108,_),(109,_),(110,_),(111,_),(113,_),(114,_),(115,_),(116,_),(117,_),(118,_),(119,_),(120,_),(121,_),(122,_),(123,_),(124,_),(125,_),(126,_),(127,_),(128,_),(129,_),(130,_),(131,_),(132,_),(133,_),(134,_),(135,_),(136,_),(137,_),(138,_),(139,_),(140,_),(141,_),(142,_),(143,_),(144,_),(145,_),(146,_),(147,_),(148,_),(149,_),(150,_),(151,_),(153,_),(154,_),(155,_),(156,_),(157,_),(158,_),(159,_),(160,_),(161,_),(162,_),(163,_),(164,_),(165,_)]) ⟨rfl,rfl,rfl,rfl,rfl,rfl,rfl,rfl,rfl,rfl,rfl,rfl,rfl,rfl,rfl,rfl,rfl,rfl,rfl,rfl,rfl,rfl,rfl,rfl,rfl,rfl,rfl,rfl,rfl,rfl,rfl,rfl,rfl,rfl,rfl,rfl,rfl,rfl,rfl,rfl,rfl,rfl,rfl,rfl,rfl,rfl,rfl,rfl,rfl,rfl,rfl,rfl,rfl,rfl,rfl,rfl,rfl,rfl,rfl,rfl,rfl,rfl,rfl,rfl,rfl,rfl,rfl,rfl,rfl,rfl,rfl,rfl,rfl,rfl,rfl,rfl,rfl,rfl,rfl,rfl,rfl,rfl,rfl,rfl,rfl,rfl,rfl,rfl,rfl,rfl,rfl,rfl,rfl,rfl,rfl,rfl,rfl,trivial⟩
                    refine then_n (wp_seq (wp_reg ?_))
                    refine s_q hs (c_move (hs.ev rfl)) rfl fun ac hs=>?_
                    refine s_q hs (c_fld fl55_4 (hs.ev rfl)) rfl fun ac hs=>?_
                    refine s_q hs (c_loadS un3 rfl (hs.ev rfl) (hs.seg (i:=2) rfl) (show _=some (I on) from rfl)) rfl fun ac hs=>?_
                    refine s_q hs (c_move (hs.ev rfl)) rfl fun ac hs=>?_
                    refine s_q hs (c_addI (hs.ev rfl) (hs.ev rfl) (by omega) (by omega)) rfl fun ac hs=>?_
                    refine s_q hs (c_fld fl55_5 (hs.ev rfl)) rfl fun ac hs=>?_
                    refine s_q hs (c_loadS un3 rfl (hs.ev rfl) (hs.seg (i:=2) rfl) (show _=some (I oa) from rfl)) rfl fun ac hs=>?_
                    refine s_callM (i:=3) hs fu14 (.cons (hs.ev rfl) (.cons (hs.ev rfl) (.cons (hs.ev rfl) .nil))) rfl (sl_Crash g sb qv4 s3 (on + (j:Int)) oa hok3 _ (hs.get (i:=3) rfl)) rfl fun ac ww v173 hf hp hs=>?_
                    obtain ⟨rfl,qv5,h1,h2⟩:=hp
                    replace hs:=hs (Ent.grp (sl g sb qv5 (s3.crash (on + (j:Int)) oa))) h1 (fun k hk=>⟨h2 k hk,grp_lt h1 k hk⟩)
                    obtain ⟨c4,go4,l4,hR4,hnx4,hg4,hgo4,hl4,hco4⟩:=hcut
                    obtain ⟨s4,hs4⟩:∃ s4,s3.crash (on + (j:Int)) oa=s4:=⟨_,rfl⟩
                    have hst5:s4.steps=s3.steps:=by rw [← hs4]; rfl
                    replace hR4:Rest (s3.crash (on + (j:Int)) oa) c4 go4 l4:=hR4
                    rw [hs4] at hs hR4
                    replace hl4:l4=recsV (vpW oth)∨(l4=recsV (vpW all2)∧¬ e9=0):=hl4
                    refine s_end ?_
                    replace hs:=hs.sub (F':=[(3,_),(5,_),(7,_),(8,_),(9,_),(10,_),(14,_),(16,_),(17,_),(19,_),(42,_),(43,_),(44,_),(45,_),(46,_),(47,_),(48,_),(49,_),(50,_),(51,_),(52,_),(53,_),(54,_),(55,_),(56,_),(57,_),(58,_),(59,_),(60,_),(61,_),(62,_),(63,_),(64,_),(65,_),(87,_),(88,_),(99,_),(100,_),(105,_),(106,_),(107,_),(108,_),(109,_),(110,_),(111,_),(113,_),(114,_),(115,_),(116,_),(117,_),(118,_),(119,_),(120,_),(121,_),(122,_),(123,_),(124,_),(125,_),(126,_),(127,_),(128,_),(129,_),(130,_),(131,_),(132,_),(133,_),(134,_),(135,_),(136,_),(137,_),(138,_),(139,_),(140,_),(141,_),(142,_),(143,_),(144,_),(145,_),(146,_),(147,_),(148,_),(149,_),(150,_),(151,_),(153,_),(154,_),(155,_),(156,_),(157,_),(158,_),(159,_),(160,_),(161,_),(162,_),(163,_),(164,_),(165,_),(166,_),(167,_),(168,_),(169,_),(170,_),(171,_),(172,_)]) ⟨rfl,rfl,rfl,rfl,rfl,rfl,rfl,rfl,rfl,rfl,rfl,rfl,rfl,rfl,rfl,rfl,rfl,rfl,rfl,rfl,rfl,rfl,rfl,rfl,rfl,rfl,rfl,rfl,rfl,rfl,rfl,rfl,rfl,rfl,rfl,rfl,rfl,rfl,rfl,rfl,rfl,rfl,rfl,rfl,rfl,rfl,rfl,rfl,rfl,rfl,rfl,rfl,rfl,rfl,rfl,rfl,rfl,rfl,rfl,rfl,rfl,rfl,rfl,rfl,rfl,rfl,rfl,rfl,rfl,rfl,rfl,rfl,rfl,rfl,rfl,rfl,rfl,rfl,rfl,rfl,rfl,rfl,rfl,rfl,rfl,rfl,rfl,rfl,rfl,rfl,rfl,rfl,rfl,rfl,rfl,rfl,rfl,rfl,rfl,rfl,rfl,rfl,rfl,rfl,trivial⟩
                    refine then_n (wp_seq (wp_reg ?_))
                    refine s_q hs (c_move (hs.ev rfl)) rfl fun ac hs=>?_
                    refine s_call hs fu30 (.cons (hs.ev rfl) .nil) (di_Load g sb qv5 s4 hR4.ok hR4.up.down (by rw [hR4.n]; decide) _ (sl_get (hs.get (i:=3) rfl))) rfl fun ac ww v176 hf hp hs=>?_
                    rw [rest_load hR4] at hp
                    obtain ⟨rv4,ps4,hv3,hps4,hh⟩:=hp
                    replace hs:=hs _ hh
                    replace hs:=hs.toL (L':=Ent.texts 38 (Ent.ptW w 5) (rv4) (ownW ps4)::_) (by rw [txW_own (w1:=w)]; rfl)
                    obtain ⟨all4,hall4⟩:∃ x,ownW ps4=x:=⟨_,rfl⟩
                    rw [hall4] at hs
                    replace hps4:recsV (vpW all4)=l4:=by rw [← hall4,vpW_own]; exact hps4
                    replace hv3:v176=.tuple #[rv4,U (nextG c4 go4),I 0]:=hv3
                    obtain rfl:=hv3
                    have hco5:j + 1≤1→c4.toNat < go4.toNat→1≤on∨64≤oa:=fun h8 h9=>(hco4 h9).imp (fun h=>by omega) id
                    refine s_q hs (c_move (hs.ev rfl)) rfl fun ac hs=>?_
                    refine s_q hs (c_extract (hs.ev rfl) rfl) rfl fun ac hs=>?_
                    refine s_q hs (c_extract (hs.ev rfl) rfl) rfl fun ac hs=>?_
                    refine s_q hs (c_extract (hs.ev rfl) rfl) rfl fun ac hs=>?_
                    refine s_q hs (c_assign (hs.ev rfl)) rfl fun ac hs=>?_
                    refine s_q hs (c_assign (hs.ev rfl)) rfl fun ac hs=>?_
                    refine s_q hs (c_assign (hs.ev rfl)) rfl fun ac hs=>?_
                    refine s_end (then_n (wp_seq (wp_reg ?_)))
                    refine s_q hs (c_move (hs.ev rfl)) rfl fun ac hs=>?_
                    by_cases hio:recsV (vpW all4)=recsV (vpW oth)
                    · refine s_q hs (c_move (hs.ev rfl)) rfl fun ac hs=>?_
                      refine s_call hs fu35 (.cons (hs.ev rfl) (.cons (hs.ev rfl) .nil)) (ref15_Same (vpW all4) (vpW oth) _ _ _ (RdP.ptW hs.fr (hs.get (i:=0) rfl)) (RdP.ptW hs.fr (hs.get (i:=1) rfl))) rfl fun ac ww v182 hf hp hs=>?_
                      rw [decide_eq_true hio] at hp
                      obtain rfl:=hp
                      replace hs:=hs [] (.nil _ _)
                      refine s_q hs (c_assign (hs.ev rfl)) rfl fun ac hs=>?_
                      refine s_end (then_n (wp_seq (wp_seq (wp_reg ?_))))
                      refine s_q hs (c_move (hs.ev rfl)) rfl fun ac hs=>?_
                      refine s_q hs (c_neqI (hs.ev rfl) (hs.ev rfl)) rfl fun ac hs=>?_
                      refine s_q hs (c_move (hs.ev rfl)) rfl fun ac hs=>?_
                      refine s_yes hs rfl rfl ?_
                      refine s_q hs (c_move (hs.ev rfl)) rfl fun ac hs=>?_
                      refine s_yes hs rfl rfl ?_
                      refine s_q hs (c_not (hs.ev rfl)) rfl fun ac hs=>?_
                      refine s_yes hs rfl rfl ?_
                      refine s_q hs (c_move (hs.ev rfl)) rfl fun ac hs=>?_
                      refine s_no hs rfl rfl rfl rfl fun ac hs=>?_
                      refine s_no hs rfl rfl rfl rfl fun ac hs=>?_
                      refine s_no hs rfl rfl rfl rfl fun ac hs=>?_
                      refine s_no hs rfl rfl rfl rfl fun ac hs=>?_
                      refine s_yes hs rfl rfl ?_
                      refine s_q hs (c_pick (hs.ev rfl) (hs.ev rfl) (hs.ev rfl)) rfl fun ac hs=>?_
                      refine s_q hs (c_pick (hs.ev rfl) (hs.ev rfl) (hs.ev rfl)) rfl fun ac hs=>?_
                      refine s_q hs (c_move (hs.ev rfl)) rfl fun ac hs=>?_
                      by_cases he0:e9=0
                      · refine s_yes hs rfl rfl ?_
                        refine s_q hs (c_move (hs.ev rfl)) rfl fun ac hs=>?_
                        refine s_yes hs rfl rfl ?_
                        refine s_q hs (c_tt (c_eqlI (hs.ev rfl) (hs.ev rfl)) ((decide_eq_true he0))) rfl fun ac hs=>?_
                        refine s_yes hs rfl rfl ?_
                        refine s_q hs (c_move (hs.ev rfl)) rfl fun ac hs=>?_
                        refine s_yes hs rfl rfl ?_
                        refine s_q hs (c_move (hs.ev rfl)) rfl fun ac hs=>?_
                        refine s_yes hs rfl rfl ?_
                        refine s_q hs (c_not (hs.ev rfl)) rfl fun ac hs=>?_
                        refine s_g hs rfl rfl (fun hg=>c_pick (hs.ev rfl) (hs.ev rfl) (hs.ev rfl)) rfl fun ac hs=>?_
                        refine s_q hs (c_or (hs.ev rfl) (hs.ev rfl)) rfl fun ac hs=>?_
                        refine s_end (then_n ?_)
                        refine wp_cond_false (hs.ev rfl) ?_
                        refine wp_skip (then_n (wp_seq (wp_reg ?_)))
                        refine s_q hs (c_move (hs.ev rfl)) rfl fun ac hs=>?_
                        refine s_end (then_n ?_)
                        refine wp_cond_true (hs.ev rfl) ?_
                        refine wp_reg ?_
                        refine s_q hs (c_move (hs.ev rfl)) rfl fun ac hs=>?_
                        refine s_q hs (c_assign (hs.ev rfl)) rfl fun ac hs=>?_
                        refine s_end ?_
                        replace hs:=hs.pick (L':=[_,_,_]) (.cons _ (.cons_cons _ (.cons _ (.refl _))))
                        have hI2:RJ k c.toNat s.steps on oa (j + 1) ⟨s4,qv5,.slice (some ⟨g158,0,none⟩) 2 2,oth,c4,go4⟩:=⟨by rw [← hio,hps4]; exact hR4,hg4,hgo4,by show (nextG c4 go4).toNat≤_; omega,hco5,by show oth.length≤_; omega,hosm,by show s4.steps≤_; rw [hst3] at hst4; omega⟩
                        refine blk_n (then_n (wp_reg ?_))
                        refine s_q hs (c_addI (hs.ev rfl) (hs.ev rfl) (by omega) (by omega)) rfl fun ac hs=>?_
                        refine s_q hs (c_move (hs.ev rfl)) rfl fun ac hs=>?_
                        refine s_end (then_n ?_)
                        exact ⟨m - (j + 1),by omega,(j + 1,_),⟨by show j + 1≤_; omega,hI2,rfl⟩,St.next hs ⟨rfl,rfl,rfl,rfl,rfl,rfl,rfl,rfl,rfl,rfl,rfl,rfl,rfl,rfl,rfl,rfl,rfl,rfl,rfl,rfl,rfl,rfl,rfl,rfl,rfl,rfl,rfl,rfl,rfl,rfl,rfl,rfl,rfl,rfl,rfl,rfl,rfl,rfl,rfl,rfl,rfl,rfl,rfl,rfl,rfl,rfl,rfl,rfl,rfl,rfl,rfl,rfl,rfl,rfl,rfl,rfl,rfl,rfl,rfl,rfl,rfl,rfl,rfl,rfl,rfl,rfl,rfl,rfl,rfl,rfl,rfl,trivial⟩ rfl⟩
                      · refine s_yes hs rfl rfl ?_
                        refine s_q hs (c_move (hs.ev rfl)) rfl fun ac hs=>?_
                        refine s_yes hs rfl rfl ?_
                        refine s_q hs (c_ff (c_eqlI (hs.ev rfl) (hs.ev rfl)) ((decide_eq_false he0))) rfl fun ac hs=>?_
                        refine s_yes hs rfl rfl ?_
                        refine s_q hs (c_move (hs.ev rfl)) rfl fun ac hs=>?_
                        refine s_no hs rfl rfl rfl rfl fun ac hs=>?_
                        refine s_no hs rfl rfl rfl rfl fun ac hs=>?_
                        refine s_g hs rfl rfl (fun hg=>c_pick (hs.ev rfl) (hs.ev rfl) (hs.ev rfl)) rfl fun ac hs=>?_
                        refine s_q hs (c_or (hs.ev rfl) (hs.ev rfl)) rfl fun ac hs=>?_
                        refine s_end (then_n ?_)
                        refine wp_cond_false (hs.ev rfl) ?_
                        refine wp_skip (then_n (wp_seq (wp_reg ?_)))
                        refine s_q hs (c_move (hs.ev rfl)) rfl fun ac hs=>?_
                        refine s_end (then_n ?_)
                        refine wp_cond_true (hs.ev rfl) ?_
                        refine wp_reg ?_
                        refine s_q hs (c_move (hs.ev rfl)) rfl fun ac hs=>?_
                        refine s_q hs (c_assign (hs.ev rfl)) rfl fun ac hs=>?_
                        refine s_end ?_
                        replace hs:=hs.pick (L':=[_,_,_]) (.cons _ (.cons_cons _ (.cons _ (.refl _))))
                        have hI2:RJ k c.toNat s.steps on oa (j + 1) ⟨s4,qv5,.slice (some ⟨g158,0,none⟩) 2 2,oth,c4,go4⟩:=⟨by rw [← hio,hps4]; exact hR4,hg4,hgo4,by show (nextG c4 go4).toNat≤_; omega,hco5,by show oth.length≤_; omega,hosm,by show s4.steps≤_; rw [hst3] at hst4; omega⟩
                        refine blk_n (then_n (wp_reg ?_))
                        refine s_q hs (c_addI (hs.ev rfl) (hs.ev rfl) (by omega) (by omega)) rfl fun ac hs=>?_
                        refine s_q hs (c_move (hs.ev rfl)) rfl fun ac hs=>?_
                        refine s_end (then_n ?_)
                        exact ⟨m - (j + 1),by omega,(j + 1,_),⟨by show j + 1≤_; omega,hI2,rfl⟩,St.next hs ⟨rfl,rfl,rfl,rfl,rfl,rfl,rfl,rfl,rfl,rfl,rfl,rfl,rfl,rfl,rfl,rfl,rfl,rfl,rfl,rfl,rfl,rfl,rfl,rfl,rfl,rfl,rfl,rfl,rfl,rfl,rfl,rfl,rfl,rfl,rfl,rfl,rfl,rfl,rfl,rfl,rfl,rfl,rfl,rfl,rfl,rfl,rfl,rfl,rfl,rfl,rfl,rfl,rfl,rfl,rfl,rfl,rfl,rfl,rfl,rfl,rfl,rfl,rfl,rfl,rfl,rfl,rfl,rfl,rfl,rfl,rfl,trivial⟩ rfl⟩
                    · refine s_q hs (c_move (hs.ev rfl)) rfl fun ac hs=>?_
                      refine s_call hs fu35 (.cons (hs.ev rfl) (.cons (hs.ev rfl) .nil)) (ref15_Same (vpW all4) (vpW oth) _ _ _ (RdP.ptW hs.fr (hs.get (i:=0) rfl)) (RdP.ptW hs.fr (hs.get (i:=1) rfl))) rfl fun ac ww v182 hf hp hs=>?_
                      rw [decide_eq_false hio] at hp
                      obtain rfl:=hp
                      replace hs:=hs [] (.nil _ _)
                      refine s_q hs (c_assign (hs.ev rfl)) rfl fun ac hs=>?_
                      refine s_end (then_n (wp_seq (wp_seq (wp_reg ?_))))
                      refine s_q hs (c_move (hs.ev rfl)) rfl fun ac hs=>?_
                      refine s_q hs (c_neqI (hs.ev rfl) (hs.ev rfl)) rfl fun ac hs=>?_
                      refine s_q hs (c_move (hs.ev rfl)) rfl fun ac hs=>?_
                      refine s_yes hs rfl rfl ?_
                      refine s_q hs (c_move (hs.ev rfl)) rfl fun ac hs=>?_
                      refine s_yes hs rfl rfl ?_
                      refine s_q hs (c_not (hs.ev rfl)) rfl fun ac hs=>?_
                      refine s_yes hs rfl rfl ?_
                      refine s_q hs (c_move (hs.ev rfl)) rfl fun ac hs=>?_
                      refine s_yes hs rfl rfl ?_
                      refine s_q hs (c_move (hs.ev rfl)) rfl fun ac hs=>?_
                      refine s_yes hs rfl rfl ?_
                      refine s_q hs (c_move (hs.ev rfl)) rfl fun ac hs=>?_
                      obtain ⟨hall,hne⟩:=hl4.resolve_left (fun h9=>hio (hps4.trans h9))
                      have hia:recsV (vpW all4)=recsV (vpW all2):=hps4.trans hall
                      refine s_yes hs rfl rfl ?_
                      refine s_call hs fu35 (.cons (hs.ev rfl) (.cons (hs.ev rfl) .nil)) (ref15_Same (vpW all4) (vpW all2) _ _ _ (RdP.ptW hs.fr (hs.get (i:=0) rfl)) (RdP.ptW hs.fr (hs.get (i:=2) rfl))) rfl fun ac ww v191 hf hp hs=>?_
                      rw [decide_eq_true hia] at hp
                      obtain rfl:=hp
                      replace hs:=hs [] (.nil _ _)
                      refine s_yes hs rfl rfl ?_
                      refine s_q hs (c_not (hs.ev rfl)) rfl fun ac hs=>?_
                      refine s_yes hs rfl rfl ?_
                      refine s_q hs (c_pick (hs.ev rfl) (hs.ev rfl) (hs.ev rfl)) rfl fun ac hs=>?_
                      refine s_q hs (c_pick (hs.ev rfl) (hs.ev rfl) (hs.ev rfl)) rfl fun ac hs=>?_
                      refine s_q hs (c_move (hs.ev rfl)) rfl fun ac hs=>?_
                      refine s_yes hs rfl rfl ?_
                      refine s_q hs (c_move (hs.ev rfl)) rfl fun ac hs=>?_
                      refine s_yes hs rfl rfl ?_
                      refine s_q hs (c_ff (c_eqlI (hs.ev rfl) (hs.ev rfl)) ((decide_eq_false hne))) rfl fun ac hs=>?_
                      refine s_yes hs rfl rfl ?_
                      refine s_q hs (c_move (hs.ev rfl)) rfl fun ac hs=>?_
                      refine s_no hs rfl rfl rfl rfl fun ac hs=>?_
                      refine s_no hs rfl rfl rfl rfl fun ac hs=>?_
                      refine s_g hs rfl rfl (fun hg=>c_pick (hs.ev rfl) (hs.ev rfl) (hs.ev rfl)) rfl fun ac hs=>?_
                      refine s_q hs (c_or (hs.ev rfl) (hs.ev rfl)) rfl fun ac hs=>?_
                      refine s_end (then_n ?_)
                      refine wp_cond_false (hs.ev rfl) ?_
                      refine wp_skip (then_n (wp_seq (wp_reg ?_)))
                      refine s_q hs (c_move (hs.ev rfl)) rfl fun ac hs=>?_
                      refine s_end (then_n ?_)
                      replace hs:=hs.pick (L':=[_,_,_]) (.cons _ (.cons _ (.refl _)))
                      have hI2:RJ k c.toNat s.steps on oa (j + 1) ⟨s4,qv5,.slice a2d (vpW all2).length a2c,all2,c4,go4⟩:=⟨by rw [← hall]; exact hR4,hg4,hgo4,by show (nextG c4 go4).toNat≤_; omega,hco5,hle2,hsm2,by show s4.steps≤_; rw [hst3] at hst4; omega⟩
                      refine wp_cond_false (hs.ev rfl) ?_
                      refine wp_skip (blk_n (then_n (wp_reg ?_)))
                      refine s_q hs (c_addI (hs.ev rfl) (hs.ev rfl) (by omega) (by omega)) rfl fun ac hs=>?_
                      refine s_q hs (c_move (hs.ev rfl)) rfl fun ac hs=>?_
                      refine s_end (then_n ?_)
                      exact ⟨m - (j + 1),by omega,(j + 1,_),⟨by show j + 1≤_; omega,hI2,rfl⟩,St.next hs ⟨rfl,rfl,rfl,rfl,rfl,rfl,rfl,rfl,rfl,rfl,rfl,rfl,rfl,rfl,rfl,rfl,rfl,rfl,rfl,rfl,rfl,rfl,rfl,rfl,rfl,rfl,rfl,rfl,rfl,rfl,rfl,rfl,rfl,rfl,rfl,rfl,rfl,rfl,rfl,rfl,rfl,rfl,rfl,rfl,rfl,rfl,rfl,rfl,rfl,rfl,rfl,rfl,rfl,rfl,rfl,rfl,rfl,rfl,rfl,rfl,rfl,rfl,rfl,rfl,rfl,rfl,rfl,rfl,rfl,rfl,rfl,trivial⟩ rfl⟩
                  · try simp only [decide_eq_true_eq,decide_eq_false_iff_not,Bool.not_eq_true',Bool.not_eq_false',Bool.and_eq_true,Bool.or_eq_true,Bool.or_eq_false_iff] at hc
                    obtain rfl:j=m:=by omega
                    refine wp_exit (then_e (then_e (blk_hit (then_n (wp_seq (wp_reg ?_))))))
                    refine s_q hs (c_move (hs.ev rfl)) rfl fun ac hs=>?_
                    refine s_q hs (c_move (hs.ev rfl)) rfl fun ac hs=>?_
                    refine s_q hs (c_move (hs.ev rfl)) rfl fun ac hs=>?_
                    have hkp3:=dstart_kept (g:=nextG c2 go2) (recs:=recsV (vpW all2)) hRe2.ok
                    rw [recsV_len] at hkp3
                    have hSt:=rest_start hRe2 hg2 hg1 (by omega) (sm_recs hsm2)
                    have hq20:s2.q.length=0:=by rw [hRe2.q]; rfl
                    refine s_callM (i:=2) hs fu26 (.cons (hs.ev rfl) (.cons (hs.ev rfl) (.cons (hs.ev rfl) .nil))) rfl (di_Start g sb (nextG c2 go2) qv2 s2 (vpW all2) _ hRe2.ok (by rw [hRe2.n]; decide) hgp (by omega) (by omega) (by omega) (by omega) _ (hs.get (i:=2) rfl) (fun w9 hf9=>RdP.ptW (hs.frM (j:=2) rfl hf9) (hs.getM (i:=0) (j:=2) rfl rfl (by decide) hf9))) rfl fun ac ww v210 hf hp hs=>?_
                    obtain ⟨dg1,hv3,hDl⟩:=hp
                    obtain ⟨D,hD⟩:∃ D,dstart s2 (nextG c2 go2) (recsV (vpW all2))=D:=⟨_,rfl⟩
                    have hD':dstart s2 (nextG c2 go2) ((vpW all2).map (·.2))=D:=hD
                    rw [hD'] at hv3 hDl
                    rw [hD] at hkp3 hSt
                    obtain ⟨b9,e9,s3,n9⟩:=D
                    obtain ⟨qv4,h1,h2⟩:=hDl
                    replace hv3:v210=.tuple #[dptr b9 dg1,I e9]:=hv3
                    obtain rfl:=hv3
                    replace hs:=hs (Ent.grp (dl dg1 g sb qv4 (nextG c2 go2) n9 s3)) h1 (fun k hk=>⟨h2 k hk,grp_lt h1 k hk⟩)
                    have hst4:s3.steps≤s2.steps + (41 * all2.length + 42):=hkp3.st
                    rcases hSt with ⟨hb9,he9,its,M2,x2,hits,hn9,hR2⟩ | he9
                    · refine s_q hs (c_move (hs.ev rfl)) rfl fun ac hs=>?_
                      refine s_q hs (c_extract (hs.ev rfl) (show _=some (Value.pointer (some ⟨dg1,0,none⟩)) from congrArg (fun b=>some (dptr b dg1)) hb9)) rfl fun ac hs=>?_
                      refine s_q hs (c_extract (hs.ev rfl) (show _=some (I 0) from congrArg (fun n:Int=>some (I n)) he9)) rfl fun ac hs=>?_
                      refine s_q hs (c_assign (hs.ev rfl)) rfl fun ac hs=>?_
                      refine s_q hs (c_assign (hs.ev rfl)) rfl fun ac hs=>?_
                      refine s_end (then_n (wp_seq (wp_seq (wp_reg ?_))))
                      refine s_q hs (c_move (hs.ev rfl)) rfl fun ac hs=>?_
                      refine s_q hs (c_neqI (hs.ev rfl) (hs.ev rfl)) rfl fun ac hs=>?_
                      refine s_q hs (c_move (hs.ev rfl)) rfl fun ac hs=>?_
                      refine s_yes hs rfl rfl ?_
                      refine s_q hs (c_move (hs.ev rfl)) rfl fun ac hs=>?_
                      refine s_yes hs rfl rfl ?_
                      refine s_q hs (c_eqlNil un56 (hs.ev rfl) (hs.ev rfl)) rfl fun ac hs=>?_
                      refine s_q hs (c_pick (hs.ev rfl) (hs.ev rfl) (hs.ev rfl)) rfl fun ac hs=>?_
                      refine s_end (then_n ?_)
                      refine wp_cond_false (hs.ev rfl) ?_
                      refine wp_skip (then_n (wp_reg ?_))
                      refine s_q hs (c_move (hs.ev rfl)) rfl fun ac hs=>?_
                      refine s_q hs (c_move (hs.ev rfl)) rfl fun ac hs=>?_
                      refine s_q hs (c_lenS un51 (hs.ev rfl)) rfl fun ac hs=>?_
                      refine s_q hs (c_assign (hs.ev rfl)) rfl fun ac hs=>?_
                      refine s_q hs (c_assign (hs.ev rfl)) rfl fun ac hs=>?_
                      refine s_end ?_
                      replace hs:=hs.pick (L':=[_,_]) (.cons_cons _ (.cons _ (.refl _)))
                      replace hn9:n9=itsN (its++[]):=hn9
                      subst hn9
                      have hrc:recsOf its=recsV (vpW all2):=by rw [hits,recsOf_app,recsOf_map]; exact List.append_nil _
                      have hJ2:DJ (k + 1) ⟨s3,qv4,.slice a2d (vpW all2).length a2c,all2,(vpW all2).length,dg1,nextG c2 go2,its,[]⟩:=⟨⟨_,_,hR2⟩,by rw [List.append_nil]; exact hrc,(show recsOf its=(recsV (vpW all2)).take (vpW all2).length by rw [List.take_of_length_le (by rw [recsV_len,vpW_len]; exact Nat.le_refl _)]; exact hrc),Nat.le_refl _,by show (nextG c2 go2).toNat≤_; omega,by show all2.length≤_; omega,by show s3.steps≤_; omega,hsm2⟩
                      refine blk_n (blk_n (then_n (wp_reg ?_)))
                      refine s_q hs (c_addI (hs.ev rfl) (hs.ev rfl) (by omega) (by omega)) rfl fun ac hs=>?_
                      refine s_q hs (c_move (hs.ev rfl)) rfl fun ac hs=>?_
                      refine s_end (then_n ?_)
                      exact ⟨ops.length - (k + 1),by omega,(k + 1,_),⟨by show k + 1≤_; omega,hJ2,rfl⟩,St.next hs ⟨rfl,rfl,rfl,rfl,rfl,rfl,rfl,trivial⟩ rfl⟩
                    · refine s_q hs (c_move (hs.ev rfl)) rfl fun ac hs=>?_
                      refine s_q hs (c_extract (hs.ev rfl) rfl) rfl fun ac hs=>?_
                      refine s_q hs (c_extract (hs.ev rfl) (show _=some (I 4) from congrArg (fun n:Int=>some (I n)) he9)) rfl fun ac hs=>?_
                      refine s_q hs (c_assign (hs.ev rfl)) rfl fun ac hs=>?_
                      refine s_q hs (c_assign (hs.ev rfl)) rfl fun ac hs=>?_
                      refine s_end (then_n (wp_seq (wp_seq (wp_reg ?_))))
                      refine s_q hs (c_move (hs.ev rfl)) rfl fun ac hs=>?_
                      refine s_q hs (c_neqI (hs.ev rfl) (hs.ev rfl)) rfl fun ac hs=>?_
                      refine s_q hs (c_move (hs.ev rfl)) rfl fun ac hs=>?_
                      refine s_no hs rfl rfl rfl rfl fun ac hs=>?_
                      refine s_no hs rfl rfl rfl rfl fun ac hs=>?_
                      refine s_q hs (c_pick (hs.ev rfl) (hs.ev rfl) (hs.ev rfl)) rfl fun ac hs=>?_
                      refine s_end (then_n ?_)
                      refine wp_cond_true (hs.ev rfl) ?_
                      refine wp_seq (wp_reg ?_)
                      refine s_q hs (c_move (hs.ev rfl)) rfl fun ac hs=>?_
                      refine s_q hs (c_eqlI (hs.ev rfl) (hs.ev rfl)) rfl fun ac hs=>?_
                      refine s_q hs (c_assign (hs.ev rfl)) rfl fun ac hs=>?_
                      refine s_end (then_n (wp_ret (then_r (blk_r (blk_r (then_r (then_r (blk_r (then_r ?_)))))))))
                      refine s_ret hs rfl (.tmp (hs.tmp rfl) .nil) rfl ⟨_,rfl,hs.fr,?_⟩
                      rfl
                · try simp only [decide_eq_true_eq,decide_eq_false_iff_not,Bool.not_eq_true',Bool.not_eq_false',Bool.and_eq_true,Bool.or_eq_true,Bool.or_eq_false_iff] at hc
                  have hJ2:DJ (k + 1) ⟨s,qv,(.slice aad (vpW all).length acap),all,sure,dg,c,i0,i1⟩:=hJ.no
                  replace hs:=hs.pick (L':=[_,_]) (.cons _ (.refl _))
                  refine wp_skip (blk_n (blk_n (then_n (wp_reg ?_))))
                  refine s_q hs (c_addI (hs.ev rfl) (hs.ev rfl) (by omega) (by omega)) rfl fun ac hs=>?_
                  refine s_q hs (c_move (hs.ev rfl)) rfl fun ac hs=>?_
                  refine s_end (then_n ?_)
                  exact ⟨ops.length - (k + 1),by omega,(k + 1,_),⟨by show k + 1≤_; omega,hJ2,rfl⟩,St.next hs ⟨rfl,rfl,rfl,rfl,rfl,rfl,rfl,trivial⟩ rfl⟩
      · refine s_yes hs rfl rfl ?_
        refine s_q hs (c_not (hs.ev rfl)) rfl fun ac hs=>?_
        refine s_q hs (c_pick (hs.ev rfl) (hs.ev rfl) (hs.ev rfl)) rfl fun ac hs=>?_
        refine s_q hs (c_move (hs.ev rfl)) rfl fun ac hs=>?_
        refine s_no hs rfl rfl rfl rfl fun ac hs=>?_
        refine s_no hs rfl rfl rfl rfl fun ac hs=>?_
        refine s_no hs rfl rfl rfl rfl fun ac hs=>?_
        refine s_no hs rfl rfl rfl rfl fun ac hs=>?_
        refine s_q hs (c_pick (hs.ev rfl) (hs.ev rfl) (hs.ev rfl)) rfl fun ac hs=>?_
        refine s_end (then_n ?_)
        refine wp_cond_true (hs.ev rfl) ?_
        refine wp_exit (then_e (blk_miss rfl (then_e (then_e (blk_hit (then_n (wp_seq (wp_reg ?_))))))))
        refine s_q hs (c_assign (hs.ev rfl)) rfl fun ac hs=>?_
        refine s_end ?_
        replace hs:=hs.sub (F':=[(2,_)]) ⟨rfl,trivial⟩
        refine then_n (wp_ret ?_)
        refine s_ret hs rfl (.tmp (hs.tmp rfl) .nil) rfl ⟨_,rfl,hs.fr,?_⟩
        rfl
  · try simp only [decide_eq_true_eq,decide_eq_false_iff_not,Bool.not_eq_true',Bool.not_eq_false',Bool.and_eq_true,Bool.or_eq_true,Bool.or_eq_false_iff] at hc
    skip
    refine wp_exit (then_e (then_e (blk_hit (then_n (wp_seq (wp_reg ?_))))))
    refine s_q hs (c_assign (hs.ev rfl)) rfl fun ac hs=>?_
    refine s_end ?_
    replace hs:=hs.sub (F':=[(2,_)]) ⟨rfl,trivial⟩
    refine then_n (wp_ret ?_)
    refine s_ret hs rfl (.tmp (hs.tmp rfl) .nil) rfl ⟨_,rfl,hs.fr,?_⟩
    rfl
end Go.Proofs.Ytkecdcmjkghddaa
end

section
/- Openings of slices of texts among other things; of structs of seven fields. -/
namespace Go.Fw
open Go Go.ChangeShapes Go.WideShapes Go.ChangeAt Go.RowKit
section
variable {H:Type} {enc:TypeId × Value→H} {P:Program} {w:World} {base:Nat} {spare:Nat→Bool} {held:Bool} {fuel:Nat} {t e u:TypeId} {cs:List Value} {x:DataW H × List MemPlace} {v:Value}
theorem one_at {α:Type} {l:List α} {k:Nat} (h:k < l.length):∃ v,(l.drop k).take 1=[v]:=by
  rw [List.drop_eq_getElem_cons h]
  exact ⟨_,rfl⟩
theorem trodP (ht:P.underlying t=some (.slice e)) (he:P.underlying e=some (.slice u)) (hu:P.underlying u=some (.int .u8)) (hce:P.cellsOf e=1) (hcu:P.cellsOf u=1)
    (h:DataW.trod enc P w base spare held fuel t cs=some x):∃ (v:Value) (qs:List (Value × List UInt8)),cs=[v]∧RdP w v qs:=by
  have:Inhabited (Value × List UInt8):=⟨(.nilIface,[])⟩
  obtain ⟨v,l,h1,h2,h3⟩:=trodG (α:=Value × List UInt8) (f:=fun q=>[q.1]) (p:=fun q=>RdB w q.1 q.2) (m:=1) ht hce (by decide) (fun fu cs x h=>by
    rcases Deep.open_slice he h with ⟨h1,_⟩ | ⟨a,len,cap,m,n,D,Pl,h1,_⟩
    · subst h1
      obtain ⟨l,hl,_⟩:=trodSl he hu hcu h
      exact ⟨(_,l),rfl,rfl,hl⟩
    · subst h1
      obtain ⟨l,hl,_⟩:=trodSl he hu hcu h
      exact ⟨(_,l),rfl,rfl,hl⟩) h
  refine ⟨v,l,h1,⟨?_,fun q hq=>(h2 q hq).2⟩⟩
  have e:l.flatMap (fun q:Value × List UInt8=>[q.1])=l.map (fun q=>q.1):=by
    clear h2 h3
    induction l with
    | nil=>rfl
    | cons a l ih=>simp [List.flatMap_cons,ih]
  rw [e] at h3
  exact h3
theorem trod7 {m:Nat} {f0 f1 f2 f3 f4 f5 f6:Field} {u8 bs:TypeId} (ht:P.underlying t=some (.struct #[f0,f1,f2,f3,f4,f5,f6])) (h0:P.underlying f0.type=some (.int .i64)) (h1:P.underlying f1.type=some (.slice u8)) (h2:P.underlying f2.type=some (.int .u32)) (h3:P.underlying f3.type=some (.slice bs)) (h4:P.underlying f4.type=some (.int .i64)) (h5:P.underlying f5.type=some (.int .i64)) (h6:P.underlying f6.type=some (.array m u8)) (hbs:P.underlying bs=some (.slice u8)) (hu:P.underlying u8=some (.int .u8))
    (o0:f0.offset=0) (o1:f1.offset=1) (o2:f2.offset=2) (o3:f3.offset=3) (o4:f4.offset=4) (o5:f5.offset=5) (o6:f6.offset=6) (c0:P.cellsOf f0.type=1) (c1:P.cellsOf f1.type=1) (c2:P.cellsOf f2.type=1) (c3:P.cellsOf f3.type=1) (c4:P.cellsOf f4.type=1) (c5:P.cellsOf f5.type=1) (c6:P.cellsOf f6.type=m) (cbs:P.cellsOf bs=1) (cu:P.cellsOf u8=1) (ct:P.cellsOf t=6 + m)
    (h:DataW.trod enc P w base spare held fuel t cs=some x) :
    ∃ (k:Int) (pv:Value) (p:List UInt8) (gen:UInt32) (rv:Value) (qs:List (Value × List UInt8)) (n a:Int) (b:List UInt8),cs=I k::pv::U gen::rv::I n::I a::b.map B∧b.length=m∧RdB w pv p∧RdP w rv qs∧(-9223372036854775808≤n∧n≤9223372036854775807)∧(-9223372036854775808≤a∧a≤9223372036854775807):=by
  obtain ⟨xs,n,_,rfl,hl,hlen,hf⟩:=DataW.trod_struct ht h
  match xs,hlen with
  | [y0,y1,y2,y3,y4,y5,y6],_ =>
    have hy0:DataW.trod enc P w base spare held n f0.type ((cs.drop f0.offset).take (P.cellsOf f0.type))=some y0:=by simpa using hf 0 f0 rfl
    have hy1:DataW.trod enc P w base spare held n f1.type ((cs.drop f1.offset).take (P.cellsOf f1.type))=some y1:=by simpa using hf 1 f1 rfl
    have hy2:DataW.trod enc P w base spare held n f2.type ((cs.drop f2.offset).take (P.cellsOf f2.type))=some y2:=by simpa using hf 2 f2 rfl
    have hy3:DataW.trod enc P w base spare held n f3.type ((cs.drop f3.offset).take (P.cellsOf f3.type))=some y3:=by simpa using hf 3 f3 rfl
    have hy4:DataW.trod enc P w base spare held n f4.type ((cs.drop f4.offset).take (P.cellsOf f4.type))=some y4:=by simpa using hf 4 f4 rfl
    have hy5:DataW.trod enc P w base spare held n f5.type ((cs.drop f5.offset).take (P.cellsOf f5.type))=some y5:=by simpa using hf 5 f5 rfl
    have hy6:DataW.trod enc P w base spare held n f6.type ((cs.drop f6.offset).take (P.cellsOf f6.type))=some y6:=by simpa using hf 6 f6 rfl
    obtain ⟨z0,e0,_⟩:=trodI h0 c0 o0 hy0
    obtain ⟨z2,e2⟩:=trodU h2 c2 o2 hy2
    obtain ⟨z4,e4,b4⟩:=trodI h4 c4 o4 hy4
    obtain ⟨z5,e5,b5⟩:=trodI h5 c5 o5 hy5
    obtain ⟨v1,e1⟩:=one_at (l:=cs) (k:=1) (by omega)
    rw [o1,c1,e1] at hy1
    obtain ⟨p,hp,_⟩:=trodSl h1 hu cu hy1
    rw [o3,c3] at hy3
    obtain ⟨v3,qs,e3,hq⟩:=trodP h3 hbs hu cbs cu hy3
    rw [o6,c6] at hy6
    obtain ⟨b,hb,e6⟩:=trodBs h6 hu cu c6 hy6
    refine ⟨z0,v1,p,z2,v3,qs,z4,z5,b,?_,hb,hp,hq,b4,b5⟩
    have hd:cs.drop (6 + m)=[]:=List.drop_of_length_le (by omega)
    have:=cut_at cs 0 1
    rw [e0,cut_at cs (0 + 1) 1,e1,cut_at cs (0 + 1 + 1) 1,e2,cut_at cs (0 + 1 + 1 + 1) 1,e3,cut_at cs (0 + 1 + 1 + 1 + 1) 1,e4,cut_at cs (0 + 1 + 1 + 1 + 1 + 1) 1,e5,cut_at cs (0 + 1 + 1 + 1 + 1 + 1 + 1) m,e6,hd] at this
    simpa using this
end
end Go.Fw
end
