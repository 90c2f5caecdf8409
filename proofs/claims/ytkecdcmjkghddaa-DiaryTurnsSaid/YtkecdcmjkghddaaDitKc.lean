/- Own texts of this seat,laid together for one claim (with what its proof uses alone). -/
import Derived.Test.YtkecdcmjkghddaaDitKb
set_option linter.unusedSimpArgs false
set_option linter.unusedVariables false
set_option maxRecDepth 100000
set_option maxHeartbeats 4000000
section
/- The diary: what a sector is,what a half tells. -/
namespace Go.Proofs.Ytkecdcmjkghddaa
open Go Go.Fw
def badS (x:List UInt8) (place:Int):Prop:=¬ x.getD 58 0=(sumL (x.take 58) >>> UInt16.ofNat 8).toUInt8∨¬ x.getD 59 0=(sumL (x.take 58)).toUInt8∨¬ x.getD 4 0=i8 (place / 2 ^ 8)∨¬ x.getD 5 0=i8 place∨50 < (x.getD 7 0).toNat
instance (x:List UInt8) (place:Int):Decidable (badS x place):=by unfold badS; infer_instance
def lookS (x:List UInt8) (g:UInt32) (place:Int):Int:=if ¬ get4 x=g∨¬ get4 (x.drop 60)=g then 1 else if badS x place then 2 else 0
theorem RdB.midS {w:World} {g i j:Nat} {T:TypeId} {x:List UInt8} (h:w.heap[g]?=some (.cells (x.map B).toArray T (0,0))) (hx:x.length=64) (hi:i≤j) (hj:j≤64):RdB w (.slice (some ⟨g,0 + i,none⟩) (j - i) (64 - i)) ((x.drop i).take (j - i)):=by
  have hl:((x.drop i).take (j - i)).length=j - i:=by simp [hx]; omega
  refine ⟨_,64 - i,by rw [hl],by omega,by unfold maxLen; omega,(fun h=>by cases h),.inr ⟨g,0 + i,T,(0,0),(x.map B).toArray,rfl,h,?_⟩⟩
  rw [List.length_map,hl,Nat.zero_add]
  simp [List.map_take,List.map_drop]
theorem di_look (x:List UInt8) (gen:UInt32) (place:Int) (hx:x.length=64) (hp0:0≤place) (hp1:place≤100000) (w:World) :Ctr Try.prog 51 [.agg (x.map B).toArray,U gen,I place] w (fun _=>False) (fun v _=>v=I (lookS x gen place)):=by
  refine fn_start (N:=53) Try.func51 rfl rfl rfl fun ac hk=>?_
  have hs:=St.start hk w
  refine wp_seq (wp_reg ?_)
  refine s_box hs rfl rfl rfl fun ac ww g3 hs=>?_
  refine s_q hs (c_assign (hs.ev rfl)) rfl fun ac hs=>?_
  refine s_end ?_
  replace hs:=hs.sub (F':=[(1,_),(2,_),(3,_),(6,_)]) ⟨rfl,rfl,rfl,rfl,trivial⟩
  refine then_n (wp_seq (wp_seq (wp_reg ?_)))
  by_cases h1:get4 x=gen
  · refine s_q hs (c_sliceA un29 ty5 (hs.ev rfl)) rfl fun ac hs=>?_
    refine s_call hs fu50 (.cons (hs.ev rfl) .nil) (di_get32 _ x (by omega) _ (RdB.segn (hs.seg (i:=0) rfl) hx (by decide))) rfl fun ac ww v9 hf hp hs=>?_
    obtain rfl:=hp
    replace hs:=hs [] (.nil _ _)
    refine s_q hs (c_move (hs.ev rfl)) rfl fun ac hs=>?_
    refine s_q hs (c_ff (c_neqU (hs.ev rfl) (hs.ev rfl)) ((by simp [h1]))) rfl fun ac hs=>?_
    refine s_q hs (c_move (hs.ev rfl)) rfl fun ac hs=>?_
    refine s_yes hs rfl rfl ?_
    refine s_q hs (c_sliceAL (i:=60) un29 ty5 (hs.ev rfl) (hs.ev rfl) rfl (by decide)) rfl fun ac hs=>?_
    refine s_yes hs rfl rfl ?_
    refine s_call hs fu50 (.cons (hs.ev rfl) .nil) (di_get32 _ (x.drop 60) (by simp [hx]) _ (by have h9:=RdB.midS (i:=60) (j:=64) (hs.seg (i:=0) rfl) hx (by decide) (by decide); rwa [List.take_of_length_le (by simp [hx])] at h9)) rfl fun ac ww v14 hf hp hs=>?_
    obtain rfl:=hp
    replace hs:=hs [] (.nil _ _)
    refine s_yes hs rfl rfl ?_
    refine s_q hs (c_move (hs.ev rfl)) rfl fun ac hs=>?_
    refine s_yes hs rfl rfl ?_
    refine s_q hs (c_neqU (hs.ev rfl) (hs.ev rfl)) rfl fun ac hs=>?_
    refine s_q hs (c_pick (hs.ev rfl) (hs.ev rfl) (hs.ev rfl)) rfl fun ac hs=>?_
    refine s_end ?_
    replace hs:=hs.sub (F':=[(2,_),(3,_),(6,_),(17,_)]) ⟨rfl,rfl,rfl,rfl,trivial⟩
    refine then_n ?_
    refine s_cond hs rfl (fun hc=>?_) (fun hc=>?_)
    · try simp only [decide_eq_true_eq,decide_eq_false_iff_not,Bool.not_eq_true',Bool.not_eq_false',Bool.and_eq_true,Bool.or_eq_true,Bool.or_eq_false_iff] at hc
      have h2:¬ get4 (x.drop 60)=gen:=by simpa using hc
      refine wp_seq (wp_reg ?_)
      refine s_q hs (c_assign (hs.ev rfl)) rfl fun ac hs=>?_
      refine s_end ?_
      replace hs:=hs.sub (F':=[(2,_),(3,_),(6,_)]) ⟨rfl,rfl,rfl,trivial⟩
      refine then_n (wp_ret (then_r ?_))
      refine s_ret hs rfl (.tmp (hs.tmp rfl) .nil) rfl ⟨_,rfl,hs.fr,?_⟩
      exact congrArg I (show (1:Int)=_ by rw [lookS,if_pos (.inr h2)])
    · try simp only [decide_eq_true_eq,decide_eq_false_iff_not,Bool.not_eq_true',Bool.not_eq_false',Bool.and_eq_true,Bool.or_eq_true,Bool.or_eq_false_iff] at hc
      have h2:get4 (x.drop 60)=gen:=by simpa using hc
      refine wp_skip (then_n (wp_seq (wp_reg ?_)))
      refine s_q hs (c_loadW ty29 rfl (hs.ev rfl) (hs.seg (i:=0) rfl) (by simp [hx])) rfl fun ac hs=>?_
      refine s_call hs fu53 (.cons (hs.ev rfl) .nil) (di_sum x hx _) rfl fun ac ww v19 hf hp hs=>?_
      obtain rfl:=hp
      replace hs:=hs [] (.nil _ _)
      refine s_q hs (c_assign (hs.ev rfl)) rfl fun ac hs=>?_
      refine s_end ?_
      replace hs:=hs.sub (F':=[(2,_),(3,_),(6,_),(7,_)]) ⟨rfl,rfl,rfl,rfl,trivial⟩
      refine then_n (wp_seq (wp_seq (wp_reg ?_)))
      refine s_q hs (c_idxA (j:=58) un29 ty5 (hs.ev rfl) (hs.ev rfl) rfl (by decide)) rfl fun ac hs=>?_
      refine s_q hs (c_loadS un5 rfl (hs.ev rfl) (hs.seg (i:=0) rfl) (getB (by omega))) rfl fun ac hs=>?_
      refine s_q hs (c_move (hs.ev rfl)) rfl fun ac hs=>?_
      refine s_q hs (c_shrW (hs.ev rfl) (hs.ev rfl) (by decide)) rfl fun ac hs=>?_
      refine s_q hs (c_cvWB un100 un5 (hs.ev rfl)) rfl fun ac hs=>?_
      refine s_q hs (c_neqB (hs.ev rfl) (hs.ev rfl)) rfl fun ac hs=>?_
      refine s_q hs (c_move (hs.ev rfl)) rfl fun ac hs=>?_
      refine s_g hs rfl rfl (fun hg=>c_idxA (j:=59) un29 ty5 (hs.ev rfl) (hs.ev rfl) rfl (by decide)) rfl fun ac hs=>?_
      refine s_g hs rfl rfl (fun hg=>c_loadS un5 rfl (gev (hs.ev rfl) hg) (hs.seg (i:=0) rfl) (getB (by omega))) rfl fun ac hs=>?_
      refine s_g hs rfl rfl (fun hg=>c_move (hs.ev rfl)) rfl fun ac hs=>?_
      refine s_g hs rfl rfl (fun hg=>c_cvWB un100 un5 (gev (hs.ev rfl) hg)) rfl fun ac hs=>?_
      refine s_g hs rfl rfl (fun hg=>c_neqB (gev (hs.ev rfl) hg) (gev (hs.ev rfl) hg)) rfl fun ac hs=>?_
      refine s_q hs (c_or (hs.ev rfl) (hs.ev rfl)) rfl fun ac hs=>?_
      refine s_q hs (c_move (hs.ev rfl)) rfl fun ac hs=>?_
      refine s_g hs rfl rfl (fun hg=>c_idxA (j:=4) un29 ty5 (hs.ev rfl) (hs.ev rfl) rfl (by decide)) rfl fun ac hs=>?_
      refine s_g hs rfl rfl (fun hg=>c_loadS un5 rfl (gev (hs.ev rfl) hg) (hs.seg (i:=0) rfl) (getB (by omega))) rfl fun ac hs=>?_
      refine s_g hs rfl rfl (fun hg=>c_move (hs.ev rfl)) rfl fun ac hs=>?_
      refine s_g hs rfl rfl (fun hg=>c_shrI (gev (hs.ev rfl) hg) (hs.ev rfl) (by decide)) rfl fun ac hs=>?_
      refine s_g hs rfl rfl (fun hg=>c_cvIB un3 un5 (gev (hs.ev rfl) hg)) rfl fun ac hs=>?_
      refine s_g hs rfl rfl (fun hg=>c_neqB (gev (hs.ev rfl) hg) (gev (hs.ev rfl) hg)) rfl fun ac hs=>?_
      refine s_q hs (c_or (hs.ev rfl) (hs.ev rfl)) rfl fun ac hs=>?_
      refine s_q hs (c_move (hs.ev rfl)) rfl fun ac hs=>?_
      refine s_g hs rfl rfl (fun hg=>c_idxA (j:=5) un29 ty5 (hs.ev rfl) (hs.ev rfl) rfl (by decide)) rfl fun ac hs=>?_
      refine s_g hs rfl rfl (fun hg=>c_loadS un5 rfl (gev (hs.ev rfl) hg) (hs.seg (i:=0) rfl) (getB (by omega))) rfl fun ac hs=>?_
      refine s_g hs rfl rfl (fun hg=>c_move (hs.ev rfl)) rfl fun ac hs=>?_
      refine s_g hs rfl rfl (fun hg=>c_cvIB un3 un5 (gev (hs.ev rfl) hg)) rfl fun ac hs=>?_
      refine s_g hs rfl rfl (fun hg=>c_neqB (gev (hs.ev rfl) hg) (gev (hs.ev rfl) hg)) rfl fun ac hs=>?_
      refine s_q hs (c_or (hs.ev rfl) (hs.ev rfl)) rfl fun ac hs=>?_
      refine s_q hs (c_move (hs.ev rfl)) rfl fun ac hs=>?_
      refine s_g hs rfl rfl (fun hg=>c_idxA (j:=7) un29 ty5 (hs.ev rfl) (hs.ev rfl) rfl (by decide)) rfl fun ac hs=>?_
      refine s_g hs rfl rfl (fun hg=>c_loadS un5 rfl (gev (hs.ev rfl) hg) (hs.seg (i:=0) rfl) (getB (by omega))) rfl fun ac hs=>?_
      refine s_g hs rfl rfl (fun hg=>c_gtrB (gev (hs.ev rfl) hg) (St.ev (v:=B 50) hs rfl)) rfl fun ac hs=>?_
      refine s_q hs (c_or (hs.ev rfl) (hs.ev rfl)) rfl fun ac hs=>?_
      refine s_end ?_
      replace hs:=hs.sub (F':=[(6,_),(52,_)]) ⟨rfl,rfl,trivial⟩
      refine then_n ?_
      refine s_cond hs rfl (fun hc=>?_) (fun hc=>?_)
      · skip
        have hb:badS x place:=by
          simp only [Bool.or_eq_true,decide_eq_true_eq,Bool.not_eq_true',decide_eq_false_iff_not] at hc
          unfold badS
          rcases hc with (((hc | hc) | hc) | hc) | hc
          · exact .inl hc
          · exact .inr (.inl hc)
          · exact .inr (.inr (.inl hc))
          · exact .inr (.inr (.inr (.inl hc)))
          · exact .inr (.inr (.inr (.inr hc)))
        refine wp_seq (wp_reg ?_)
        refine s_q hs (c_assign (hs.ev rfl)) rfl fun ac hs=>?_
        refine s_end ?_
        replace hs:=hs.sub (F':=[(6,_)]) ⟨rfl,trivial⟩
        refine then_n (wp_ret (then_r ?_))
        refine s_ret hs rfl (.tmp (hs.tmp rfl) .nil) rfl ⟨_,rfl,hs.fr,?_⟩
        exact congrArg I (show (2:Int)=_ by rw [lookS,if_neg (fun h=>h.elim (fun a=>a h1) (fun a=>a h2)),if_pos hb])
      · skip
        have hb:¬ badS x place:=fun h=>by
          simp only [Bool.or_eq_false_iff,decide_eq_false_iff_not,Bool.not_eq_false',decide_eq_true_eq] at hc
          obtain ⟨⟨⟨⟨h3,h4⟩,h5⟩,h6⟩,h7⟩:=hc
          rcases h with h | h | h | h | h
          · exact h h3
          · exact h h4
          · exact h h5
          · exact h h6
          · exact h7 h
        refine wp_skip (then_n (wp_seq (wp_reg ?_)))
        refine s_q hs (c_assign (hs.ev rfl)) rfl fun ac hs=>?_
        refine s_end ?_
        replace hs:=hs.sub (F':=[(6,_)]) ⟨rfl,trivial⟩
        refine then_n (wp_ret ?_)
        refine s_ret hs rfl (.tmp (hs.tmp rfl) .nil) rfl ⟨_,rfl,hs.fr,?_⟩
        exact congrArg I (show (0:Int)=_ by rw [lookS,if_neg (fun h=>h.elim (fun a=>a h1) (fun a=>a h2)),if_neg hb])
  · refine s_q hs (c_sliceA un29 ty5 (hs.ev rfl)) rfl fun ac hs=>?_
    refine s_call hs fu50 (.cons (hs.ev rfl) .nil) (di_get32 _ x (by omega) _ (RdB.segn (hs.seg (i:=0) rfl) hx (by decide))) rfl fun ac ww v9 hf hp hs=>?_
    obtain rfl:=hp
    replace hs:=hs [] (.nil _ _)
    refine s_q hs (c_move (hs.ev rfl)) rfl fun ac hs=>?_
    refine s_q hs (c_tt (c_neqU (hs.ev rfl) (hs.ev rfl)) ((by simp [h1]))) rfl fun ac hs=>?_
    refine s_q hs (c_move (hs.ev rfl)) rfl fun ac hs=>?_
    refine s_no hs rfl rfl rfl rfl fun ac hs=>?_
    refine s_no hs rfl rfl rfl rfl fun ac hs=>?_
    refine s_no hs rfl rfl rfl rfl fun ac hs=>?_
    refine s_no hs rfl rfl rfl rfl fun ac hs=>?_
    refine s_q hs (c_pick (hs.ev rfl) (hs.ev rfl) (hs.ev rfl)) rfl fun ac hs=>?_
    refine s_end ?_
    replace hs:=hs.sub (F':=[(2,_),(3,_),(6,_),(17,_)]) ⟨rfl,rfl,rfl,rfl,trivial⟩
    refine then_n ?_
    refine wp_cond_true (hs.ev rfl) ?_
    refine wp_seq (wp_reg ?_)
    refine s_q hs (c_assign (hs.ev rfl)) rfl fun ac hs=>?_
    refine s_end ?_
    replace hs:=hs.sub (F':=[(2,_),(3,_),(6,_)]) ⟨rfl,rfl,rfl,trivial⟩
    refine then_n (wp_ret (then_r ?_))
    refine s_ret hs rfl (.tmp (hs.tmp rfl) .nil) rfl ⟨_,rfl,hs.fr,?_⟩
    exact congrArg I (show (1:Int)=_ by rw [lookS,if_pos (.inl h1)])
def vis (s:Sl) (j:Nat):List UInt8:=ofW s.q j (sec s.xs j)
theorem read_vis {s:Sl} (hup:s.down=false) {j:Nat} (hj:j < s.n):s.read j=(vis s j,0):=by
  rw [Sl.read,if_neg (by rw [hup]; decide),if_neg (by omega)]
  rfl
theorem vis_len {s:Sl} (h:s.Ok) {j:Nat} (hj:j < s.n):(vis s j).length=64:=ofW_len (sec_len h.xl hj) h.qo
structure Td where
  gen:UInt32
  recs:List (List UInt8)
  sure:Bool
def rdGo (f:Nat→List UInt8) (g:UInt32):Nat→Nat→List (List UInt8)→Bool→List UInt8→Bool→Option (List (List UInt8) × Bool)
  | 0,_,recs,sure,_,_=>some (recs,sure)
  | m + 1,k,recs,sure,part,op =>
    if lookS (f k) g k=1 then some (recs,sure) else if lookS (f k) g k=2 then none else
    if decide (¬ (f k).getD 6 0 &&& 1=0)=op then none else
    if (f k).getD 6 0 &&& 2=0 then rdGo f g m (k + 1) recs sure (part++((f k).drop 8).take ((f k).getD 7 0).toNat) true else
    if ¬ (f k).getD 6 0 &&& 4=0 then (if sure=true then none else rdGo f g m (k + 1) recs true [] false)
    else rdGo f g m (k + 1) (recs++[part++((f k).drop 8).take ((f k).getD 7 0).toNat]) sure [] false
def rdHalf (f:Nat→List UInt8) (h many:Nat):Option Td :=
  if many=0∨get4 (f 0)=0∨¬ get4 ((f 0).drop 60)=get4 (f 0)∨¬ (get4 (f 0) % 2).toNat=h then some ⟨0,[],false⟩
  else (rdGo f (get4 (f 0)) many 0 [] false [] false).map fun r=>⟨get4 (f 0),r.1,r.2⟩
theorem look_len {x:List UInt8} {g:UInt32} {k:Int} (h1:¬ lookS x g k=1) (h2:¬ lookS x g k=2):(x.getD 7 0).toNat≤50:=by
  unfold lookS at h1 h2
  split at h1
  · exact absurd rfl h1
  · rename_i h3
    rw [if_neg h3] at h2
    split at h2
    · exact absurd rfl h2
    · rename_i h4
      exact Nat.le_of_not_lt fun h=>h4 (.inr (.inr (.inr (.inr h))))
structure RX where
  G:UInt32
  rv:Value
  ps:List (Value × List UInt8)
  sure:Bool
  pv:Value
  part:List UInt8
  op:Bool
structure RI (f:Nat→List UInt8) (h many k:Nat) (z:RX):Prop where
  at0:k=0→z.ps=[]∧z.sure=false∧z.part=[]∧z.op=false∧z.G=0
  on:¬ k=0→rdHalf f h many=(rdGo f z.G (many - k) k (z.ps.map (·.2)) z.sure z.part z.op).map fun r=>⟨z.G,r.1,r.2⟩
  le:z.part.length≤50 * k
  le2:z.ps.length≤k
def tdC (g:UInt32) (rv:Value) (b:Bool):List Value:=[U g,rv,.bool b]
def RdTo (w w':World) (v:Value):Option Td→Prop
  | none=>v=.tuple #[.agg (tdC 0 (.slice none 0 0) false).toArray,I 31]
  | some td=>∃ rv ps,v=.tuple #[.agg (tdC td.gen rv td.sure).toArray,I 0]∧ps.map (·.2)=td.recs∧Has w.heap.size w' [Ent.texts 38 (Ent.part 5) rv ps]
theorem rd_pow {m:Nat} (h:¬ m=0) (f:Nat→List UInt8) (g:UInt32) (k:Nat) (recs:List (List UInt8)) (sure:Bool) (part:List UInt8) (op:Bool):rdGo f g m k recs sure part op =
    (if lookS (f k) g k=1 then some (recs,sure) else if lookS (f k) g k=2 then none else
    if decide (¬ (f k).getD 6 0 &&& 1=0)=op then none else
    if (f k).getD 6 0 &&& 2=0 then rdGo f g (m - 1) (k + 1) recs sure (part++((f k).drop 8).take ((f k).getD 7 0).toNat) true else
    if ¬ (f k).getD 6 0 &&& 4=0 then (if sure=true then none else rdGo f g (m - 1) (k + 1) recs true [] false)
    else rdGo f g (m - 1) (k + 1) (recs++[part++((f k).drop 8).take ((f k).getD 7 0).toNat]) sure [] false):=by
  obtain ⟨m,rfl⟩:∃ n,m=n + 1:=⟨m - 1,by omega⟩
  rfl
theorem RdB.midE {w:World} {g:Nat} {T:TypeId} {x:List UInt8} (h:w.heap[g]?=some (.cells (x.map B).toArray T (0,0))) (hx:x.length=64):RdB w (.slice (some ⟨g,0 + 60,none⟩) (64 - 60) (64 - 60)) (x.drop 60):=by
  have h9:=RdB.midS (i:=60) (j:=64) h hx (by decide) (by decide)
  rwa [List.take_of_length_le (by simp [hx])] at h9
theorem RdB.midD {w:World} {g m:Nat} {T:TypeId} {x:List UInt8} (h:w.heap[g]?=some (.cells (x.map B).toArray T (0,0))) (hx:x.length=64) (hm:m≤50):RdB w (.slice (some ⟨g,0 + 8,none⟩) (8 + m - 8) (64 - 8)) ((x.drop 8).take m):=by
  have h9:=RdB.midS (i:=8) (j:=8 + m) h hx (by omega) (by omega)
  rwa [show (x.drop 8).take (8 + m - 8)=(x.drop 8).take m by rw [Nat.add_sub_cancel_left]] at h9
theorem texts_rd {E T:TypeId} {v:Value} {ps:List (Value × List UInt8)} {w:World} (h:(Ent.texts E (Ent.part T) v ps).holds w):Rd w v ps.length (ps.map (·.1)):=(RdP.texts h).1
theorem di_read (g sb:Nat) (qv:Value) (s:Sl) (frm many h:Nat) (f:Nat→List UInt8) (hok:s.Ok) (hup:s.down=false) (hfm:frm + many≤s.n) (hfr:0 < many→frm / many=h) (hf:∀ k,f k=vis s (frm + k)) (w:World) (hR:SlR w g sb qv s):Ctr Try.prog 45 [.pointer (some ⟨g,0,none⟩),I frm,I many] w (fun _=>False) (fun v w'=>RdTo w w' v (rdHalf f h many)):=by
  have hn1:=hok.n1
  refine fn_start (N:=110) Try.func45 rfl rfl rfl fun ac hk=>?_
  have hs:=St.start hk w
  refine wp_seq (wp_reg ?_)
  refine s_alloc hs ty88 rfl fun ac ww g6 hs=>?_
  refine s_q hs (c_assign (hs.ev rfl)) rfl fun ac hs=>?_
  refine s_end (then_n ?_)
  refine wp_sc ?_
  refine wp_seq (wp_reg ?_)
  refine s_alloc hs ty88 rfl fun ac ww g8 hs=>?_
  refine s_end (then_n (wp_seq (wp_reg ?_)))
  refine s_q hs (c_assign (hs.ev rfl)) rfl fun ac hs=>?_
  refine s_end ?_
  replace hs:=hs.nilrow 5 1
  refine then_n (wp_seq (wp_reg ?_))
  refine s_q hs (c_assign (hs.ev rfl)) rfl fun ac hs=>?_
  refine s_end ?_
  replace hs:=(hs.texts0 38 (Ent.part 5)).perm (L':=[.seg g8 (tdC 0 (.slice none 0 0) false) 88,Ent.texts 38 (Ent.part 5) (.slice none 0 0) [],.row (.slice none 0 0) 0 [] 5 1,.seg g6 (tdC 0 (.slice none 0 0) false) 88]) (List.Perm.append_right [_] (List.perm_append_comm (l₁:=[_]) (l₂:=[_,_])))
  refine then_n (wp_seq ?_)
  refine wp_label ?_
  refine then_n (wp_seq (wp_seq (wp_reg ?_)))
  refine s_q hs (c_move (hs.ev rfl)) rfl fun ac hs=>?_
  refine s_q hs (c_move (hs.ev rfl)) rfl fun ac hs=>?_
  refine s_end (then_n (wp_block ?_))
  refine s_loop hs (X:=Nat × RX) (fun z=>[(16,I z.1),(9,z.2.pv),(10,.bool z.2.op)]) [(0,_),(1,_),(2,_),(6,_),(8,_),(15,_)] (fun z=>[.seg g8 (tdC (z.2.G) (z.2.rv) (z.2.sure)) 88,Ent.texts 38 (Ent.part 5) (z.2.rv) (z.2.ps),.row (z.2.pv) (z.2.part).length ((z.2.part).map B) 5 1,.seg g6 (tdC 0 (.slice none 0 0) false) 88]) (fun n z=>z.1≤many∧RI f h many z.1 z.2∧n=many - z.1) (_) ((0,⟨0,.slice none 0 0,[],false,.slice none 0 0,[],false⟩)) (⟨Nat.zero_le _,⟨fun _=>⟨rfl,rfl,rfl,rfl,rfl⟩,fun h=>absurd rfl h,Nat.le_refl _,Nat.le_refl _⟩,rfl⟩) ⟨rfl,rfl,rfl,rfl,rfl,rfl,rfl,rfl,rfl,trivial⟩ rfl ?_
  rintro n ⟨k,G,rv,ps,sure,pv,part,op⟩ ac ww hok2 hs
  simp only [List.cons_append,List.nil_append] at hs
  obtain ⟨hk,hI,rfl⟩:=hok2
  replace hk:k≤many:=hk
  replace hI:RI f h many k ⟨G,rv,ps,sure,pv,part,op⟩:=hI
  have hl1:part.length≤50 * k:=hI.le
  have hl2:ps.length≤k:=hI.le2
  have hl2b:=hl2
  refine wp_seq (wp_reg ?_)
  refine s_q hs (c_lssI (hs.ev rfl) (hs.ev rfl)) rfl fun ac hs=>?_
  refine s_end (then_n (wp_seq ?_))
  refine s_cond hs rfl (fun hc=>?_) (fun hc=>?_)
  · try simp only [decide_eq_true_eq,decide_eq_false_iff_not,Bool.not_eq_true',Bool.not_eq_false',Bool.and_eq_true,Bool.or_eq_true,Bool.or_eq_false_iff] at hc
    have hkm:k < many:=by omega
    obtain ⟨x,hx⟩:∃ x,f k=x:=⟨_,rfl⟩
    have hxr:s.read ((frm + k:Nat):Int)=(x,0):=by rw [read_vis hup (by omega),← hx,hf]
    have hx64:x.length=64:=by rw [← hx,hf]; exact vis_len hok (by omega)
    refine wp_skip (then_n (wp_seq (wp_block (wp_seq (wp_reg ?_)))))
    refine s_q hs (c_move (hs.ev rfl)) rfl fun ac hs=>?_
    refine s_q hs (c_assign (hs.ev rfl)) rfl fun ac hs=>?_
    refine s_end (then_n (wp_seq (wp_reg ?_)))
    refine s_q hs (c_move (hs.ev rfl)) rfl fun ac hs=>?_
    refine s_q hs (c_move (hs.ev rfl)) rfl fun ac hs=>?_
    refine s_q hs (c_move (hs.ev rfl)) rfl fun ac hs=>?_
    refine s_q hs (c_to (c_addI (hs.ev rfl) (hs.ev rfl) (by omega) (by omega)) ((congrArg I (show _=((frm + k:Nat):Int) by omega)))) rfl fun ac hs=>?_
    refine s_call hs fu15 (.cons (hs.ev rfl) (.cons (hs.ev rfl) .nil)) (sl_Read g sb qv s ((frm + k:Nat):Int) hok _ (hR.fr0 hs.fr)) rfl fun ac ww v24 hf hp hs=>?_
    rw [hxr] at hp
    replace hp:v24=.tuple #[.agg (x.map B).toArray,I 0]:=hp
    obtain rfl:=hp
    replace hs:=hs [] (.nil _ _)
    refine s_q hs (c_move (hs.ev rfl)) rfl fun ac hs=>?_
    refine s_q hs (c_extract (hs.ev rfl) rfl) rfl fun ac hs=>?_
    refine s_q hs (c_extract (hs.ev rfl) rfl) rfl fun ac hs=>?_
    refine s_alloc hs ty29 rfl fun ac ww g12 hs=>?_
    refine s_storeW (i:=0) hs ty29 rfl rfl rfl (by simp [hx64]) (all64 _) (by rfl) fun ww hs=>?_
    refine s_q hs (c_assign (hs.ev rfl)) rfl fun ac hs=>?_
    refine s_end (then_n (wp_seq (wp_seq (wp_reg ?_))))
    refine s_q hs (c_move (hs.ev rfl)) rfl fun ac hs=>?_
    refine s_q hs (c_neqI (hs.ev rfl) (hs.ev rfl)) rfl fun ac hs=>?_
    refine s_end (then_n ?_)
    refine wp_cond_false (hs.ev rfl) ?_
    refine wp_skip (then_n (wp_seq (wp_seq (wp_reg ?_))))
    refine s_q hs (c_move (hs.ev rfl)) rfl fun ac hs=>?_
    refine s_q hs (c_eqlI (hs.ev rfl) (hs.ev rfl)) rfl fun ac hs=>?_
    refine s_end (then_n ?_)
    refine s_cond hs rfl (fun hc=>?_) (fun hc=>?_)
    · try simp only [decide_eq_true_eq,decide_eq_false_iff_not,Bool.not_eq_true',Bool.not_eq_false',Bool.and_eq_true,Bool.or_eq_true,Bool.or_eq_false_iff] at hc
      have hk0:k=0:=by omega
      obtain ⟨e1,e2,e3,e4,e5⟩:=hI.at0 hk0
      replace e1:ps=[]:=e1
      replace e2:sure=false:=e2
      replace e3:part=[]:=e3
      replace e4:op=false:=e4
      refine wp_seq (wp_reg ?_)
      refine s_q hs (c_sliceA un29 ty5 (hs.ev rfl)) rfl fun ac hs=>?_
      refine s_call hs fu50 (.cons (hs.ev rfl) .nil) (di_get32 _ x (by omega) _ (RdB.segn (hs.seg (i:=0) rfl) hx64 (by decide))) rfl fun ac ww v34 hf hp hs=>?_
      obtain rfl:=hp
      replace hs:=hs [] (.nil _ _)
      refine s_q hs (c_fld fl88_0 (hs.ev rfl)) rfl fun ac hs=>?_
      refine s_store (i:=1) hs ty53 rfl rfl rfl rfl (by rfl) (by rfl) (by simp [tdC,Value.cells]) (show _=tdC (get4 x) rv sure from rfl) fun ww hs=>?_
      refine s_end (then_n (wp_seq ?_))
      obtain ⟨G2,hG2⟩:∃ G2,get4 x=G2:=⟨_,rfl⟩
      rw [hG2] at hs
      have hhd:frm / many=h:=hfr (by omega)
      have hmx:max (many:Int) 1=many:=by omega
      have hdv:(frm:Int) / (many:Int)=(h:Int):=by rw [← hhd]; rfl
      refine wp_region_rg pmix 21 (by kernel_rfl) rfl hs ?_
      simp only [List.take_succ_cons,List.take_zero]
      refine rg_q (fun ac ww h=>c_fld fl88_0 (h.ev rfl)) rfl ?_
      refine rg_q (fun ac ww h=>c_loadS un53 rfl (h.ev rfl) (h.blk (hs.seg (i:=1) rfl)) rfl) rfl ?_
      refine rg_q (fun ac ww h=>c_eqlU (h.ev rfl) (RC.ev (v:=U 0) h rfl)) rfl ?_
      refine rg_q (fun ac ww h=>c_move (h.ev rfl)) rfl ?_
      refine rg_g rfl rfl (fun hg ac ww h=>c_sliceAL (i:=60) un29 ty5 (h.ev rfl) (h.ev rfl) rfl (by decide)) rfl ?_
      refine rg_gcall rfl rfl fu50 (fun hg ac ww h=>(.cons (gev (h.ev rfl) hg) .nil)) (fun hg ww hf=>di_get32 _ (x.drop 60) (by simp [hx64]) _ (RdB.midE (((hf.block _ (heap_lt (hs.seg (i:=0) rfl)) id).trans (hs.seg (i:=0) rfl))) hx64)) rfl ?_
      refine rg_g rfl rfl (fun hg ac ww h=>c_fld fl88_0 (h.ev rfl)) rfl ?_
      refine rg_g rfl rfl (fun hg ac ww h=>c_loadS un53 rfl (gev (h.ev rfl) hg) (h.blk (hs.seg (i:=1) rfl)) rfl) rfl ?_
      refine rg_g rfl rfl (fun hg ac ww h=>c_neqU (gev (h.ev rfl) hg) (gev (h.ev rfl) hg)) rfl ?_
      refine rg_q (fun ac ww h=>c_or (h.ev rfl) (h.ev rfl)) rfl ?_
      refine rg_q (fun ac ww h=>c_move (h.ev rfl)) rfl ?_
      refine rg_g rfl rfl (fun hg ac ww h=>c_fld fl88_0 (h.ev rfl)) rfl ?_
      refine rg_g rfl rfl (fun hg ac ww h=>c_loadS un53 rfl (gev (h.ev rfl) hg) (h.blk (hs.seg (i:=1) rfl)) rfl) rfl ?_
      refine rg_g rfl rfl (fun hg ac ww h=>c_remU (gev (h.ev rfl) hg) (RC.ev (v:=U 2) h rfl) (by decide)) rfl ?_
      refine rg_g rfl rfl (fun hg ac ww h=>c_cvUI un53 un3 (gev (h.ev rfl) hg)) rfl ?_
      refine rg_g rfl rfl (fun hg ac ww h=>c_move (h.ev rfl)) rfl ?_
      refine rg_g rfl rfl (fun hg ac ww h=>c_move (h.ev rfl)) rfl ?_
      refine rg_g rfl rfl (fun hg ac ww h=>c_max (gev (h.ev rfl) hg) (h.ev rfl)) rfl ?_
      refine rg_g rfl rfl (fun hg ac ww h=>c_to (c_quoI (gev (h.ev rfl) hg) (gev (h.ev rfl) hg) (by omega) (by omega) (by omega)) ((congrArg I ((congrArg (fun z:Int=>(frm:Int) / z) hmx).trans hdv)))) rfl ?_
      refine rg_g rfl rfl (fun hg ac ww h=>c_neqI (gev (h.ev rfl) hg) (gev (h.ev rfl) hg)) rfl ?_
      refine rg_q (fun ac ww h=>c_or (h.ev rfl) (h.ev rfl)) rfl ?_
      refine rg_nil fun ac ww L' hf hfe hs=>?_
      simp only [List.drop_succ_cons,List.drop_zero]
      obtain rfl:L'=[]:=hfe
      replace hs:=hs.toL (List.nil_append _)
      refine s_end (then_n ?_)
      refine s_cond hs rfl (fun hc=>?_) (fun hc=>?_)
      · skip
        have hbad:get4 (f 0)=0∨¬ get4 ((f 0).drop 60)=get4 (f 0)∨¬ (get4 (f 0) % 2).toNat=h:=by
          simp only [Bool.or_eq_true,decide_eq_true_eq,Bool.not_eq_true',decide_eq_false_iff_not] at hc
          rw [← hk0,hx,hG2]
          rcases hc with (hc | hc) | hc
          · exact .inl hc
          · exact .inr (.inl hc)
          · exact .inr (.inr (fun e=>hc (by rw [e])))
        refine wp_seq (wp_reg ?_)
        refine s_q hs (c_buildS (zc:=tdC 0 (.slice none 0 0) false) ty88 bp88 .nil trivial (by simp [flatCells,Value.cells]) rfl) rfl fun ac hs=>?_
        refine s_storeW (i:=4) hs ty88 rfl rfl rfl (by rfl) (by rfl) (by rfl) fun ww hs=>?_
        refine s_q hs (c_assign (hs.ev rfl)) rfl fun ac hs=>?_
        refine s_end (then_n (wp_ret (then_r (blk_r (then_r (then_r (blk_r (then_r ?_))))))))
        refine sc_r ?_
        replace hs:=(hs.texts0 38 (Ent.part 5))
        refine s_ret hs rfl (.cell (hs.tmp rfl) (run_loadA ty88 ag88 (hs.seg (i:=5) rfl) rfl (by rfl)) (.tmp (hs.tmp rfl) .nil)) rfl ⟨_,rfl,hs.fr,?_⟩
        rw [show rdHalf f h many=some ⟨0,[],false⟩ from if_pos (.inr hbad)]
        exact ⟨_,[],rfl,rfl,(hs.pick (L':=[_]) (.cons_cons _ (List.nil_sublist _))).made⟩
      · skip
        have hgo:rdHalf f h many=(rdGo f G2 (many - k) k (ps.map (·.2)) sure part op).map fun r=>⟨G2,r.1,r.2⟩:=by
          simp only [Bool.or_eq_false_iff,decide_eq_false_iff_not,Bool.not_eq_false',decide_eq_true_eq] at hc
          obtain ⟨⟨h3,h4⟩,h5⟩:=hc
          rw [e1,e2,e3,e4,hk0,rdHalf,if_neg,← hk0,hx,hG2,hk0]
          · rfl
          · rw [← hk0,hx,hG2]
            rintro (h9 | h9 | h9 | h9)
            · omega
            · exact h3 h9
            · exact h9 h4
            · exact h9 (by omega)
        refine wp_skip (then_n (wp_seq (wp_seq ?_)))
        have hst:=rd_pow (show ¬ many - k=0 by omega) f G2 k (ps.map (·.2)) sure part op
        rw [hx] at hst
        refine wp_reg ?_
        refine s_q hs (c_loadW ty29 rfl (hs.ev rfl) (hs.seg (i:=0) rfl) (by simp [hx64])) rfl fun ac hs=>?_
        refine s_q hs (c_fld fl88_0 (hs.ev rfl)) rfl fun ac hs=>?_
        refine s_q hs (c_loadS un53 rfl (hs.ev rfl) (hs.seg (i:=1) rfl) rfl) rfl fun ac hs=>?_
        refine s_q hs (c_move (hs.ev rfl)) rfl fun ac hs=>?_
        refine s_call hs fu51 (.cons (hs.ev rfl) (.cons (hs.ev rfl) (.cons (hs.ev rfl) .nil))) (di_look x G2 k hx64 (by omega) (by omega) _) rfl fun ac ww v62 hf hp hs=>?_
        obtain rfl:=hp
        replace hs:=hs [] (.nil _ _)
        refine s_end (then_n (wp_block (wp_seq (wp_reg ?_))))
        refine s_q hs (c_eqlI (hs.ev rfl) (hs.ev rfl)) rfl fun ac hs=>?_
        refine s_q hs (c_assign (hs.ev rfl)) rfl fun ac hs=>?_
        refine s_end (then_n ?_)
        refine s_cond hs rfl (fun hc=>?_) (fun hc=>?_)
        · try simp only [decide_eq_true_eq,decide_eq_false_iff_not,Bool.not_eq_true',Bool.not_eq_false',Bool.and_eq_true,Bool.or_eq_true,Bool.or_eq_false_iff] at hc
          have hl1:lookS x G2 k=1:=hc
          have hres:rdHalf f h many=some ⟨G2,ps.map (·.2),sure⟩:=hgo.trans (by rw [hst,if_pos hl1]; rfl)
          replace hs:=hs.pick (L':=[_,_,_,_]) (.cons _ (.refl _))
          refine wp_exit (blk_miss rfl (then_e (blk_miss rfl (then_e (then_e (blk_hit (then_n (wp_seq (wp_reg ?_)))))))))
          obtain ⟨rad,rcap,rfl,_,_⟩:=Rd.sl (texts_rd (hs.get (i:=1) rfl))
          refine s_q hs (c_loadW ty88 ag88 (hs.ev rfl) (hs.seg (i:=0) rfl) (by rfl)) rfl fun ac hs=>?_
          refine s_storeW (i:=3) hs ty88 rfl rfl rfl (by rfl) (by rfl) (by rfl) fun ww hs=>?_
          refine s_q hs (c_assign (hs.ev rfl)) rfl fun ac hs=>?_
          refine s_end ?_
          replace hs:=hs.sub (F':=[(6,_),(7,_)]) ⟨rfl,rfl,trivial⟩
          refine then_n (wp_ret ?_)
          refine sc_r ?_
          refine s_ret hs rfl (.cell (hs.tmp rfl) (run_loadA ty88 ag88 (hs.seg (i:=3) rfl) rfl (by rfl)) (.tmp (hs.tmp rfl) .nil)) rfl ⟨_,rfl,hs.fr,?_⟩
          rw [hres]
          exact ⟨_,ps,rfl,rfl,(hs.pick (L':=[_]) (.cons _ (.cons_cons _ (List.nil_sublist _)))).made⟩
        · try simp only [decide_eq_true_eq,decide_eq_false_iff_not,Bool.not_eq_true',Bool.not_eq_false',Bool.and_eq_true,Bool.or_eq_true,Bool.or_eq_false_iff] at hc
          have hl1:¬ lookS x G2 k=1:=hc
          refine wp_seq (wp_reg ?_)
          refine s_q hs (c_eqlI (hs.ev rfl) (hs.ev rfl)) rfl fun ac hs=>?_
          refine s_q hs (c_assign (hs.ev rfl)) rfl fun ac hs=>?_
          refine s_end (then_n ?_)
          refine s_cond hs rfl (fun hc=>?_) (fun hc=>?_)
          · try simp only [decide_eq_true_eq,decide_eq_false_iff_not,Bool.not_eq_true',Bool.not_eq_false',Bool.and_eq_true,Bool.or_eq_true,Bool.or_eq_false_iff] at hc
            have hl2:lookS x G2 k=2:=hc
            refine wp_seq (wp_reg ?_)
            refine s_q hs (c_buildS (zc:=tdC 0 (.slice none 0 0) false) ty88 bp88 .nil trivial (by simp [flatCells,Value.cells]) rfl) rfl fun ac hs=>?_
            refine s_storeW (i:=4) hs ty88 rfl rfl rfl (by rfl) (by rfl) (by rfl) fun ww hs=>?_
            refine s_q hs (c_assign (hs.ev rfl)) rfl fun ac hs=>?_
            refine s_end (then_n (wp_ret (blk_r (then_r (blk_r (then_r (then_r (blk_r (then_r ?_)))))))))
            refine sc_r ?_
            refine s_ret hs rfl (.cell (hs.tmp rfl) (run_loadA ty88 ag88 (hs.seg (i:=4) rfl) rfl (by rfl)) (.tmp (hs.tmp rfl) .nil)) rfl ⟨_,rfl,hs.fr,?_⟩
            rw [hgo.trans (by rw [hst,if_neg hl1,if_pos hl2])]
            rfl
          · try simp only [decide_eq_true_eq,decide_eq_false_iff_not,Bool.not_eq_true',Bool.not_eq_false',Bool.and_eq_true,Bool.or_eq_true,Bool.or_eq_false_iff] at hc
            have hl2:¬ lookS x G2 k=2:=hc
            obtain ⟨m7,hm7⟩:∃ m7,(x.getD 7 0).toNat=m7:=⟨_,rfl⟩
            have hm50:m7≤50:=hm7 ▸ look_len hl1 hl2
            obtain ⟨fl,hfl⟩:∃ fl,x.getD 6 0=fl:=⟨_,rfl⟩
            rw [hfl,hm7] at hst
            refine wp_skip (blk_n (then_n (wp_seq (wp_reg ?_))))
            refine s_q hs (c_idxA (j:=6) un29 ty5 (hs.ev rfl) (hs.ev rfl) rfl (by decide)) rfl fun ac hs=>?_
            refine s_q hs (c_to (c_loadS un5 rfl (hs.ev rfl) (hs.seg (i:=0) rfl) (getB (by omega))) ((congrArg B hfl))) rfl fun ac hs=>?_
            refine s_q hs (c_assign (hs.ev rfl)) rfl fun ac hs=>?_
            refine s_end (then_n (wp_seq (wp_seq (wp_reg ?_))))
            refine s_q hs (c_move (hs.ev rfl)) rfl fun ac hs=>?_
            refine s_q hs (c_andB (hs.ev rfl) (St.ev (v:=B 1) hs rfl)) rfl fun ac hs=>?_
            refine s_q hs (c_neqB (hs.ev rfl) (St.ev (v:=B 0) hs rfl)) rfl fun ac hs=>?_
            refine s_q hs (c_move (hs.ev rfl)) rfl fun ac hs=>?_
            refine s_q hs (c_eqlbool un4 (hs.ev rfl) (hs.ev rfl)) rfl fun ac hs=>?_
            refine s_end (then_n ?_)
            refine s_cond hs rfl (fun hc=>?_) (fun hc=>?_)
            · skip
              have hop:decide (¬ fl &&& 1=0)=op:=by
                rw [decide_not]
                simpa using hc
              refine wp_seq (wp_reg ?_)
              refine s_q hs (c_buildS (zc:=tdC 0 (.slice none 0 0) false) ty88 bp88 .nil trivial (by simp [flatCells,Value.cells]) rfl) rfl fun ac hs=>?_
              refine s_storeW (i:=4) hs ty88 rfl rfl rfl (by rfl) (by rfl) (by rfl) fun ww hs=>?_
              refine s_q hs (c_assign (hs.ev rfl)) rfl fun ac hs=>?_
              refine s_end (then_n (wp_ret (then_r (blk_r (then_r (then_r (blk_r (then_r ?_))))))))
              refine sc_r ?_
              refine s_ret hs rfl (.cell (hs.tmp rfl) (run_loadA ty88 ag88 (hs.seg (i:=4) rfl) rfl (by rfl)) (.tmp (hs.tmp rfl) .nil)) rfl ⟨_,rfl,hs.fr,?_⟩
              rw [hgo.trans (by rw [hst,if_neg hl1,if_neg hl2,if_pos hop])]
              rfl
            · skip
              have hop:¬ decide (¬ fl &&& 1=0)=op:=by
                rw [decide_not]
                simpa using hc
              refine wp_skip (then_n (wp_seq (wp_reg ?_)))
              refine s_q hs (c_move (hs.ev rfl)) rfl fun ac hs=>?_
              refine s_q hs (c_idxA (j:=7) un29 ty5 (hs.ev rfl) (hs.ev rfl) rfl (by decide)) rfl fun ac hs=>?_
              refine s_q hs (c_loadS un5 rfl (hs.ev rfl) (hs.seg (i:=0) rfl) (getB (by omega))) rfl fun ac hs=>?_
              refine s_q hs (c_to (c_cvBI un5 un3 (hs.ev rfl)) ((congrArg (fun n:Nat=>I (n:Int)) hm7))) rfl fun ac hs=>?_
              refine s_q hs (c_to (c_addI (hs.ev rfl) (hs.ev rfl) (by omega) (by omega)) ((congrArg I (show _=((8 + m7:Nat):Int) by omega)))) rfl fun ac hs=>?_
              refine s_q hs (c_sliceAS (i:=8) (j:=8 + m7) un29 ty5 (hs.ev rfl) (hs.ev rfl) (hs.ev rfl) rfl rfl (by omega) (by omega) (by decide)) rfl fun ac hs=>?_
              refine s_appB (i:=3) hs un38 ty5 rfl rfl rfl (RdB.midD (hs.seg (i:=0) rfl) hx64 hm50) (by simp; omega) rfl fun ac ww v82 hf hnil hs=>?_
              obtain ⟨ad82,cap82,rfl,_,_⟩:=Rd.sl (Rd.of_row (hs.get (i:=3) rfl))
              have hl3:(part++(x.drop 8).take m7).length≤50 * (k + 1):=by rw [List.length_append,List.length_take]; omega
              refine s_q hs (c_move (hs.ev rfl)) rfl fun ac hs=>?_
              refine s_q hs (c_andB (hs.ev rfl) (St.ev (v:=B 2) hs rfl)) rfl fun ac hs=>?_
              refine s_q hs (c_eqlB (hs.ev rfl) (St.ev (v:=B 0) hs rfl)) rfl fun ac hs=>?_
              refine s_q hs (c_assign (hs.ev rfl)) rfl fun ac hs=>?_
              refine s_q hs (c_assign (hs.ev rfl)) rfl fun ac hs=>?_
              refine s_end (then_n (wp_block (wp_seq (wp_reg ?_))))
              refine s_q hs (c_move (hs.ev rfl)) rfl fun ac hs=>?_
              refine s_q hs (c_assign (hs.ev rfl)) rfl fun ac hs=>?_
              refine s_end (then_n ?_)
              refine s_cond hs rfl (fun hc=>?_) (fun hc=>?_)
              · try simp only [decide_eq_true_eq,decide_eq_false_iff_not,Bool.not_eq_true',Bool.not_eq_false',Bool.and_eq_true,Bool.or_eq_true,Bool.or_eq_false_iff] at hc
                have h2:fl &&& 2=0:=hc
                have hI2:RI f h many (k + 1) ⟨G2,rv,ps,sure,.slice ad82 (part++(x.drop 8).take m7).length cap82,part++(x.drop 8).take m7,(decide (fl &&& 2=0))⟩:=⟨fun h=>absurd h (by omega),fun _=>hgo.trans (by
                  rw [show many - (k + 1)=many - k - 1 by omega,hst,if_neg hl1,if_neg hl2,if_neg hop,if_pos h2,decide_eq_true h2]),hl3,Nat.le_succ_of_le hl2b⟩
                replace hs:=hs.pick (L':=[_,_,_,_]) (.cons _ (.refl _))
                refine wp_skip (blk_n (blk_n (then_n (wp_reg ?_))))
                refine s_q hs (c_addI (hs.ev rfl) (hs.ev rfl) (by omega) (by omega)) rfl fun ac hs=>?_
                refine s_q hs (c_move (hs.ev rfl)) rfl fun ac hs=>?_
                refine s_end (then_n ?_)
                exact ⟨many - (k + 1),by omega,(k + 1,_),⟨by show k + 1≤_; omega,hI2,rfl⟩,St.next hs ⟨rfl,rfl,rfl,rfl,rfl,rfl,rfl,rfl,rfl,trivial⟩ rfl⟩
              · try simp only [decide_eq_true_eq,decide_eq_false_iff_not,Bool.not_eq_true',Bool.not_eq_false',Bool.and_eq_true,Bool.or_eq_true,Bool.or_eq_false_iff] at hc
                have h2:¬ fl &&& 2=0:=hc
                refine wp_seq (wp_reg ?_)
                refine s_q hs (c_move (hs.ev rfl)) rfl fun ac hs=>?_
                refine s_q hs (c_andB (hs.ev rfl) (St.ev (v:=B 4) hs rfl)) rfl fun ac hs=>?_
                refine s_q hs (c_neqB (hs.ev rfl) (St.ev (v:=B 0) hs rfl)) rfl fun ac hs=>?_
                refine s_q hs (c_move (hs.ev rfl)) rfl fun ac hs=>?_
                refine s_g hs rfl rfl (fun hg=>c_fld fl88_2 (hs.ev rfl)) rfl fun ac hs=>?_
                refine s_g hs rfl rfl (fun hg=>c_loadS un4 rfl (gev (hs.ev rfl) hg) (hs.seg (i:=1) rfl) rfl) rfl fun ac hs=>?_
                refine s_q hs (c_and (hs.ev rfl) (hs.ev rfl)) rfl fun ac hs=>?_
                refine s_q hs (c_assign (hs.ev rfl)) rfl fun ac hs=>?_
                refine s_end (then_n ?_)
                refine s_cond hs rfl (fun hc=>?_) (fun hc=>?_)
                · skip
                  have h48:¬ fl &&& 4=0∧sure=true:=by simpa using hc
                  refine wp_seq (wp_reg ?_)
                  refine s_q hs (c_buildS (zc:=tdC 0 (.slice none 0 0) false) ty88 bp88 .nil trivial (by simp [flatCells,Value.cells]) rfl) rfl fun ac hs=>?_
                  refine s_storeW (i:=4) hs ty88 rfl rfl rfl (by rfl) (by rfl) (by rfl) fun ww hs=>?_
                  refine s_q hs (c_assign (hs.ev rfl)) rfl fun ac hs=>?_
                  refine s_end (then_n (wp_ret (blk_r (blk_r (then_r (then_r (blk_r (then_r ?_))))))))
                  refine sc_r ?_
                  refine s_ret hs rfl (.cell (hs.tmp rfl) (run_loadA ty88 ag88 (hs.seg (i:=4) rfl) rfl (by rfl)) (.tmp (hs.tmp rfl) .nil)) rfl ⟨_,rfl,hs.fr,?_⟩
                  rw [hgo.trans (by rw [hst,if_neg hl1,if_neg hl2,if_neg hop,if_neg h2,if_pos h48.1,if_pos h48.2])]
                  rfl
                · skip
                  have h48:¬ (¬ fl &&& 4=0∧sure=true):=by
                    intro h9
                    simp [h9.1,h9.2] at hc
                  refine wp_seq (wp_reg ?_)
                  refine s_q hs (c_move (hs.ev rfl)) rfl fun ac hs=>?_
                  refine s_q hs (c_andB (hs.ev rfl) (St.ev (v:=B 4) hs rfl)) rfl fun ac hs=>?_
                  refine s_q hs (c_neqB (hs.ev rfl) (St.ev (v:=B 0) hs rfl)) rfl fun ac hs=>?_
                  refine s_q hs (c_assign (hs.ev rfl)) rfl fun ac hs=>?_
                  refine s_end (then_n ?_)
                  refine s_cond hs rfl (fun hc=>?_) (fun hc=>?_)
                  · try simp only [decide_eq_true_eq,decide_eq_false_iff_not,Bool.not_eq_true',Bool.not_eq_false',Bool.and_eq_true,Bool.or_eq_true,Bool.or_eq_false_iff] at hc
                    have h4:¬ fl &&& 4=0:=by simpa using hc
                    have hsu:¬ sure=true:=fun e=>h48 ⟨h4,e⟩
                    refine wp_reg ?_
                    refine s_q hs (c_fld fl88_2 (hs.ev rfl)) rfl fun ac hs=>?_
                    refine s_store (i:=1) hs ty4 rfl rfl rfl rfl (by rfl) (by rfl) (by simp [tdC,Value.cells]) (show _=tdC G2 rv true from rfl) fun ww hs=>?_
                    refine s_q hs (c_assign (hs.ev rfl)) rfl fun ac hs=>?_
                    refine s_end ?_
                    have hI2:RI f h many (k + 1) ⟨G2,rv,ps,true,.slice none 0 0,[],(decide (fl &&& 2=0))⟩:=⟨fun h=>absurd h (by omega),fun _=>hgo.trans (by
                      rw [show many - (k + 1)=many - k - 1 by omega,hst,if_neg hl1,if_neg hl2,if_neg hop,if_neg h2,if_pos h4,if_neg hsu,decide_eq_false h2]),Nat.zero_le _,Nat.le_succ_of_le hl2b⟩
                    replace hs:=((hs.nilrow 5 1).pick (L':=[_,_,_,_]) (.cons_cons _ (.cons _ (.cons_cons _ (.cons_cons _ (.cons _ (.refl _))))))).perm (L':=[.seg g8 (tdC (G2) (rv) (true)) 88,Ent.texts 38 (Ent.part 5) (rv) (ps),.row (.slice none 0 0) (([]:List UInt8)).length ((([]:List UInt8)).map B) 5 1,.seg g6 (tdC 0 (.slice none 0 0) false) 88]) (List.Perm.append_right [_] (List.perm_append_comm (l₁:=[_,_]) (l₂:=[_])))
                    refine blk_n (blk_n (then_n (wp_reg ?_)))
                    refine s_q hs (c_addI (hs.ev rfl) (hs.ev rfl) (by omega) (by omega)) rfl fun ac hs=>?_
                    refine s_q hs (c_move (hs.ev rfl)) rfl fun ac hs=>?_
                    refine s_end (then_n ?_)
                    exact ⟨many - (k + 1),by omega,(k + 1,_),⟨by show k + 1≤_; omega,hI2,rfl⟩,St.next hs ⟨rfl,rfl,rfl,rfl,rfl,rfl,rfl,rfl,rfl,trivial⟩ rfl⟩
                  · try simp only [decide_eq_true_eq,decide_eq_false_iff_not,Bool.not_eq_true',Bool.not_eq_false',Bool.and_eq_true,Bool.or_eq_true,Bool.or_eq_false_iff] at hc
                    have h4:¬ ¬ fl &&& 4=0:=by simpa using hc
                    refine wp_reg ?_
                    refine s_q hs (c_fld fl88_1 (hs.ev rfl)) rfl fun ac hs=>?_
                    refine s_q hs (c_loadS un51 rfl (hs.ev rfl) (hs.seg (i:=1) rfl) rfl) rfl fun ac hs=>?_
                    refine s_q hs (c_move (hs.ev rfl)) rfl fun ac hs=>?_
                    refine s_bslice hs un51 ty38 (.cons (hs.ev rfl) .nil) rfl (by simp [Value.cells]) (by decide) rfl rfl fun ac ww g89 hs=>?_
                    refine s_appT (i:=3) (j:=4) hs un51 ty38 rfl rfl rfl rfl rfl (hs.seg (i:=0) rfl) rfl (by omega) rfl fun ac ww v90 hs=>?_
                    obtain ⟨ad90,cap90,rfl,_,_⟩:=Rd.sl (texts_rd (hs.get (i:=3) rfl))
                    refine s_q hs (c_fld fl88_1 (hs.ev rfl)) rfl fun ac hs=>?_
                    refine s_store (i:=2) hs ty51 rfl rfl rfl rfl (by rfl) (by rfl) (by simp [tdC,Value.cells]) (show _=tdC G2 (.slice ad90 (ps++[(Value.slice ad82 (part++(x.drop 8).take m7).length cap82,part++(x.drop 8).take m7)]).length cap90) sure from rfl) fun ww hs=>?_
                    refine s_q hs (c_assign (hs.ev rfl)) rfl fun ac hs=>?_
                    refine s_end ?_
                    have hI2:RI f h many (k + 1) ⟨G2,.slice ad90 (ps++[(Value.slice ad82 (part++(x.drop 8).take m7).length cap82,part++(x.drop 8).take m7)]).length cap90,ps++[(Value.slice ad82 (part++(x.drop 8).take m7).length cap82,part++(x.drop 8).take m7)],sure,.slice none 0 0,[],(decide (fl &&& 2=0))⟩:=⟨fun h=>absurd h (by omega),fun _=>hgo.trans (by
                      rw [show many - (k + 1)=many - k - 1 by omega,hst,if_neg hl1,if_neg hl2,if_neg hop,if_neg h2,if_neg h4,decide_eq_false h2,List.map_append]
                      rfl),Nat.zero_le _,by show (ps++[_]).length≤_; rw [List.length_append]; exact Nat.succ_le_succ hl2b⟩
                    replace hs:=((hs.nilrow 5 1).pick (L':=[_,_,_,_]) (.cons_cons _ (.cons _ (.cons _ (.cons_cons _ (.cons_cons _ (.cons _ (.refl _)))))))).perm (L':=[.seg g8 (tdC (G2) (.slice ad90 (ps++[(Value.slice ad82 (part++(x.drop 8).take m7).length cap82,part++(x.drop 8).take m7)]).length cap90) (sure)) 88,Ent.texts 38 (Ent.part 5) (.slice ad90 (ps++[(Value.slice ad82 (part++(x.drop 8).take m7).length cap82,part++(x.drop 8).take m7)]).length cap90) (ps++[(Value.slice ad82 (part++(x.drop 8).take m7).length cap82,part++(x.drop 8).take m7)]),.row (.slice none 0 0) (([]:List UInt8)).length ((([]:List UInt8)).map B) 5 1,.seg g6 (tdC 0 (.slice none 0 0) false) 88]) (List.Perm.append_right [_] (List.perm_append_comm (l₁:=[_,_]) (l₂:=[_])))
                    refine blk_n (blk_n (then_n (wp_reg ?_)))
                    refine s_q hs (c_addI (hs.ev rfl) (hs.ev rfl) (by omega) (by omega)) rfl fun ac hs=>?_
                    refine s_q hs (c_move (hs.ev rfl)) rfl fun ac hs=>?_
                    refine s_end (then_n ?_)
                    exact ⟨many - (k + 1),by omega,(k + 1,_),⟨by show k + 1≤_; omega,hI2,rfl⟩,St.next hs ⟨rfl,rfl,rfl,rfl,rfl,rfl,rfl,rfl,rfl,trivial⟩ rfl⟩
    · try simp only [decide_eq_true_eq,decide_eq_false_iff_not,Bool.not_eq_true',Bool.not_eq_false',Bool.and_eq_true,Bool.or_eq_true,Bool.or_eq_false_iff] at hc
      have hk0:¬ k=0:=by omega
      have hgo:rdHalf f h many=(rdGo f G (many - k) k (ps.map (·.2)) sure part op).map fun r=>⟨G,r.1,r.2⟩:=hI.on hk0
      obtain ⟨G2,hGG⟩:∃ G2,G=G2:=⟨G,rfl⟩
      rw [hGG] at hs hgo
      refine wp_skip (then_n (wp_seq (wp_seq ?_)))
      have hst:=rd_pow (show ¬ many - k=0 by omega) f G2 k (ps.map (·.2)) sure part op
      rw [hx] at hst
      refine wp_reg ?_
      refine s_q hs (c_loadW ty29 rfl (hs.ev rfl) (hs.seg (i:=0) rfl) (by simp [hx64])) rfl fun ac hs=>?_
      refine s_q hs (c_fld fl88_0 (hs.ev rfl)) rfl fun ac hs=>?_
      refine s_q hs (c_loadS un53 rfl (hs.ev rfl) (hs.seg (i:=1) rfl) rfl) rfl fun ac hs=>?_
      refine s_q hs (c_move (hs.ev rfl)) rfl fun ac hs=>?_
      refine s_call hs fu51 (.cons (hs.ev rfl) (.cons (hs.ev rfl) (.cons (hs.ev rfl) .nil))) (di_look x G2 k hx64 (by omega) (by omega) _) rfl fun ac ww v62 hf hp hs=>?_
      obtain rfl:=hp
      replace hs:=hs [] (.nil _ _)
      refine s_end (then_n (wp_block (wp_seq (wp_reg ?_))))
      refine s_q hs (c_eqlI (hs.ev rfl) (hs.ev rfl)) rfl fun ac hs=>?_
      refine s_q hs (c_assign (hs.ev rfl)) rfl fun ac hs=>?_
      refine s_end (then_n ?_)
      refine s_cond hs rfl (fun hc=>?_) (fun hc=>?_)
      · try simp only [decide_eq_true_eq,decide_eq_false_iff_not,Bool.not_eq_true',Bool.not_eq_false',Bool.and_eq_true,Bool.or_eq_true,Bool.or_eq_false_iff] at hc
        have hl1:lookS x G2 k=1:=hc
        have hres:rdHalf f h many=some ⟨G2,ps.map (·.2),sure⟩:=hgo.trans (by rw [hst,if_pos hl1]; rfl)
        replace hs:=hs.pick (L':=[_,_,_,_]) (.cons _ (.refl _))
        refine wp_exit (blk_miss rfl (then_e (blk_miss rfl (then_e (then_e (blk_hit (then_n (wp_seq (wp_reg ?_)))))))))
        obtain ⟨rad,rcap,rfl,_,_⟩:=Rd.sl (texts_rd (hs.get (i:=1) rfl))
        refine s_q hs (c_loadW ty88 ag88 (hs.ev rfl) (hs.seg (i:=0) rfl) (by rfl)) rfl fun ac hs=>?_
        refine s_storeW (i:=3) hs ty88 rfl rfl rfl (by rfl) (by rfl) (by rfl) fun ww hs=>?_
        refine s_q hs (c_assign (hs.ev rfl)) rfl fun ac hs=>?_
        refine s_end ?_
        replace hs:=hs.sub (F':=[(6,_),(7,_)]) ⟨rfl,rfl,trivial⟩
        refine then_n (wp_ret ?_)
        refine sc_r ?_
        refine s_ret hs rfl (.cell (hs.tmp rfl) (run_loadA ty88 ag88 (hs.seg (i:=3) rfl) rfl (by rfl)) (.tmp (hs.tmp rfl) .nil)) rfl ⟨_,rfl,hs.fr,?_⟩
        rw [hres]
        exact ⟨_,ps,rfl,rfl,(hs.pick (L':=[_]) (.cons _ (.cons_cons _ (List.nil_sublist _)))).made⟩
      · try simp only [decide_eq_true_eq,decide_eq_false_iff_not,Bool.not_eq_true',Bool.not_eq_false',Bool.and_eq_true,Bool.or_eq_true,Bool.or_eq_false_iff] at hc
        have hl1:¬ lookS x G2 k=1:=hc
        refine wp_seq (wp_reg ?_)
        refine s_q hs (c_eqlI (hs.ev rfl) (hs.ev rfl)) rfl fun ac hs=>?_
        refine s_q hs (c_assign (hs.ev rfl)) rfl fun ac hs=>?_
        refine s_end (then_n ?_)
        refine s_cond hs rfl (fun hc=>?_) (fun hc=>?_)
        · try simp only [decide_eq_true_eq,decide_eq_false_iff_not,Bool.not_eq_true',Bool.not_eq_false',Bool.and_eq_true,Bool.or_eq_true,Bool.or_eq_false_iff] at hc
          have hl2:lookS x G2 k=2:=hc
          refine wp_seq (wp_reg ?_)
          refine s_q hs (c_buildS (zc:=tdC 0 (.slice none 0 0) false) ty88 bp88 .nil trivial (by simp [flatCells,Value.cells]) rfl) rfl fun ac hs=>?_
          refine s_storeW (i:=4) hs ty88 rfl rfl rfl (by rfl) (by rfl) (by rfl) fun ww hs=>?_
          refine s_q hs (c_assign (hs.ev rfl)) rfl fun ac hs=>?_
          refine s_end (then_n (wp_ret (blk_r (then_r (blk_r (then_r (then_r (blk_r (then_r ?_)))))))))
          refine sc_r ?_
          refine s_ret hs rfl (.cell (hs.tmp rfl) (run_loadA ty88 ag88 (hs.seg (i:=4) rfl) rfl (by rfl)) (.tmp (hs.tmp rfl) .nil)) rfl ⟨_,rfl,hs.fr,?_⟩
          rw [hgo.trans (by rw [hst,if_neg hl1,if_pos hl2])]
          rfl
        · try simp only [decide_eq_true_eq,decide_eq_false_iff_not,Bool.not_eq_true',Bool.not_eq_false',Bool.and_eq_true,Bool.or_eq_true,Bool.or_eq_false_iff] at hc
          have hl2:¬ lookS x G2 k=2:=hc
          obtain ⟨m7,hm7⟩:∃ m7,(x.getD 7 0).toNat=m7:=⟨_,rfl⟩
          have hm50:m7≤50:=hm7 ▸ look_len hl1 hl2
          obtain ⟨fl,hfl⟩:∃ fl,x.getD 6 0=fl:=⟨_,rfl⟩
          rw [hfl,hm7] at hst
          refine wp_skip (blk_n (then_n (wp_seq (wp_reg ?_))))
          refine s_q hs (c_idxA (j:=6) un29 ty5 (hs.ev rfl) (hs.ev rfl) rfl (by decide)) rfl fun ac hs=>?_
          refine s_q hs (c_to (c_loadS un5 rfl (hs.ev rfl) (hs.seg (i:=0) rfl) (getB (by omega))) ((congrArg B hfl))) rfl fun ac hs=>?_
          refine s_q hs (c_assign (hs.ev rfl)) rfl fun ac hs=>?_
          refine s_end (then_n (wp_seq (wp_seq (wp_reg ?_))))
          refine s_q hs (c_move (hs.ev rfl)) rfl fun ac hs=>?_
          refine s_q hs (c_andB (hs.ev rfl) (St.ev (v:=B 1) hs rfl)) rfl fun ac hs=>?_
          refine s_q hs (c_neqB (hs.ev rfl) (St.ev (v:=B 0) hs rfl)) rfl fun ac hs=>?_
          refine s_q hs (c_move (hs.ev rfl)) rfl fun ac hs=>?_
          refine s_q hs (c_eqlbool un4 (hs.ev rfl) (hs.ev rfl)) rfl fun ac hs=>?_
          refine s_end (then_n ?_)
          refine s_cond hs rfl (fun hc=>?_) (fun hc=>?_)
          · skip
            have hop:decide (¬ fl &&& 1=0)=op:=by
              rw [decide_not]
              simpa using hc
            refine wp_seq (wp_reg ?_)
            refine s_q hs (c_buildS (zc:=tdC 0 (.slice none 0 0) false) ty88 bp88 .nil trivial (by simp [flatCells,Value.cells]) rfl) rfl fun ac hs=>?_
            refine s_storeW (i:=4) hs ty88 rfl rfl rfl (by rfl) (by rfl) (by rfl) fun ww hs=>?_
            refine s_q hs (c_assign (hs.ev rfl)) rfl fun ac hs=>?_
            refine s_end (then_n (wp_ret (then_r (blk_r (then_r (then_r (blk_r (then_r ?_))))))))
            refine sc_r ?_
            refine s_ret hs rfl (.cell (hs.tmp rfl) (run_loadA ty88 ag88 (hs.seg (i:=4) rfl) rfl (by rfl)) (.tmp (hs.tmp rfl) .nil)) rfl ⟨_,rfl,hs.fr,?_⟩
            rw [hgo.trans (by rw [hst,if_neg hl1,if_neg hl2,if_pos hop])]
            rfl
          · skip
            have hop:¬ decide (¬ fl &&& 1=0)=op:=by
              rw [decide_not]
              simpa using hc
            refine wp_skip (then_n (wp_seq (wp_reg ?_)))
            refine s_q hs (c_move (hs.ev rfl)) rfl fun ac hs=>?_
            refine s_q hs (c_idxA (j:=7) un29 ty5 (hs.ev rfl) (hs.ev rfl) rfl (by decide)) rfl fun ac hs=>?_
            refine s_q hs (c_loadS un5 rfl (hs.ev rfl) (hs.seg (i:=0) rfl) (getB (by omega))) rfl fun ac hs=>?_
            refine s_q hs (c_to (c_cvBI un5 un3 (hs.ev rfl)) ((congrArg (fun n:Nat=>I (n:Int)) hm7))) rfl fun ac hs=>?_
            refine s_q hs (c_to (c_addI (hs.ev rfl) (hs.ev rfl) (by omega) (by omega)) ((congrArg I (show _=((8 + m7:Nat):Int) by omega)))) rfl fun ac hs=>?_
            refine s_q hs (c_sliceAS (i:=8) (j:=8 + m7) un29 ty5 (hs.ev rfl) (hs.ev rfl) (hs.ev rfl) rfl rfl (by omega) (by omega) (by decide)) rfl fun ac hs=>?_
            refine s_appB (i:=3) hs un38 ty5 rfl rfl rfl (RdB.midD (hs.seg (i:=0) rfl) hx64 hm50) (by simp; omega) rfl fun ac ww v82 hf hnil hs=>?_
            obtain ⟨ad82,cap82,rfl,_,_⟩:=Rd.sl (Rd.of_row (hs.get (i:=3) rfl))
            have hl3:(part++(x.drop 8).take m7).length≤50 * (k + 1):=by rw [List.length_append,List.length_take]; omega
            refine s_q hs (c_move (hs.ev rfl)) rfl fun ac hs=>?_
            refine s_q hs (c_andB (hs.ev rfl) (St.ev (v:=B 2) hs rfl)) rfl fun ac hs=>?_
            refine s_q hs (c_eqlB (hs.ev rfl) (St.ev (v:=B 0) hs rfl)) rfl fun ac hs=>?_
            refine s_q hs (c_assign (hs.ev rfl)) rfl fun ac hs=>?_
            refine s_q hs (c_assign (hs.ev rfl)) rfl fun ac hs=>?_
            refine s_end (then_n (wp_block (wp_seq (wp_reg ?_))))
            refine s_q hs (c_move (hs.ev rfl)) rfl fun ac hs=>?_
            refine s_q hs (c_assign (hs.ev rfl)) rfl fun ac hs=>?_
            refine s_end (then_n ?_)
            refine s_cond hs rfl (fun hc=>?_) (fun hc=>?_)
            · try simp only [decide_eq_true_eq,decide_eq_false_iff_not,Bool.not_eq_true',Bool.not_eq_false',Bool.and_eq_true,Bool.or_eq_true,Bool.or_eq_false_iff] at hc
              have h2:fl &&& 2=0:=hc
              have hI2:RI f h many (k + 1) ⟨G2,rv,ps,sure,.slice ad82 (part++(x.drop 8).take m7).length cap82,part++(x.drop 8).take m7,(decide (fl &&& 2=0))⟩:=⟨fun h=>absurd h (by omega),fun _=>hgo.trans (by
                rw [show many - (k + 1)=many - k - 1 by omega,hst,if_neg hl1,if_neg hl2,if_neg hop,if_pos h2,decide_eq_true h2]),hl3,Nat.le_succ_of_le hl2b⟩
              replace hs:=hs.pick (L':=[_,_,_,_]) (.cons _ (.refl _))
              refine wp_skip (blk_n (blk_n (then_n (wp_reg ?_))))
              refine s_q hs (c_addI (hs.ev rfl) (hs.ev rfl) (by omega) (by omega)) rfl fun ac hs=>?_
              refine s_q hs (c_move (hs.ev rfl)) rfl fun ac hs=>?_
              refine s_end (then_n ?_)
              exact ⟨many - (k + 1),by omega,(k + 1,_),⟨by show k + 1≤_; omega,hI2,rfl⟩,St.next hs ⟨rfl,rfl,rfl,rfl,rfl,rfl,rfl,rfl,rfl,trivial⟩ rfl⟩
            · try simp only [decide_eq_true_eq,decide_eq_false_iff_not,Bool.not_eq_true',Bool.not_eq_false',Bool.and_eq_true,Bool.or_eq_true,Bool.or_eq_false_iff] at hc
              have h2:¬ fl &&& 2=0:=hc
              refine wp_seq (wp_reg ?_)
              refine s_q hs (c_move (hs.ev rfl)) rfl fun ac hs=>?_
              refine s_q hs (c_andB (hs.ev rfl) (St.ev (v:=B 4) hs rfl)) rfl fun ac hs=>?_
              refine s_q hs (c_neqB (hs.ev rfl) (St.ev (v:=B 0) hs rfl)) rfl fun ac hs=>?_
              refine s_q hs (c_move (hs.ev rfl)) rfl fun ac hs=>?_
              refine s_g hs rfl rfl (fun hg=>c_fld fl88_2 (hs.ev rfl)) rfl fun ac hs=>?_
              refine s_g hs rfl rfl (fun hg=>c_loadS un4 rfl (gev (hs.ev rfl) hg) (hs.seg (i:=1) rfl) rfl) rfl fun ac hs=>?_
              refine s_q hs (c_and (hs.ev rfl) (hs.ev rfl)) rfl fun ac hs=>?_
              refine s_q hs (c_assign (hs.ev rfl)) rfl fun ac hs=>?_
              refine s_end (then_n ?_)
              refine s_cond hs rfl (fun hc=>?_) (fun hc=>?_)
              · skip
                have h48:¬ fl &&& 4=0∧sure=true:=by simpa using hc
                refine wp_seq (wp_reg ?_)
                refine s_q hs (c_buildS (zc:=tdC 0 (.slice none 0 0) false) ty88 bp88 .nil trivial (by simp [flatCells,Value.cells]) rfl) rfl fun ac hs=>?_
                refine s_storeW (i:=4) hs ty88 rfl rfl rfl (by rfl) (by rfl) (by rfl) fun ww hs=>?_
                refine s_q hs (c_assign (hs.ev rfl)) rfl fun ac hs=>?_
                refine s_end (then_n (wp_ret (blk_r (blk_r (then_r (then_r (blk_r (then_r ?_))))))))
                refine sc_r ?_
                refine s_ret hs rfl (.cell (hs.tmp rfl) (run_loadA ty88 ag88 (hs.seg (i:=4) rfl) rfl (by rfl)) (.tmp (hs.tmp rfl) .nil)) rfl ⟨_,rfl,hs.fr,?_⟩
                rw [hgo.trans (by rw [hst,if_neg hl1,if_neg hl2,if_neg hop,if_neg h2,if_pos h48.1,if_pos h48.2])]
                rfl
              · skip
                have h48:¬ (¬ fl &&& 4=0∧sure=true):=by
                  intro h9
                  simp [h9.1,h9.2] at hc
                refine wp_seq (wp_reg ?_)
                refine s_q hs (c_move (hs.ev rfl)) rfl fun ac hs=>?_
                refine s_q hs (c_andB (hs.ev rfl) (St.ev (v:=B 4) hs rfl)) rfl fun ac hs=>?_
                refine s_q hs (c_neqB (hs.ev rfl) (St.ev (v:=B 0) hs rfl)) rfl fun ac hs=>?_
                refine s_q hs (c_assign (hs.ev rfl)) rfl fun ac hs=>?_
                refine s_end (then_n ?_)
                refine s_cond hs rfl (fun hc=>?_) (fun hc=>?_)
                · try simp only [decide_eq_true_eq,decide_eq_false_iff_not,Bool.not_eq_true',Bool.not_eq_false',Bool.and_eq_true,Bool.or_eq_true,Bool.or_eq_false_iff] at hc
                  have h4:¬ fl &&& 4=0:=by simpa using hc
                  have hsu:¬ sure=true:=fun e=>h48 ⟨h4,e⟩
                  refine wp_reg ?_
                  refine s_q hs (c_fld fl88_2 (hs.ev rfl)) rfl fun ac hs=>?_
                  refine s_store (i:=1) hs ty4 rfl rfl rfl rfl (by rfl) (by rfl) (by simp [tdC,Value.cells]) (show _=tdC G2 rv true from rfl) fun ww hs=>?_
                  refine s_q hs (c_assign (hs.ev rfl)) rfl fun ac hs=>?_
                  refine s_end ?_
                  have hI2:RI f h many (k + 1) ⟨G2,rv,ps,true,.slice none 0 0,[],(decide (fl &&& 2=0))⟩:=⟨fun h=>absurd h (by omega),fun _=>hgo.trans (by
                    rw [show many - (k + 1)=many - k - 1 by omega,hst,if_neg hl1,if_neg hl2,if_neg hop,if_neg h2,if_pos h4,if_neg hsu,decide_eq_false h2]),Nat.zero_le _,Nat.le_succ_of_le hl2b⟩
                  replace hs:=((hs.nilrow 5 1).pick (L':=[_,_,_,_]) (.cons_cons _ (.cons _ (.cons_cons _ (.cons_cons _ (.cons _ (.refl _))))))).perm (L':=[.seg g8 (tdC (G2) (rv) (true)) 88,Ent.texts 38 (Ent.part 5) (rv) (ps),.row (.slice none 0 0) (([]:List UInt8)).length ((([]:List UInt8)).map B) 5 1,.seg g6 (tdC 0 (.slice none 0 0) false) 88]) (List.Perm.append_right [_] (List.perm_append_comm (l₁:=[_,_]) (l₂:=[_])))
                  refine blk_n (blk_n (then_n (wp_reg ?_)))
                  refine s_q hs (c_addI (hs.ev rfl) (hs.ev rfl) (by omega) (by omega)) rfl fun ac hs=>?_
                  refine s_q hs (c_move (hs.ev rfl)) rfl fun ac hs=>?_
                  refine s_end (then_n ?_)
                  exact ⟨many - (k + 1),by omega,(k + 1,_),⟨by show k + 1≤_; omega,hI2,rfl⟩,St.next hs ⟨rfl,rfl,rfl,rfl,rfl,rfl,rfl,rfl,rfl,trivial⟩ rfl⟩
                · try simp only [decide_eq_true_eq,decide_eq_false_iff_not,Bool.not_eq_true',Bool.not_eq_false',Bool.and_eq_true,Bool.or_eq_true,Bool.or_eq_false_iff] at hc
                  have h4:¬ ¬ fl &&& 4=0:=by simpa using hc
                  refine wp_reg ?_
                  refine s_q hs (c_fld fl88_1 (hs.ev rfl)) rfl fun ac hs=>?_
                  refine s_q hs (c_loadS un51 rfl (hs.ev rfl) (hs.seg (i:=1) rfl) rfl) rfl fun ac hs=>?_
                  refine s_q hs (c_move (hs.ev rfl)) rfl fun ac hs=>?_
                  refine s_bslice hs un51 ty38 (.cons (hs.ev rfl) .nil) rfl (by simp [Value.cells]) (by decide) rfl rfl fun ac ww g89 hs=>?_
                  refine s_appT (i:=3) (j:=4) hs un51 ty38 rfl rfl rfl rfl rfl (hs.seg (i:=0) rfl) rfl (by omega) rfl fun ac ww v90 hs=>?_
                  obtain ⟨ad90,cap90,rfl,_,_⟩:=Rd.sl (texts_rd (hs.get (i:=3) rfl))
                  refine s_q hs (c_fld fl88_1 (hs.ev rfl)) rfl fun ac hs=>?_
                  refine s_store (i:=2) hs ty51 rfl rfl rfl rfl (by rfl) (by rfl) (by simp [tdC,Value.cells]) (show _=tdC G2 (.slice ad90 (ps++[(Value.slice ad82 (part++(x.drop 8).take m7).length cap82,part++(x.drop 8).take m7)]).length cap90) sure from rfl) fun ww hs=>?_
                  refine s_q hs (c_assign (hs.ev rfl)) rfl fun ac hs=>?_
                  refine s_end ?_
                  have hI2:RI f h many (k + 1) ⟨G2,.slice ad90 (ps++[(Value.slice ad82 (part++(x.drop 8).take m7).length cap82,part++(x.drop 8).take m7)]).length cap90,ps++[(Value.slice ad82 (part++(x.drop 8).take m7).length cap82,part++(x.drop 8).take m7)],sure,.slice none 0 0,[],(decide (fl &&& 2=0))⟩:=⟨fun h=>absurd h (by omega),fun _=>hgo.trans (by
                    rw [show many - (k + 1)=many - k - 1 by omega,hst,if_neg hl1,if_neg hl2,if_neg hop,if_neg h2,if_neg h4,decide_eq_false h2,List.map_append]
                    rfl),Nat.zero_le _,by show (ps++[_]).length≤_; rw [List.length_append]; exact Nat.succ_le_succ hl2b⟩
                  replace hs:=((hs.nilrow 5 1).pick (L':=[_,_,_,_]) (.cons_cons _ (.cons _ (.cons _ (.cons_cons _ (.cons_cons _ (.cons _ (.refl _)))))))).perm (L':=[.seg g8 (tdC (G2) (.slice ad90 (ps++[(Value.slice ad82 (part++(x.drop 8).take m7).length cap82,part++(x.drop 8).take m7)]).length cap90) (sure)) 88,Ent.texts 38 (Ent.part 5) (.slice ad90 (ps++[(Value.slice ad82 (part++(x.drop 8).take m7).length cap82,part++(x.drop 8).take m7)]).length cap90) (ps++[(Value.slice ad82 (part++(x.drop 8).take m7).length cap82,part++(x.drop 8).take m7)]),.row (.slice none 0 0) (([]:List UInt8)).length ((([]:List UInt8)).map B) 5 1,.seg g6 (tdC 0 (.slice none 0 0) false) 88]) (List.Perm.append_right [_] (List.perm_append_comm (l₁:=[_,_]) (l₂:=[_])))
                  refine blk_n (blk_n (then_n (wp_reg ?_)))
                  refine s_q hs (c_addI (hs.ev rfl) (hs.ev rfl) (by omega) (by omega)) rfl fun ac hs=>?_
                  refine s_q hs (c_move (hs.ev rfl)) rfl fun ac hs=>?_
                  refine s_end (then_n ?_)
                  exact ⟨many - (k + 1),by omega,(k + 1,_),⟨by show k + 1≤_; omega,hI2,rfl⟩,St.next hs ⟨rfl,rfl,rfl,rfl,rfl,rfl,rfl,rfl,rfl,trivial⟩ rfl⟩
  · try simp only [decide_eq_true_eq,decide_eq_false_iff_not,Bool.not_eq_true',Bool.not_eq_false',Bool.and_eq_true,Bool.or_eq_true,Bool.or_eq_false_iff] at hc
    obtain rfl:k=many:=by omega
    have hres:rdHalf f h k=some ⟨G,ps.map (·.2),sure⟩:=by
      by_cases h0:k=0
      · obtain ⟨e1,e2,e3,e4,e5⟩:=hI.at0 h0
        rw [rdHalf,if_pos (.inl h0),show G=0 from e5,show ps=[] from e1,show sure=false from e2]
        rfl
      · rw [hI.on h0,Nat.sub_self]
        rfl
    obtain ⟨G2,hGG⟩:∃ G2,G=G2:=⟨G,rfl⟩
    rw [hGG] at hs hres
    refine wp_exit (then_e (then_e (blk_hit (then_n (wp_seq (wp_reg ?_))))))
    obtain ⟨rad,rcap,rfl,_,_⟩:=Rd.sl (texts_rd (hs.get (i:=1) rfl))
    refine s_q hs (c_loadW ty88 ag88 (hs.ev rfl) (hs.seg (i:=0) rfl) (by rfl)) rfl fun ac hs=>?_
    refine s_storeW (i:=3) hs ty88 rfl rfl rfl (by rfl) (by rfl) (by rfl) fun ww hs=>?_
    refine s_q hs (c_assign (hs.ev rfl)) rfl fun ac hs=>?_
    refine s_end ?_
    replace hs:=hs.sub (F':=[(6,_),(7,_)]) ⟨rfl,rfl,trivial⟩
    refine then_n (wp_ret ?_)
    refine sc_r ?_
    refine s_ret hs rfl (.cell (hs.tmp rfl) (run_loadA ty88 ag88 (hs.seg (i:=3) rfl) rfl (by rfl)) (.tmp (hs.tmp rfl) .nil)) rfl ⟨_,rfl,hs.fr,?_⟩
    rw [hres]
    exact ⟨_,ps,rfl,rfl,(hs.pick (L':=[_]) (.cons _ (.cons_cons _ (List.nil_sublist _)))).made⟩
end Go.Proofs.Ytkecdcmjkghddaa
end

section
/- The diary: Load. -/
namespace Go.Proofs.Ytkecdcmjkghddaa
open Go Go.Fw
def nextG (gen be:UInt32):UInt32:=if gen.toNat < be.toNat then be + 2 else gen + 1
def dload:Option Td→Option Td→Int × UInt32 × List (List UInt8)
  | none,_=>(31,0,[])
  | some _,none=>(31,0,[])
  | some e,some o=>if e.sure=true∧(¬ o.sure=true∨o.gen.toNat < e.gen.toNat) then (0,nextG e.gen o.gen,e.recs) else if o.sure=true then (0,nextG o.gen e.gen,o.recs) else
    if 0 < e.gen.toNat then (31,0,[]) else if 0 < o.gen.toNat then (0,o.gen + 2,[]) else (0,1,[])
def tdH (s:Sl) (h:Nat):Option Td:=rdHalf (fun k=>vis s (h * (s.n / 2) + k)) h (s.n / 2)
structure TV where
  g:UInt32
  rv:Value
  ps:List (Value × List UInt8)
  b:Bool
def TV.td (t:TV):Td:=⟨t.g,t.ps.map (·.2),t.b⟩
def TV.z:TV:=⟨0,.slice none 0 0,[],false⟩
def TV.c (t:TV):List Value:=tdC t.g t.rv t.b
def LdTo (w w':World) (v:Value) (r:Int × UInt32 × List (List UInt8)):Prop:=∃ rv ps,v=.tuple #[rv,U r.2.1,I r.1]∧ps.map (·.2)=r.2.2∧Has w.heap.size w' [Ent.texts 38 (Ent.part 5) rv ps]
theorem tv_one {E T:TypeId} {t:TV} {w:World} (h:(Ent.texts E (Ent.part T) t.rv t.ps).holds w):t.c.all (·.oneCell')=true:=by
  obtain ⟨ad,cap,e,_⟩:=Rd.sl (texts_rd h)
  simp [TV.c,tdC,e,Value.oneCell',U]
theorem LdTo.nil {N:Nat} {F:List (Nat × Value)} {L:List Ent} {w0 w:World} {a:Act} {v:Value} {e:Int} {g:UInt32} (hs:St N F L (fun _=>False) w0 a w) (hv:v=.tuple #[.slice none 0 0,U g,I e]):LdTo w0 w v (e,g,[]) :=
  ⟨.slice none 0 0,[],hv,rfl,((hs.texts0 38 (Ent.part 5)).pick (L':=[_]) (.cons_cons _ (List.nil_sublist _))).made⟩
structure LI (s:Sl) (k:Nat) (c0 c1:TV):Prop where
  a0:1≤k→tdH s 0=some c0.td
  a1:2≤k→tdH s 1=some c1.td
theorem di_Load (g sb:Nat) (qv:Value) (s:Sl) (hok:s.Ok) (hup:s.down=false) (h2:2≤s.n) (w:World) (hR:SlR w g sb qv s):Ctr Try.prog 30 [.pointer (some ⟨g,0,none⟩)] w (fun _=>False) (fun v w'=>LdTo w w' v (dload (tdH s 0) (tdH s 1))):=by
  have hn1:=hok.n1
  have hh0:half s.n 0=0 * (s.n / 2):=rfl
  have hh1:half s.n 1=1 * (s.n / 2):=rfl
  refine fn_start (N:=90) Try.func30 rfl rfl rfl fun ac hk=>?_
  have hs:=St.start hk w
  refine wp_seq (wp_reg ?_)
  refine s_q hs (c_assign (hs.ev rfl)) rfl fun ac hs=>?_
  refine s_q hs (c_assign (St.ev (v:=U 0) hs rfl)) rfl fun ac hs=>?_
  refine s_q hs (c_assign (hs.ev rfl)) rfl fun ac hs=>?_
  refine s_end (then_n (wp_seq (wp_block (wp_seq (wp_reg ?_)))))
  refine s_q hs (c_move (hs.ev rfl)) rfl fun ac hs=>?_
  refine s_q hs (c_eqlNil un23 (hs.ev rfl) (hs.ev rfl)) rfl fun ac hs=>?_
  refine s_q hs (c_assign (hs.ev rfl)) rfl fun ac hs=>?_
  refine s_end ?_
  replace hs:=hs.sub (F':=[(0,_),(2,_),(3,_),(4,_),(13,_)]) ⟨rfl,rfl,rfl,rfl,rfl,trivial⟩
  refine then_n ?_
  refine wp_cond_false (hs.ev rfl) ?_
  refine wp_seq (wp_reg ?_)
  refine s_q hs (c_move (hs.ev rfl)) rfl fun ac hs=>?_
  refine s_call hs fu20 (.cons (hs.ev rfl) .nil) (sl_Sectors g sb qv s _ (hR.fr0 hs.fr)) rfl fun ac ww v18 hf hp hs=>?_
  obtain rfl:=hp
  replace hs:=hs [] (.nil _ _)
  refine s_q hs (c_ff (c_lssI (hs.ev rfl) (hs.ev rfl)) ((by simp; omega))) rfl fun ac hs=>?_
  refine s_q hs (c_assign (hs.ev rfl)) rfl fun ac hs=>?_
  refine s_end ?_
  replace hs:=hs.sub (F':=[(0,_),(2,_),(3,_),(4,_),(16,_)]) ⟨rfl,rfl,rfl,rfl,rfl,trivial⟩
  refine then_n ?_
  refine wp_cond_false (hs.ev rfl) ?_
  refine wp_skip (blk_n (then_n (wp_seq (wp_reg ?_))))
  refine s_alloc hs ty89 rfl fun ac ww g5 hs=>?_
  refine s_end ?_
  replace hs:=((hs.texts0 38 (Ent.part 5)).texts0 38 (Ent.part 5))
  replace hs:=hs.sub (F':=[(0,_),(2,_),(3,_),(4,_),(5,_)]) ⟨rfl,rfl,rfl,rfl,rfl,trivial⟩
  refine then_n (wp_seq (wp_seq (wp_reg ?_)))
  refine s_q hs (c_move (St.ev (v:=U 0) hs rfl)) rfl fun ac hs=>?_
  refine s_end (then_n (wp_block ?_))
  refine s_loop hs (X:=Nat × TV × TV) (fun z=>[(20,U (UInt32.ofNat z.1))]) [(0,_),(5,_)] (fun z=>[Ent.texts 38 (Ent.part 5) (z.2.2).rv (z.2.2).ps,Ent.texts 38 (Ent.part 5) (z.2.1).rv (z.2.1).ps,.seg g5 ((z.2.1).c++(z.2.2).c) 89]) (fun n z=>z.1≤2∧LI s z.1 z.2.1 z.2.2∧n=2 - z.1) (_) ((0,TV.z,TV.z)) (⟨Nat.zero_le _,⟨fun h=>absurd h (by decide),fun h=>absurd h (by decide)⟩,rfl⟩) ⟨rfl,rfl,rfl,trivial⟩ rfl ?_
  rintro n ⟨k,c0,c1⟩ ac ww hok2 hs
  simp only [List.cons_append,List.nil_append] at hs
  obtain ⟨hk,hI,rfl⟩:=hok2
  replace hk:k≤2:=hk
  replace hI:LI s k c0 c1:=hI
  refine wp_seq (wp_reg ?_)
  refine s_q hs (c_lssU (hs.ev rfl) (St.ev (v:=U 2) hs rfl)) rfl fun ac hs=>?_
  refine s_end (then_n (wp_seq ?_))
  refine s_cond hs rfl (fun hc=>?_) (fun hc=>?_)
  · skip
    have hk2:k < 2:=by
      have h9:(UInt32.ofNat k).toNat=k:=by rw [UInt32.toNat_ofNat']; omega
      simp only [decide_eq_true_eq] at hc
      rw [h9] at hc
      exact hc
    refine wp_skip (then_n (wp_seq (wp_block (wp_seq (wp_reg ?_)))))
    rcases (show k=0∨k=1 by omega) with rfl | rfl
    · refine s_q hs (c_move (hs.ev rfl)) rfl fun ac hs=>?_
      refine s_q hs (c_assign (hs.ev rfl)) rfl fun ac hs=>?_
      refine s_end (then_n (wp_seq (wp_reg ?_)))
      refine s_q hs (c_move (hs.ev rfl)) rfl fun ac hs=>?_
      refine s_q hs (c_move (hs.ev rfl)) rfl fun ac hs=>?_
      refine s_call hs fu44 (.cons (hs.ev rfl) (.cons (hs.ev rfl) .nil)) (di_half g sb qv s 0 hn1 _ (hR.fr0 hs.fr)) rfl fun ac ww v26 hf hp hs=>?_
      obtain rfl:=hp
      replace hs:=hs [] (.nil _ _)
      refine s_q hs (c_move (hs.ev rfl)) rfl fun ac hs=>?_
      refine s_q hs (c_extract (hs.ev rfl) rfl) rfl fun ac hs=>?_
      refine s_q hs (c_extract (hs.ev rfl) rfl) rfl fun ac hs=>?_
      refine s_q hs (c_assign (hs.ev rfl)) rfl fun ac hs=>?_
      refine s_q hs (c_assign (hs.ev rfl)) rfl fun ac hs=>?_
      refine s_end (then_n (wp_seq (wp_reg ?_)))
      rcases hr:tdH s 0 with _ | td
      · refine s_q hs (c_move (hs.ev rfl)) rfl fun ac hs=>?_
        refine s_q hs (c_move (hs.ev rfl)) rfl fun ac hs=>?_
        refine s_q hs (c_move (hs.ev rfl)) rfl fun ac hs=>?_
        refine s_call hs fu45 (.cons (hs.ev rfl) (.cons (hs.ev rfl) (.cons (hs.ev rfl) .nil))) (di_read g sb qv s (half s.n 0) (s.n / 2) 0 (fun i=>vis s (0 * (s.n / 2) + i)) hok hup (by rw [hh0]; omega) (by rw [hh0]; intro h9; first | exact Nat.zero_div _ | (rw [Nat.one_mul]; exact Nat.div_self h9) | (rw [Nat.zero_mul]; exact Nat.zero_div _)) (fun i=>by rw [hh0]) _ (hR.fr0 hs.fr)) rfl fun ac ww v33 hf hp hs=>?_
        rw [show rdHalf _ 0 (s.n / 2)=tdH s 0 from rfl,hr] at hp
        replace hp:v33=.tuple #[.agg (tdC 0 (.slice none 0 0) false).toArray,I 31]:=hp
        obtain rfl:=hp
        replace hs:=hs [] (.nil _ _)
        refine s_q hs (c_move (hs.ev rfl)) rfl fun ac hs=>?_
        refine s_q hs (c_extract (hs.ev rfl) rfl) rfl fun ac hs=>?_
        refine s_q hs (c_extract (hs.ev rfl) rfl) rfl fun ac hs=>?_
        refine s_alloc hs ty88 rfl fun ac ww g9 hs=>?_
        refine s_storeW (i:=0) hs ty88 rfl rfl rfl (by rfl) (by rfl) (by rfl) fun ww hs=>?_
        refine s_q hs (c_assign (hs.ev rfl)) rfl fun ac hs=>?_
        refine s_end (then_n (wp_seq (wp_seq (wp_reg ?_))))
        refine s_q hs (c_move (hs.ev rfl)) rfl fun ac hs=>?_
        refine s_q hs (c_neqI (hs.ev rfl) (hs.ev rfl)) rfl fun ac hs=>?_
        refine s_end (then_n ?_)
        refine wp_cond_true (hs.ev rfl) ?_
        refine wp_seq (wp_reg ?_)
        refine s_q hs (c_move (hs.ev rfl)) rfl fun ac hs=>?_
        refine s_q hs (c_assign (hs.ev rfl)) rfl fun ac hs=>?_
        refine s_q hs (c_assign (St.ev (v:=U 0) hs rfl)) rfl fun ac hs=>?_
        refine s_q hs (c_assign (hs.ev rfl)) rfl fun ac hs=>?_
        refine s_end (then_n (wp_ret (then_r (blk_r (then_r (then_r (blk_r (then_r ?_))))))))
        refine s_ret hs rfl (.tmp (hs.tmp rfl) (.tmp (hs.tmp rfl) (.tmp (hs.tmp rfl) .nil))) rfl ⟨_,rfl,hs.fr,?_⟩
        exact LdTo.nil hs rfl
      · refine s_q hs (c_move (hs.ev rfl)) rfl fun ac hs=>?_
        refine s_q hs (c_move (hs.ev rfl)) rfl fun ac hs=>?_
        refine s_q hs (c_move (hs.ev rfl)) rfl fun ac hs=>?_
        refine s_call hs fu45 (.cons (hs.ev rfl) (.cons (hs.ev rfl) (.cons (hs.ev rfl) .nil))) (di_read g sb qv s (half s.n 0) (s.n / 2) 0 (fun i=>vis s (0 * (s.n / 2) + i)) hok hup (by rw [hh0]; omega) (by rw [hh0]; intro h9; first | exact Nat.zero_div _ | (rw [Nat.one_mul]; exact Nat.div_self h9) | (rw [Nat.zero_mul]; exact Nat.zero_div _)) (fun i=>by rw [hh0]) _ (hR.fr0 hs.fr)) rfl fun ac ww v33 hf hp hs=>?_
        rw [show rdHalf _ 0 (s.n / 2)=tdH s 0 from rfl,hr] at hp
        obtain ⟨rv,ps,rfl,hps,hh⟩:=hp
        replace hs:=hs _ hh
        refine s_q hs (c_move (hs.ev rfl)) rfl fun ac hs=>?_
        refine s_q hs (c_extract (hs.ev rfl) rfl) rfl fun ac hs=>?_
        refine s_q hs (c_extract (hs.ev rfl) rfl) rfl fun ac hs=>?_
        refine s_alloc hs ty88 rfl fun ac ww g9 hs=>?_
        refine s_storeW (i:=0) hs ty88 rfl rfl rfl (by rfl) (tv_one (t:=(TV.mk td.gen rv ps td.sure)) (hs.get (i:=1) rfl)) (by rfl) fun ww hs=>?_
        refine s_q hs (c_assign (hs.ev rfl)) rfl fun ac hs=>?_
        refine s_end (then_n (wp_seq (wp_seq (wp_reg ?_))))
        refine s_q hs (c_move (hs.ev rfl)) rfl fun ac hs=>?_
        refine s_q hs (c_neqI (hs.ev rfl) (hs.ev rfl)) rfl fun ac hs=>?_
        refine s_end (then_n ?_)
        refine wp_cond_false (hs.ev rfl) ?_
        refine wp_skip (then_n (wp_reg ?_))
        refine s_q hs (c_move (hs.ev rfl)) rfl fun ac hs=>?_
        refine s_q hs (c_loadW ty88 ag88 (hs.ev rfl) (hs.seg (i:=0) rfl) (by rfl)) rfl fun ac hs=>?_
        refine s_q hs (c_idxA (j:=0) un89 ty88 (hs.ev rfl) (hs.ev rfl) rfl (by omega)) rfl fun ac hs=>?_
        refine s_store (i:=4) hs ty88 rfl rfl rfl rfl (by rfl) (tv_one (t:=(TV.mk td.gen rv ps td.sure)) (hs.get (i:=1) rfl)) (by simp [TV.c,tdC]) (show _=TV.c (TV.mk td.gen rv ps td.sure)++TV.c c1 from rfl) fun ww hs=>?_
        refine s_end ?_
        have hI2:LI s (0 + 1) (TV.mk td.gen rv ps td.sure) c1:=⟨fun _=>by rw [hr,TV.td]; simp only; rw [hps],fun h=>absurd h (by decide)⟩
        replace hs:=(hs.pick (L':=[_,_,_]) (.cons _ (.cons_cons _ (.cons_cons _ (.cons _ (.refl _)))))).perm (L':=[Ent.texts 38 (Ent.part 5) (c1).rv (c1).ps,Ent.texts 38 (Ent.part 5) ((TV.mk td.gen rv ps td.sure)).rv ((TV.mk td.gen rv ps td.sure)).ps,.seg g5 (((TV.mk td.gen rv ps td.sure)).c++(c1).c) 89]) (.swap _ _ _)
        refine blk_n (then_n (wp_reg ?_))
        refine s_q hs (c_addU (hs.ev rfl) (St.ev (v:=U 1) hs rfl)) rfl fun ac hs=>?_
        refine s_q hs (c_move (hs.ev rfl)) rfl fun ac hs=>?_
        refine s_end (then_n ?_)
        exact ⟨2 - (_ + 1),of_decide_eq_true rfl,(_ + 1,_,_),⟨of_decide_eq_true rfl,hI2,rfl⟩,St.next hs ⟨rfl,rfl,rfl,trivial⟩ rfl⟩
    · refine s_q hs (c_move (hs.ev rfl)) rfl fun ac hs=>?_
      refine s_q hs (c_assign (hs.ev rfl)) rfl fun ac hs=>?_
      refine s_end (then_n (wp_seq (wp_reg ?_)))
      refine s_q hs (c_move (hs.ev rfl)) rfl fun ac hs=>?_
      refine s_q hs (c_move (hs.ev rfl)) rfl fun ac hs=>?_
      refine s_call hs fu44 (.cons (hs.ev rfl) (.cons (hs.ev rfl) .nil)) (di_half g sb qv s 1 hn1 _ (hR.fr0 hs.fr)) rfl fun ac ww v26 hf hp hs=>?_
      obtain rfl:=hp
      replace hs:=hs [] (.nil _ _)
      refine s_q hs (c_move (hs.ev rfl)) rfl fun ac hs=>?_
      refine s_q hs (c_extract (hs.ev rfl) rfl) rfl fun ac hs=>?_
      refine s_q hs (c_extract (hs.ev rfl) rfl) rfl fun ac hs=>?_
      refine s_q hs (c_assign (hs.ev rfl)) rfl fun ac hs=>?_
      refine s_q hs (c_assign (hs.ev rfl)) rfl fun ac hs=>?_
      refine s_end (then_n (wp_seq (wp_reg ?_)))
      rcases hr:tdH s 1 with _ | td
      · refine s_q hs (c_move (hs.ev rfl)) rfl fun ac hs=>?_
        refine s_q hs (c_move (hs.ev rfl)) rfl fun ac hs=>?_
        refine s_q hs (c_move (hs.ev rfl)) rfl fun ac hs=>?_
        refine s_call hs fu45 (.cons (hs.ev rfl) (.cons (hs.ev rfl) (.cons (hs.ev rfl) .nil))) (di_read g sb qv s (half s.n 1) (s.n / 2) 1 (fun i=>vis s (1 * (s.n / 2) + i)) hok hup (by rw [hh1]; omega) (by rw [hh1]; intro h9; first | exact Nat.zero_div _ | (rw [Nat.one_mul]; exact Nat.div_self h9) | (rw [Nat.zero_mul]; exact Nat.zero_div _)) (fun i=>by rw [hh1]) _ (hR.fr0 hs.fr)) rfl fun ac ww v33 hf hp hs=>?_
        rw [show rdHalf _ 1 (s.n / 2)=tdH s 1 from rfl,hr] at hp
        replace hp:v33=.tuple #[.agg (tdC 0 (.slice none 0 0) false).toArray,I 31]:=hp
        obtain rfl:=hp
        replace hs:=hs [] (.nil _ _)
        refine s_q hs (c_move (hs.ev rfl)) rfl fun ac hs=>?_
        refine s_q hs (c_extract (hs.ev rfl) rfl) rfl fun ac hs=>?_
        refine s_q hs (c_extract (hs.ev rfl) rfl) rfl fun ac hs=>?_
        refine s_alloc hs ty88 rfl fun ac ww g9 hs=>?_
        refine s_storeW (i:=0) hs ty88 rfl rfl rfl (by rfl) (by rfl) (by rfl) fun ww hs=>?_
        refine s_q hs (c_assign (hs.ev rfl)) rfl fun ac hs=>?_
        refine s_end (then_n (wp_seq (wp_seq (wp_reg ?_))))
        refine s_q hs (c_move (hs.ev rfl)) rfl fun ac hs=>?_
        refine s_q hs (c_neqI (hs.ev rfl) (hs.ev rfl)) rfl fun ac hs=>?_
        refine s_end (then_n ?_)
        refine wp_cond_true (hs.ev rfl) ?_
        refine wp_seq (wp_reg ?_)
        refine s_q hs (c_move (hs.ev rfl)) rfl fun ac hs=>?_
        refine s_q hs (c_assign (hs.ev rfl)) rfl fun ac hs=>?_
        refine s_q hs (c_assign (St.ev (v:=U 0) hs rfl)) rfl fun ac hs=>?_
        refine s_q hs (c_assign (hs.ev rfl)) rfl fun ac hs=>?_
        refine s_end (then_n (wp_ret (then_r (blk_r (then_r (then_r (blk_r (then_r ?_))))))))
        refine s_ret hs rfl (.tmp (hs.tmp rfl) (.tmp (hs.tmp rfl) (.tmp (hs.tmp rfl) .nil))) rfl ⟨_,rfl,hs.fr,?_⟩
        rw [hI.a0 (by decide)]
        exact LdTo.nil hs rfl
      · refine s_q hs (c_move (hs.ev rfl)) rfl fun ac hs=>?_
        refine s_q hs (c_move (hs.ev rfl)) rfl fun ac hs=>?_
        refine s_q hs (c_move (hs.ev rfl)) rfl fun ac hs=>?_
        refine s_call hs fu45 (.cons (hs.ev rfl) (.cons (hs.ev rfl) (.cons (hs.ev rfl) .nil))) (di_read g sb qv s (half s.n 1) (s.n / 2) 1 (fun i=>vis s (1 * (s.n / 2) + i)) hok hup (by rw [hh1]; omega) (by rw [hh1]; intro h9; first | exact Nat.zero_div _ | (rw [Nat.one_mul]; exact Nat.div_self h9) | (rw [Nat.zero_mul]; exact Nat.zero_div _)) (fun i=>by rw [hh1]) _ (hR.fr0 hs.fr)) rfl fun ac ww v33 hf hp hs=>?_
        rw [show rdHalf _ 1 (s.n / 2)=tdH s 1 from rfl,hr] at hp
        obtain ⟨rv,ps,rfl,hps,hh⟩:=hp
        replace hs:=hs _ hh
        refine s_q hs (c_move (hs.ev rfl)) rfl fun ac hs=>?_
        refine s_q hs (c_extract (hs.ev rfl) rfl) rfl fun ac hs=>?_
        refine s_q hs (c_extract (hs.ev rfl) rfl) rfl fun ac hs=>?_
        refine s_alloc hs ty88 rfl fun ac ww g9 hs=>?_
        refine s_storeW (i:=0) hs ty88 rfl rfl rfl (by rfl) (tv_one (t:=(TV.mk td.gen rv ps td.sure)) (hs.get (i:=1) rfl)) (by rfl) fun ww hs=>?_
        refine s_q hs (c_assign (hs.ev rfl)) rfl fun ac hs=>?_
        refine s_end (then_n (wp_seq (wp_seq (wp_reg ?_))))
        refine s_q hs (c_move (hs.ev rfl)) rfl fun ac hs=>?_
        refine s_q hs (c_neqI (hs.ev rfl) (hs.ev rfl)) rfl fun ac hs=>?_
        refine s_end (then_n ?_)
        refine wp_cond_false (hs.ev rfl) ?_
        refine wp_skip (then_n (wp_reg ?_))
        refine s_q hs (c_move (hs.ev rfl)) rfl fun ac hs=>?_
        refine s_q hs (c_loadW ty88 ag88 (hs.ev rfl) (hs.seg (i:=0) rfl) (by rfl)) rfl fun ac hs=>?_
        refine s_q hs (c_idxA (j:=1) un89 ty88 (hs.ev rfl) (hs.ev rfl) rfl (by omega)) rfl fun ac hs=>?_
        refine s_store (i:=4) hs ty88 rfl rfl rfl rfl (by rfl) (tv_one (t:=(TV.mk td.gen rv ps td.sure)) (hs.get (i:=1) rfl)) (by simp [TV.c,tdC]) (show _=TV.c c0++TV.c (TV.mk td.gen rv ps td.sure) from rfl) fun ww hs=>?_
        refine s_end ?_
        have hI2:LI s (1 + 1) c0 (TV.mk td.gen rv ps td.sure):=⟨fun _=>hI.a0 (by decide),fun h=>by rw [hr,TV.td]; simp only; rw [hps]⟩
        replace hs:=(hs.pick (L':=[Ent.texts 38 (Ent.part 5) ((TV.mk td.gen rv ps td.sure)).rv ((TV.mk td.gen rv ps td.sure)).ps,Ent.texts 38 (Ent.part 5) (c0).rv (c0).ps,.seg g5 ((c0).c++((TV.mk td.gen rv ps td.sure)).c) 89]) (.cons _ (.cons_cons _ (.cons _ (.refl _)))))
        refine blk_n (then_n (wp_reg ?_))
        refine s_q hs (c_addU (hs.ev rfl) (St.ev (v:=U 1) hs rfl)) rfl fun ac hs=>?_
        refine s_q hs (c_move (hs.ev rfl)) rfl fun ac hs=>?_
        refine s_end (then_n ?_)
        exact ⟨2 - (_ + 1),of_decide_eq_true rfl,(_ + 1,_,_),⟨of_decide_eq_true rfl,hI2,rfl⟩,St.next hs ⟨rfl,rfl,rfl,trivial⟩ rfl⟩
  · skip
    obtain rfl:k=2:=by
      have h9:(UInt32.ofNat k).toNat=k:=by rw [UInt32.toNat_ofNat']; omega
      simp only [decide_eq_false_iff_not] at hc
      rw [h9] at hc
      have:¬ k < 2:=hc
      omega
    rw [hI.a0 (by decide),hI.a1 (by decide)]
    refine wp_exit (then_e (then_e (blk_hit (then_n (wp_seq ?_)))))
    refine wp_region_rgXK (J:=[2,3]) pmix 6 1 (by kernel_rfl) (by kernel_rfl) rfl hs ?_
    simp only [List.take_succ_cons,List.take_zero]
    refine rg_q (fun ac ww h=>c_idxA un89 ty88 (h.ev rfl) (h.ev rfl) rfl (by decide)) rfl ?_
    refine rg_q (fun ac ww h=>c_loadA ty88 ag88 (h.ev rfl) (h.blk (hs.seg (i:=2) rfl)) (show _=c0.c from rfl) (by rfl)) rfl ?_
    refine rg_q (fun ac ww h=>c_idxA un89 ty88 (h.ev rfl) (h.ev rfl) rfl (by decide)) rfl ?_
    refine rg_q (fun ac ww h=>c_loadA ty88 ag88 (h.ev rfl) (h.blk (hs.seg (i:=2) rfl)) (show _=c1.c from rfl) (by rfl)) rfl ?_
    refine rg_alloc ty88 rfl ?_
    refine rg_alloc ty88 rfl ?_
    refine rg_nil fun ac ww L' hf hfe hs hlk=>?_
    simp only [List.drop_succ_cons,List.drop_zero]
    obtain ⟨v12,L12,M12,h12,e12,⟨v11,L11,M11,h11,e11,rfl,rfl⟩,rfl⟩:=hfe
    replace hs:=hs.add h12
    replace hs:=hs.add h11
    obtain ⟨g12,rfl,rfl⟩:=e12
    obtain ⟨g11,rfl,rfl⟩:=e11
    refine sf_storeW (i:=1) hs ty88 rfl rfl rfl (by rfl) (tv_one (hs.get (i:=3) rfl)) (by rfl) (fun ww hs=>late_read rfl rfl (hs.know.at_ 45 _ rfl) (c_idxA un89 ty88 (hs.ev rfl) (hs.ev rfl) rfl (by decide)) (late_read rfl rfl (hs.know.at_ 46 _ rfl) (c_loadA ty88 ag88 (hs.ev rfl) (hs.seg (i:=4) rfl) (show _=c1.c from rfl) (by rfl)) (late_nil))) fun ww hs=>?_
    refine sf_storeW (i:=0) hs ty88 rfl rfl rfl (by rfl) (tv_one (hs.get (i:=2) rfl)) (by rfl) (fun ww hs=>late_read rfl rfl (hs.know.at_ 45 _ rfl) (c_idxA un89 ty88 (hs.ev rfl) (hs.ev rfl) rfl (by decide)) (late_read rfl rfl (hs.know.at_ 46 _ rfl) (c_loadA ty88 ag88 (hs.ev rfl) (hs.seg (i:=4) rfl) (show _=c1.c from rfl) (by rfl)) (late_nil))) fun ww hs=>?_
    refine s_end ?_
    replace hs:=hs.sub (F':=[(11,_),(12,_)]) ⟨rfl,rfl,trivial⟩
    refine then_n (wp_seq (wp_block (wp_seq (wp_reg ?_))))
    refine s_q hs (c_fld fl88_2 (hs.ev rfl)) rfl fun ac hs=>?_
    refine s_q hs (c_loadS un4 rfl (hs.ev rfl) (hs.seg (i:=1) rfl) rfl) rfl fun ac hs=>?_
    refine s_q hs (c_move (hs.ev rfl)) rfl fun ac hs=>?_
    refine s_g hs rfl rfl (fun hg=>c_fld fl88_2 (hs.ev rfl)) rfl fun ac hs=>?_
    refine s_g hs rfl rfl (fun hg=>c_loadS un4 rfl (gev (hs.ev rfl) hg) (hs.seg (i:=0) rfl) rfl) rfl fun ac hs=>?_
    refine s_g hs rfl rfl (fun hg=>c_not (gev (hs.ev rfl) hg)) rfl fun ac hs=>?_
    refine s_g hs rfl rfl (fun hg=>c_move (gev (hs.ev rfl) hg)) rfl fun ac hs=>?_
    refine s_gn hs rfl rfl (fun hc hg=>c_fld fl88_0 (hs.ev rfl)) rfl fun ac hs=>?_
    refine s_gn hs rfl rfl (fun hc hg=>c_loadS un53 rfl (gev (gev (hs.ev rfl) hc) hg) (hs.seg (i:=1) rfl) rfl) rfl fun ac hs=>?_
    refine s_gn hs rfl rfl (fun hc hg=>c_fld fl88_0 (hs.ev rfl)) rfl fun ac hs=>?_
    refine s_gn hs rfl rfl (fun hc hg=>c_loadS un53 rfl (gev (gev (hs.ev rfl) hc) hg) (hs.seg (i:=0) rfl) rfl) rfl fun ac hs=>?_
    refine s_gn hs rfl rfl (fun hc hg=>c_gtrU (gev (gev (hs.ev rfl) hc) hg) (gev (gev (hs.ev rfl) hc) hg)) rfl fun ac hs=>?_
    refine s_g hs rfl rfl (fun hg=>c_or (gev (hs.ev rfl) hg) (gev (hs.ev rfl) hg)) rfl fun ac hs=>?_
    refine s_q hs (c_and (hs.ev rfl) (hs.ev rfl)) rfl fun ac hs=>?_
    refine s_q hs (c_assign (hs.ev rfl)) rfl fun ac hs=>?_
    refine s_end ?_
    replace hs:=hs.sub (F':=[(11,_),(12,_),(47,_)]) ⟨rfl,rfl,rfl,trivial⟩
    refine then_n ?_
    refine s_cond hs rfl (fun hc=>?_) (fun hc=>?_)
    · skip
      have h4:c0.b=true∧(¬ c1.b=true∨c1.g.toNat < c0.g.toNat):=by
        revert hc
        cases c0.b <;> cases c1.b <;> simp
      refine wp_seq ?_
      refine wp_region_rg pmix 10 (by kernel_rfl) rfl hs ?_
      simp only [List.take_succ_cons,List.take_zero]
      refine rg_q (fun ac ww h=>c_fld fl88_1 (h.ev rfl)) rfl ?_
      refine rg_q (fun ac ww h=>c_loadS un51 rfl (h.ev rfl) (h.blk (hs.seg (i:=1) rfl)) rfl) rfl ?_
      refine rg_q (fun ac ww h=>c_fld fl88_0 (h.ev rfl)) rfl ?_
      refine rg_q (fun ac ww h=>c_loadS un53 rfl (h.ev rfl) (h.blk (hs.seg (i:=1) rfl)) rfl) rfl ?_
      refine rg_q (fun ac ww h=>c_fld fl88_0 (h.ev rfl)) rfl ?_
      refine rg_q (fun ac ww h=>c_loadS un53 rfl (h.ev rfl) (h.blk (hs.seg (i:=0) rfl)) rfl) rfl ?_
      refine rg_call fu46 (fun ac ww h=>(.cons (h.ev rfl) (.cons (h.ev rfl) .nil))) (fun ww hf=>di_next c0.g c1.g _) rfl ?_
      refine rg_q (fun ac ww h=>c_assign (h.ev rfl)) rfl ?_
      refine rg_q (fun ac ww h=>c_assign (h.ev rfl)) rfl ?_
      refine rg_q (fun ac ww h=>c_assign (h.ev rfl)) rfl ?_
      refine rg_nil fun ac ww L' hf hfe hs=>?_
      simp only [List.drop_succ_cons,List.drop_zero]
      obtain rfl:L'=[]:=hfe
      replace hs:=hs.toL (List.nil_append _)
      refine s_end ?_
      replace hs:=hs.sub (F':=[(2,_),(3,_),(4,_),(11,_),(12,_)]) ⟨rfl,rfl,rfl,rfl,rfl,trivial⟩
      refine then_n (wp_ret (blk_r (then_r ?_)))
      refine s_ret hs rfl (.tmp (hs.tmp rfl) (.tmp (hs.tmp rfl) (.tmp (hs.tmp rfl) .nil))) rfl ⟨_,rfl,hs.fr,?_⟩
      rw [show dload (some c0.td) (some c1.td)=(0,nextG c0.g c1.g,c0.td.recs) from if_pos h4]
      exact ⟨c0.rv,c0.ps,rfl,rfl,(hs.pick (L':=[_]) (.cons _ (.cons _ (.cons _ (.cons_cons _ (List.nil_sublist _)))))).made⟩
    · skip
      have h4:¬ (c0.b=true∧(¬ c1.b=true∨c1.g.toNat < c0.g.toNat)):=by
        revert hc
        cases c0.b <;> cases c1.b <;> simp
      refine wp_seq (wp_reg ?_)
      refine s_q hs (c_fld fl88_2 (hs.ev rfl)) rfl fun ac hs=>?_
      refine s_q hs (c_loadS un4 rfl (hs.ev rfl) (hs.seg (i:=0) rfl) rfl) rfl fun ac hs=>?_
      refine s_q hs (c_assign (hs.ev rfl)) rfl fun ac hs=>?_
      refine s_end ?_
      replace hs:=hs.sub (F':=[(11,_),(12,_),(69,_)]) ⟨rfl,rfl,rfl,trivial⟩
      refine then_n ?_
      refine s_cond hs rfl (fun hc=>?_) (fun hc=>?_)
      · have h5:c1.b=true:=hc
        refine wp_seq ?_
        refine wp_region_rg pmix 10 (by kernel_rfl) rfl hs ?_
        simp only [List.take_succ_cons,List.take_zero]
        refine rg_q (fun ac ww h=>c_fld fl88_1 (h.ev rfl)) rfl ?_
        refine rg_q (fun ac ww h=>c_loadS un51 rfl (h.ev rfl) (h.blk (hs.seg (i:=0) rfl)) rfl) rfl ?_
        refine rg_q (fun ac ww h=>c_fld fl88_0 (h.ev rfl)) rfl ?_
        refine rg_q (fun ac ww h=>c_loadS un53 rfl (h.ev rfl) (h.blk (hs.seg (i:=0) rfl)) rfl) rfl ?_
        refine rg_q (fun ac ww h=>c_fld fl88_0 (h.ev rfl)) rfl ?_
        refine rg_q (fun ac ww h=>c_loadS un53 rfl (h.ev rfl) (h.blk (hs.seg (i:=1) rfl)) rfl) rfl ?_
        refine rg_call fu46 (fun ac ww h=>(.cons (h.ev rfl) (.cons (h.ev rfl) .nil))) (fun ww hf=>di_next c1.g c0.g _) rfl ?_
        refine rg_q (fun ac ww h=>c_assign (h.ev rfl)) rfl ?_
        refine rg_q (fun ac ww h=>c_assign (h.ev rfl)) rfl ?_
        refine rg_q (fun ac ww h=>c_assign (h.ev rfl)) rfl ?_
        refine rg_nil fun ac ww L' hf hfe hs=>?_
        simp only [List.drop_succ_cons,List.drop_zero]
        obtain rfl:L'=[]:=hfe
        replace hs:=hs.toL (List.nil_append _)
        refine s_end ?_
        replace hs:=hs.sub (F':=[(2,_),(3,_),(4,_),(11,_),(12,_)]) ⟨rfl,rfl,rfl,rfl,rfl,trivial⟩
        refine then_n (wp_ret (blk_r (then_r ?_)))
        refine s_ret hs rfl (.tmp (hs.tmp rfl) (.tmp (hs.tmp rfl) (.tmp (hs.tmp rfl) .nil))) rfl ⟨_,rfl,hs.fr,?_⟩
        rw [show dload (some c0.td) (some c1.td)=(0,nextG c1.g c0.g,c1.td.recs) from (if_neg h4).trans (if_pos h5)]
        exact ⟨c1.rv,c1.ps,rfl,rfl,(hs.pick (L':=[_]) (.cons _ (.cons _ (.cons_cons _ (List.nil_sublist _))))).made⟩
      · have h5:¬ c1.b=true:=by rw [show c1.b=false from hc]; decide
        refine wp_seq (wp_reg ?_)
        refine s_q hs (c_fld fl88_0 (hs.ev rfl)) rfl fun ac hs=>?_
        refine s_q hs (c_loadS un53 rfl (hs.ev rfl) (hs.seg (i:=1) rfl) rfl) rfl fun ac hs=>?_
        refine s_q hs (c_gtrU (hs.ev rfl) (St.ev (v:=U 0) hs rfl)) rfl fun ac hs=>?_
        refine s_q hs (c_assign (hs.ev rfl)) rfl fun ac hs=>?_
        refine s_end ?_
        replace hs:=hs.sub (F':=[(12,_),(79,_)]) ⟨rfl,rfl,trivial⟩
        refine then_n ?_
        refine s_cond hs rfl (fun hc=>?_) (fun hc=>?_)
        · try simp only [decide_eq_true_eq,decide_eq_false_iff_not,Bool.not_eq_true',Bool.not_eq_false',Bool.and_eq_true,Bool.or_eq_true,Bool.or_eq_false_iff] at hc
          have h6:0 < c0.g.toNat:=hc
          refine wp_seq (wp_reg ?_)
          refine s_q hs (c_assign (hs.ev rfl)) rfl fun ac hs=>?_
          refine s_q hs (c_assign (St.ev (v:=U 0) hs rfl)) rfl fun ac hs=>?_
          refine s_q hs (c_assign (hs.ev rfl)) rfl fun ac hs=>?_
          refine s_end ?_
          replace hs:=hs.sub (F':=[(2,_),(3,_),(4,_),(12,_)]) ⟨rfl,rfl,rfl,rfl,trivial⟩
          refine then_n (wp_ret (blk_r (then_r ?_)))
          refine s_ret hs rfl (.tmp (hs.tmp rfl) (.tmp (hs.tmp rfl) (.tmp (hs.tmp rfl) .nil))) rfl ⟨_,rfl,hs.fr,?_⟩
          rw [show dload (some c0.td) (some c1.td)=(31,0,[]) from (if_neg h4).trans ((if_neg h5).trans (if_pos h6))]
          exact LdTo.nil hs rfl
        · try simp only [decide_eq_true_eq,decide_eq_false_iff_not,Bool.not_eq_true',Bool.not_eq_false',Bool.and_eq_true,Bool.or_eq_true,Bool.or_eq_false_iff] at hc
          have h6:¬ 0 < c0.g.toNat:=hc
          refine wp_seq (wp_reg ?_)
          refine s_q hs (c_fld fl88_0 (hs.ev rfl)) rfl fun ac hs=>?_
          refine s_q hs (c_loadS un53 rfl (hs.ev rfl) (hs.seg (i:=0) rfl) rfl) rfl fun ac hs=>?_
          refine s_q hs (c_gtrU (hs.ev rfl) (St.ev (v:=U 0) hs rfl)) rfl fun ac hs=>?_
          refine s_q hs (c_assign (hs.ev rfl)) rfl fun ac hs=>?_
          refine s_end ?_
          replace hs:=hs.sub (F':=[(12,_),(83,_)]) ⟨rfl,rfl,trivial⟩
          refine then_n ?_
          refine s_cond hs rfl (fun hc=>?_) (fun hc=>?_)
          · try simp only [decide_eq_true_eq,decide_eq_false_iff_not,Bool.not_eq_true',Bool.not_eq_false',Bool.and_eq_true,Bool.or_eq_true,Bool.or_eq_false_iff] at hc
            have h7:0 < c1.g.toNat:=hc
            refine wp_seq ?_
            refine wp_region_rg pmix 6 (by kernel_rfl) rfl hs ?_
            simp only [List.take_succ_cons,List.take_zero]
            refine rg_q (fun ac ww h=>c_fld fl88_0 (h.ev rfl)) rfl ?_
            refine rg_q (fun ac ww h=>c_loadS un53 rfl (h.ev rfl) (h.blk (hs.seg (i:=0) rfl)) rfl) rfl ?_
            refine rg_q (fun ac ww h=>c_addU (h.ev rfl) (RC.ev (v:=U 2) h rfl)) rfl ?_
            refine rg_q (fun ac ww h=>c_assign (h.ev rfl)) rfl ?_
            refine rg_q (fun ac ww h=>c_assign (h.ev rfl)) rfl ?_
            refine rg_q (fun ac ww h=>c_assign (h.ev rfl)) rfl ?_
            refine rg_nil fun ac ww L' hf hfe hs=>?_
            simp only [List.drop_succ_cons,List.drop_zero]
            obtain rfl:L'=[]:=hfe
            replace hs:=hs.toL (List.nil_append _)
            refine s_end ?_
            replace hs:=hs.sub (F':=[(2,_),(3,_),(4,_)]) ⟨rfl,rfl,rfl,trivial⟩
            refine then_n (wp_ret (blk_r (then_r ?_)))
            refine s_ret hs rfl (.tmp (hs.tmp rfl) (.tmp (hs.tmp rfl) (.tmp (hs.tmp rfl) .nil))) rfl ⟨_,rfl,hs.fr,?_⟩
            rw [show dload (some c0.td) (some c1.td)=(0,c1.g + 2,[]) from (if_neg h4).trans ((if_neg h5).trans ((if_neg h6).trans (if_pos h7)))]
            exact LdTo.nil hs rfl
          · try simp only [decide_eq_true_eq,decide_eq_false_iff_not,Bool.not_eq_true',Bool.not_eq_false',Bool.and_eq_true,Bool.or_eq_true,Bool.or_eq_false_iff] at hc
            have h7:¬ 0 < c1.g.toNat:=hc
            refine wp_skip (blk_n (then_n (wp_seq (wp_reg ?_))))
            refine s_q hs (c_assign (hs.ev rfl)) rfl fun ac hs=>?_
            refine s_q hs (c_assign (St.ev (v:=U 1) hs rfl)) rfl fun ac hs=>?_
            refine s_q hs (c_assign (hs.ev rfl)) rfl fun ac hs=>?_
            refine s_end ?_
            replace hs:=hs.sub (F':=[(2,_),(3,_),(4,_)]) ⟨rfl,rfl,rfl,trivial⟩
            refine then_n (wp_ret ?_)
            refine s_ret hs rfl (.tmp (hs.tmp rfl) (.tmp (hs.tmp rfl) (.tmp (hs.tmp rfl) .nil))) rfl ⟨_,rfl,hs.fr,?_⟩
            rw [show dload (some c0.td) (some c1.td)=(0,1,[]) from (if_neg h4).trans ((if_neg h5).trans ((if_neg h6).trans (if_neg h7)))]
            exact LdTo.nil hs rfl
end Go.Proofs.Ytkecdcmjkghddaa
end

section
/- The document's device: what is read. -/
namespace Go.Proofs.Ytkecdcmjkghddaa
open Go Go.Fw
def hdR (v1 v2:Value) (s:Sl):List Value:=[I s.n,v1,v2,I s.fuse,.bool s.down,I s.steps]
def rs (h:Nat) (v1 v2:Value) (s:Sl) (su:List Wr):List Ent:=[.seg h (hdR v1 v2 s) 77,.row v1 su.length (wrC su) 94 65,.row v2 s.q.length (wrC s.q) 94 65]
structure Sim (n:Nat) (xs:List UInt8) (su:List Wr):Prop where
  xl:xs.length=n * 64
  ok:∀ x∈su,x.Ok n
  eq:∀ j,j < n→ofW su j zero64=sec xs j
theorem Sim.zero {n:Nat}:Sim n (List.replicate (n * 64) 0) []:=⟨by simp,(fun _ h=>by cases h),fun j hj=>by
  have:j * 64 + 64≤n * 64:=by omega
  simp only [ofW,List.foldl_nil,sec,zero64,List.drop_replicate,List.take_replicate]
  rw [Nat.min_eq_left (by omega)]⟩
end Go.Proofs.Ytkecdcmjkghddaa
end

section
/- What halves of a device tell,in plain words; one byte turned. -/
namespace Go.Proofs.Ytkecdcmjkghddaa
open Go Go.Fw
theorem or4 (a b c d:UInt8):(((a.toUInt32 <<< UInt32.ofNat 24) ||| (b.toUInt32 <<< UInt32.ofNat 16)) ||| (c.toUInt32 <<< UInt32.ofNat 8) ||| d.toUInt32).toNat=a.toNat * 16777216 + b.toNat * 65536 + c.toNat * 256 + d.toNat:=by
  have ha:=a.toNat_lt; have hb:=b.toNat_lt; have hc:=c.toNat_lt; have hd:=d.toNat_lt
  have e:∀ (x:UInt8) (n:Nat),n < 32→(x.toUInt32 <<< UInt32.ofNat n).toNat=x.toNat * 2 ^ n % 4294967296:=fun x n hn=>by
    rw [UInt32.toNat_shiftLeft,Nat.shiftLeft_eq]
    simp [Nat.mod_eq_of_lt (a:=n) (b:=4294967296) (by omega),Nat.mod_eq_of_lt hn]
  rw [UInt32.toNat_or,UInt32.toNat_or,UInt32.toNat_or,e a 24 (by decide),e b 16 (by decide),e c 8 (by decide),UInt8.toNat_toUInt32]
  rw [show a.toNat * 2 ^ 24 % 4294967296=a.toNat * 16777216 by omega,show b.toNat * 2 ^ 16 % 4294967296=b.toNat * 65536 by omega,show c.toNat * 2 ^ 8 % 4294967296=c.toNat * 256 by omega]
  have s:∀ (x y n:Nat),y < 2 ^ n→x * 2 ^ n ||| y=x * 2 ^ n + y:=fun x y n h=>by
    rw [← Nat.shiftLeft_eq,Nat.shiftLeft_add_eq_or_of_lt h]
  rw [show a.toNat * 16777216=a.toNat * 2 ^ 24 by omega,s _ _ 24 (by omega)]
  rw [show a.toNat * 2 ^ 24 + b.toNat * 65536=(a.toNat * 256 + b.toNat) * 2 ^ 16 by omega,s _ _ 16 (by omega)]
  rw [show (a.toNat * 256 + b.toNat) * 2 ^ 16 + c.toNat * 256=(a.toNat * 65536 + b.toNat * 256 + c.toNat) * 2 ^ 8 by omega,s _ _ 8 (by omega)]
theorem shr8 (g:UInt32) (n:Nat) (h:n < 32):((g >>> UInt32.ofNat n).toUInt8).toNat=g.toNat / 2 ^ n % 256:=by
  rw [UInt32.toNat_toUInt8,UInt32.toNat_shiftRight,Nat.shiftRight_eq_div_pow]
  simp [Nat.mod_eq_of_lt (a:=n) (b:=4294967296) (by omega),Nat.mod_eq_of_lt h]
theorem get4_be4 (g:UInt32) (t:List UInt8):get4 (be4 g++t)=g:=by
  apply UInt32.toNat_inj.1
  have hg:=g.toNat_lt
  simp only [get4,be4,List.cons_append,List.getD_cons_zero,List.getD_cons_succ,List.nil_append]
  rw [or4,shr8 g 24 (by decide),shr8 g 16 (by decide),shr8 g 8 (by decide),UInt32.toNat_toUInt8]
  omega
theorem be4_get4 {l:List UInt8} (h:l.length=4):be4 (get4 l)=l:=by
  match l,h with
  | [a,b,c,d],_ =>
    have ha:=a.toNat_lt; have hb:=b.toNat_lt; have hc:=c.toNat_lt; have hd:=d.toNat_lt
    have e:=or4 a b c d
    simp only [get4,List.getD_cons_zero,List.getD_cons_succ]
    generalize ((((a.toUInt32 <<< UInt32.ofNat 24) ||| (b.toUInt32 <<< UInt32.ofNat 16)) ||| (c.toUInt32 <<< UInt32.ofNat 8)) ||| d.toUInt32)=v at e
    unfold be4
    rw [show (v >>> UInt32.ofNat 24).toUInt8=a from UInt8.toNat_inj.1 (by rw [shr8 v 24 (by decide)]; omega),show (v >>> UInt32.ofNat 16).toUInt8=b from UInt8.toNat_inj.1 (by rw [shr8 v 16 (by decide)]; omega),show (v >>> UInt32.ofNat 8).toUInt8=c from UInt8.toNat_inj.1 (by rw [shr8 v 8 (by decide)]; omega),show v.toUInt8=d from UInt8.toNat_inj.1 (by rw [UInt32.toNat_toUInt8]; omega)]
theorem get4_take (l:List UInt8) (n:Nat) (h:4≤n):get4 (l.take n)=get4 l:=by
  simp only [get4,List.getD_eq_getElem?_getD,List.getElem?_take]
  simp [show 0 < n by omega,show 1 < n by omega,show 2 < n by omega,show 3 < n by omega]
theorem lay_look {g:UInt32} {k:Int} {fl:UInt8} {p:List UInt8} (h:p.length≤50):lookS (lay g k fl p) g k=0:=by
  have hb:=layB_len (g:=g) (place:=k) (fl:=fl) h
  have h1:get4 (lay g k fl p)=g:=by
    unfold lay layB
    simp only [List.append_assoc]
    exact get4_be4 g _
  have h2:get4 ((lay g k fl p).drop 60)=g:=by
    unfold lay
    rw [List.drop_left' (by simp [hb])]
    exact (congrArg get4 (List.append_nil _).symm).trans (get4_be4 g [])
  have h3:(lay g k fl p).take 58=layB g k fl p:=by
    unfold lay
    rw [List.append_assoc,List.take_left' hb]
  have h4:∀ i,i < 58→(lay g k fl p).getD i 0=(layB g k fl p).getD i 0:=fun i hi=>by
    rw [← h3,List.getD_eq_getElem?_getD,List.getD_eq_getElem?_getD,List.getElem?_take,if_pos hi]
  have h5:¬ badS (lay g k fl p) k:=by
    unfold badS
    rw [h3,h4 4 (by decide),h4 5 (by decide),h4 7 (by decide)]
    rintro (h | h | h | h | h)
    · apply h
      unfold lay
      rw [List.append_assoc,List.getD_eq_getElem?_getD,List.getElem?_append_right (by omega),hb]
      rfl
    · apply h
      unfold lay
      rw [List.append_assoc,List.getD_eq_getElem?_getD,List.getElem?_append_right (by omega),hb]
      rfl
    · exact h rfl
    · exact h rfl
    · have:(i8 (p.length:Int)).toNat=p.length:=by
        have:=i8_toNat (p.length:Int)
        omega
      have e:(layB g k fl p).getD 7 0=i8 (p.length:Int):=rfl
      rw [e,this] at h
      omega
  rw [lookS,if_neg (fun h=>h.elim (fun a=>a h1) (fun a=>a h2)),if_neg h5]
theorem lay_fl {g:UInt32} {k:Int} {fl:UInt8} {p:List UInt8}:(lay g k fl p).getD 6 0=fl:=rfl
theorem lay_p {g:UInt32} {k:Int} {fl:UInt8} {p:List UInt8} (h:p.length≤50):((lay g k fl p).drop 8).take ((lay g k fl p).getD 7 0).toNat=p:=by
  have e:(lay g k fl p).getD 7 0=i8 (p.length:Int):=rfl
  have h2:(i8 (p.length:Int)).toNat=p.length:=by
    have:=i8_toNat (p.length:Int)
    omega
  rw [e,h2]
  unfold lay layB
  simp only [List.append_assoc]
  rw [← List.append_assoc (be4 g),List.drop_left' (by rfl),List.take_left' rfl]
theorem look_0 {x:List UInt8} {g:UInt32} {k:Int} (h:¬ lookS x g k=1):get4 x=g∧get4 (x.drop 60)=g:=by
  unfold lookS at h
  split at h
  · exact absurd rfl h
  · rename_i h1
    exact ⟨Classical.byContradiction fun a=>h1 (.inl a),Classical.byContradiction fun a=>h1 (.inr a)⟩
def Stop (F:Nat→List UInt8) (g:UInt32) (m k:Nat) (res:Bool):Prop:=∀ recs sure part op,rdGo F g m k recs sure part op=if res=true then some (recs,sure) else none
theorem stop_1 {F:Nat→List UInt8} {g:UInt32} {m k:Nat} (h:lookS (F k) g k=1):Stop F g (m + 1) k true:=fun _ _ _ _=>by rw [rdGo,if_pos h,if_pos rfl]
theorem stop_2 {F:Nat→List UInt8} {g:UInt32} {m k:Nat} (h:lookS (F k) g k=2):Stop F g (m + 1) k false:=fun _ _ _ _=>by
  rw [rdGo,if_neg (by rw [h]; decide),if_pos h]
  rfl
theorem rd_step {F:Nat→List UInt8} {g:UInt32} {m k:Nat} {recs:List (List UInt8)} {sure:Bool} {part p:List UInt8} {op:Bool} {fl:UInt8} (hF:F k=lay g k fl p) (hp:p.length≤50) :
    rdGo F g (m + 1) k recs sure part op=(if decide (¬ fl &&& 1=0)=op then none else
    if fl &&& 2=0 then rdGo F g m (k + 1) recs sure (part++p) true else
    if ¬ fl &&& 4=0 then (if sure=true then none else rdGo F g m (k + 1) recs true [] false) else rdGo F g m (k + 1) (recs++[part++p]) sure [] false):=by
  rw [rdGo,hF,lay_look hp,if_neg (by decide),if_neg (by decide),lay_p hp,lay_fl]
theorem rd_rec {F:Nat→List UInt8} {g:UInt32} {fl:UInt8} (hfl:fl=0∨fl=4) {m:Nat} {recs:List (List UInt8)} {sure:Bool}:∀ (n:Nat) (f:UInt8) (k:Nat) (q part:List UInt8),need q.length=n→(f=1∨f=0)→(∀ i,i < n→F (k + i)=(secsF g fl n f (k:Nat) q).getD i []) →
    rdGo F g (n + m) k recs sure part (decide (f=0))=if fl=0 then rdGo F g m (k + n) (recs++[part++q]) sure [] false else if sure=true then none else rdGo F g m (k + n) recs true [] false
  | 0,f,k,q,part,hn,_,_=>by unfold need at hn; omega
  | 1,f,k,q,part,hn,hf,hF=>by
    have h0:F k=lay g k ((f ||| 2) ||| fl) q:=hF 0 (by decide)
    rw [Nat.add_comm 1 m,rd_step h0 (need_one.1 hn)]
    rcases hf with rfl | rfl <;> rcases hfl with rfl | rfl <;> rfl
  | n + 2,f,k,q,part,hn,hf,hF=>by
    have h0:F k=lay g k (f ||| fl) (q.take 50):=hF 0 (by omega)
    have ih:=rd_rec (F:=F) (g:=g) hfl (m:=m) (recs:=recs) (sure:=sure) (n + 1) 0 (k + 1) (q.drop 50) (part++q.take 50) (need_drop hn) (.inr rfl) (fun i hi=>by
      have:=hF (i + 1) (by omega)
      rw [show k + 1 + i=k + (i + 1) by omega,this]
      rfl)
    rw [show n + 2 + m=(n + 1 + m) + 1 by omega,rd_step h0 (by simp; omega),if_neg (by rcases hf with rfl | rfl <;> rcases hfl with rfl | rfl <;> decide),if_pos (by rcases hf with rfl | rfl <;> rcases hfl with rfl | rfl <;> decide)]
    rw [List.append_assoc,List.take_append_drop,show k + 1 + (n + 1)=k + (n + 2) by omega] at ih
    exact ih
theorem rd_part {F:Nat→List UInt8} {g:UInt32} {fl:UInt8} (hfl:fl=0∨fl=4) {m:Nat} {recs:List (List UInt8)} {sure res:Bool}:∀ (j n:Nat) (f:UInt8) (k:Nat) (q part:List UInt8),need q.length=n→(f=1∨f=0)→j < n→(∀ i,i < j→F (k + i)=(secsF g fl n f (k:Nat) q).getD i [])→Stop F g m (k + j) res →
    rdGo F g (j + m) k recs sure part (decide (f=0))=if res=true then some (recs,sure) else none
  | 0,n,f,k,q,part,hn,hf,hj,hF,hS=>by
    rw [Nat.zero_add]
    exact hS _ _ _ _
  | j + 1,0,f,k,q,part,hn,hf,hj,hF,hS=>by omega
  | j + 1,1,f,k,q,part,hn,hf,hj,hF,hS=>by omega
  | j + 1,n + 2,f,k,q,part,hn,hf,hj,hF,hS=>by
    have h0:F k=lay g k (f ||| fl) (q.take 50):=hF 0 (by omega)
    have ih:=rd_part (F:=F) (g:=g) hfl (m:=m) (recs:=recs) (sure:=sure) (res:=res) j (n + 1) 0 (k + 1) (q.drop 50) (part++q.take 50) (need_drop hn) (.inr rfl) (by omega) (fun i hi=>by
      have:=hF (i + 1) (by omega)
      rw [show k + 1 + i=k + (i + 1) by omega,this]
      rfl) (by rw [show k + 1 + j=k + (j + 1) by omega]; exact hS)
    rw [show j + 1 + m=(j + m) + 1 by omega,rd_step h0 (by simp; omega),if_neg (by rcases hf with rfl | rfl <;> rcases hfl with rfl | rfl <;> decide),if_pos (by rcases hf with rfl | rfl <;> rcases hfl with rfl | rfl <;> decide)]
    exact ih
abbrev It:=UInt8 × List UInt8
def secsA (g:UInt32):Nat→List It→List (List UInt8)
  | _,[]=>[]
  | k,x::t=>secs g (k:Nat) x.1 x.2++secsA g (k + need x.2.length) t
def itsN (t:List It):Nat:=(t.map fun x=>need x.2.length).foldr (· + ·) 0
theorem secsA_len (g:UInt32):∀ (k:Nat) (t:List It),(secsA g k t).length=itsN t
  | _,[]=>rfl
  | k,x::t=>by
    rw [secsA,List.length_append,secs_len,secsA_len g _ t]
    rfl
theorem secsA_app (g:UInt32):∀ (k:Nat) (t u:List It),secsA g k (t++u)=secsA g k t++secsA g (k + itsN t) u
  | k,[],u=>by simp [secsA,itsN]
  | k,x::t,u=>by
    rw [List.cons_append,secsA,secsA,secsA_app g _ t u,List.append_assoc,show k + itsN (x::t)=k + need x.2.length + itsN t by simp only [itsN,List.map_cons,List.foldr_cons]; omega]
theorem itsN_app (t u:List It):itsN (t++u)=itsN t + itsN u:=by
  have h:=congrArg List.length (secsA_app 0 0 t u)
  rw [List.length_append,secsA_len,secsA_len,secsA_len] at h
  exact h
def wh:Nat→List It→List It
  | _,[]=>[]
  | M,x::t=>if need x.2.length≤M then x::wh (M - need x.2.length) t else []
def recsOf (t:List It):List (List UInt8):=(t.filter fun x=>decide (x.1=0)).map (·.2)
def markOf (t:List It):Bool:=t.any fun x=>decide (x.1=4)
def okM:Bool→List It→Prop
  | _,[]=>True
  | s,x::t=>(x.1=0∧okM s t)∨(x.1=4∧s=false∧okM true t)
theorem rd_all {F:Nat→List UInt8} {g:UInt32} {m:Nat} {res:Bool}:∀ (its:List It) (M k:Nat) (recs:List (List UInt8)) (sure:Bool),okM sure its→M≤itsN its→(∀ i,i < M→F (k + i)=(secsA g k its).getD i [])→Stop F g m (k + M) res →
    rdGo F g (M + m) k recs sure [] false=if res=true then some (recs++recsOf (wh M its),sure || markOf (wh M its)) else none
  | [],M,k,recs,sure,_,hM,_,hS=>by
    obtain rfl:M=0:=Nat.le_zero.1 hM
    have hS2:Stop F g m k res:=hS
    rw [Nat.zero_add,hS2]
    simp [wh,recsOf,markOf]
  | x::t,M,k,recs,sure,hk,hM,hF,hS=>by
    have hM2:M≤need x.2.length + itsN t:=hM
    have hfl:x.1=0∨x.1=4:=hk.imp (·.1) (·.1)
    by_cases h:need x.2.length≤M
    · obtain ⟨M',rfl⟩:∃ M',M=need x.2.length + M':=⟨M - need x.2.length,by omega⟩
      have h1:=rd_rec (F:=F) (g:=g) hfl (m:=M' + m) (recs:=recs) (sure:=sure) (need x.2.length) 1 k x.2 [] rfl (.inl rfl) (fun i hi=>by
        rw [hF i (by omega),secsA,List.getD_eq_getElem?_getD,List.getElem?_append_left (by rw [secs_len]; exact hi),← List.getD_eq_getElem?_getD]
        rfl)
      rw [show decide ((1:UInt8)=0)=false from rfl,List.nil_append,← Nat.add_assoc] at h1
      have hF2:∀ i,i < M'→F (k + need x.2.length + i)=(secsA g (k + need x.2.length) t).getD i []:=fun i hi=>by
        rw [Nat.add_assoc,hF _ (by omega),secsA,List.getD_eq_getElem?_getD,List.getElem?_append_right (by rw [secs_len]; omega),secs_len,Nat.add_sub_cancel_left,← List.getD_eq_getElem?_getD]
      rw [h1,show wh (need x.2.length + M') (x::t)=x::wh M' t by rw [wh,if_pos h,Nat.add_sub_cancel_left]]
      rcases hk with ⟨h0,hk⟩ | ⟨h4,h5,hk⟩
      · rw [if_pos h0,rd_all t M' (k + need x.2.length) _ sure hk (by omega) hF2 (by rw [Nat.add_assoc]; exact hS)]
        congr 2
        simp [recsOf,markOf,h0]
      · rw [if_neg (by rw [h4]; decide),if_neg (by rw [h5]; decide),rd_all t M' (k + need x.2.length) _ true hk (by omega) hF2 (by rw [Nat.add_assoc]; exact hS)]
        congr 2
        simp [recsOf,markOf,h4]
    · have h1:=rd_part (F:=F) (g:=g) hfl (m:=m) (recs:=recs) (sure:=sure) (res:=res) M (need x.2.length) 1 k x.2 [] rfl (.inl rfl) (by omega) (fun i hi=>by
        rw [hF i hi,secsA,List.getD_eq_getElem?_getD,List.getElem?_append_left (by rw [secs_len]; omega),← List.getD_eq_getElem?_getD]
        rfl) hS
      rw [show decide ((1:UInt8)=0)=false from rfl] at h1
      rw [h1,wh,if_neg h]
      simp [recsOf,markOf]
theorem secsF_look (g:UInt32) (fl:UInt8):∀ (n:Nat) (f:UInt8) (k:Nat) (q:List UInt8),need q.length=n→∀ i,i < n→lookS ((secsF g fl n f (k:Nat) q).getD i []) g ((k + i:Nat):Int)=0
  | 0,_,_,_,_,i,h=>by omega
  | 1,f,k,q,hn,i,h=>by
    obtain rfl:i=0:=by omega
    exact lay_look (need_one.1 hn)
  | n + 2,f,k,q,hn,0,h=>lay_look (by simp; omega)
  | n + 2,f,k,q,hn,i + 1,h=>by
    have:=secsF_look g fl (n + 1) 0 (k + 1) (q.drop 50) (need_drop hn) i (by omega)
    rw [show k + 1 + i=k + (i + 1) by omega] at this
    exact this
theorem secsA_look (g:UInt32):∀ (k:Nat) (t:List It) (i:Nat),i < itsN t→lookS ((secsA g k t).getD i []) g ((k + i:Nat):Int)=0
  | _,[],i,h=>by simp [itsN] at h
  | k,x::t,i,h=>by
    have h':i < need x.2.length + itsN t:=h
    rw [secsA,List.getD_eq_getElem?_getD]
    by_cases hi:i < need x.2.length
    · rw [List.getElem?_append_left (by rw [secs_len]; exact hi),← List.getD_eq_getElem?_getD]
      exact secsF_look g x.1 _ 1 k x.2 rfl i hi
    · rw [List.getElem?_append_right (by rw [secs_len]; omega),secs_len,← List.getD_eq_getElem?_getD]
      have:=secsA_look g (k + need x.2.length) t (i - need x.2.length) (by omega)
      rwa [show k + need x.2.length + (i - need x.2.length)=k + i by omega] at this
theorem rdHalf_all {F:Nat→List UInt8} {g:UInt32} {h many M m:Nat} {res:Bool} {its:List It} (hm:many=M + m) (hM1:1≤M) (hM:M≤itsN its) (hk:okM false its) (hg:¬ g=0) (hh:(g % 2).toNat=h) (hF:∀ i,i < M→F i=(secsA g 0 its).getD i []) (hS:Stop F g m M res) :
    rdHalf F h many=if res=true then some ⟨g,recsOf (wh M its),markOf (wh M its)⟩ else none:=by
  have h0:lookS (F 0) g ((0 + 0:Nat):Int)=0:=by
    rw [hF 0 hM1]
    exact secsA_look g 0 its 0 (by omega)
  obtain ⟨e1,e2⟩:=look_0 (by rw [h0]; decide)
  rw [rdHalf,if_neg,e1,hm,rd_all its M 0 [] false hk hM (fun i hi=>by rw [Nat.zero_add]; exact hF i hi) (by rw [Nat.zero_add]; exact hS)]
  · cases res <;> simp
  · rw [e1,e2]
    rintro (a | a | a | a)
    · omega
    · exact hg a
    · exact a rfl
    · exact a hh
theorem wh_pre:∀ (M:Nat) (t:List It),∃ u,t=wh M t++u
  | _,[]=>⟨[],rfl⟩
  | M,x::t=>by
    rw [wh]
    split
    · obtain ⟨u,hu⟩:=wh_pre (M - need x.2.length) t
      exact ⟨u,by rw [List.cons_append,← hu]⟩
    · exact ⟨x::t,rfl⟩
theorem recsOf_app (t u:List It):recsOf (t++u)=recsOf t++recsOf u:=by simp [recsOf]
theorem getD_appL {a b:List (List UInt8)} {i:Nat} (h:i < a.length):(a++b).getD i []=a.getD i []:=by
  rw [List.getD_eq_getElem?_getD,List.getElem?_append_left h,← List.getD_eq_getElem?_getD]
theorem getD_appR {a b:List (List UInt8)} {i:Nat} (h:a.length≤i):(a++b).getD i []=b.getD (i - a.length) []:=by
  rw [List.getD_eq_getElem?_getD,List.getElem?_append_right h,← List.getD_eq_getElem?_getD]
/-! one byte turned -/
theorem sumL_init (n:UInt16) (l:List UInt8):l.foldl (fun n b=>n + b.toUInt16) n=n + sumL l:=by
  induction l generalizing n with
  | nil=>simp [sumL]
  | cons x t ih =>
    rw [sumL,List.foldl_cons,List.foldl_cons,ih,ih (0 + x.toUInt16),UInt16.zero_add,UInt16.add_assoc]
theorem sumL_cons (x:UInt8) (t:List UInt8):sumL (x::t)=x.toUInt16 + sumL t:=by
  rw [sumL,List.foldl_cons,sumL_init,UInt16.zero_add]
theorem sumL_set:∀ (l:List UInt8) (i:Nat) (y:UInt8),i < l.length→sumL (l.set i y) + (l.getD i 0).toUInt16=sumL l + y.toUInt16
  | [],i,y,h=>by simp at h
  | x::t,0,y,h=>by
    rw [List.set_cons_zero,sumL_cons,sumL_cons,List.getD_cons_zero]
    simp only [UInt16.add_assoc,UInt16.add_comm]
    rw [← UInt16.add_assoc,UInt16.add_comm x.toUInt16,UInt16.add_assoc]
  | x::t,i + 1,y,h=>by
    have ih:=sumL_set t i y (by simpa using h)
    rw [List.set_cons_succ,sumL_cons,sumL_cons,List.getD_cons_succ,UInt16.add_assoc,ih,UInt16.add_assoc]
theorem sumL_turn {l:List UInt8} {i:Nat} {y:UInt8} (h:i < l.length) (hy:¬ y=l.getD i 0):¬ sumL (l.set i y)=sumL l:=fun e=>by
  have h1:=sumL_set l i y h
  rw [e] at h1
  have h2:=congrArg UInt16.toNat h1
  rw [UInt16.toNat_add,UInt16.toNat_add,UInt8.toNat_toUInt16,UInt8.toNat_toUInt16] at h2
  have h3:=(sumL l).toNat_lt
  have h4:=y.toNat_lt
  have h5:=(l.getD i 0).toNat_lt
  exact hy (UInt8.toNat_inj.1 (by omega))
theorem two_bytes {a b:UInt16} (h1:(a >>> UInt16.ofNat 8).toUInt8=(b >>> UInt16.ofNat 8).toUInt8) (h2:a.toUInt8=b.toUInt8):a=b:=by
  have e:∀ c:UInt16,((c >>> UInt16.ofNat 8).toUInt8).toNat=c.toNat / 256:=fun c=>by
    have:=c.toNat_lt
    rw [UInt16.toNat_toUInt8,UInt16.toNat_shiftRight,Nat.shiftRight_eq_div_pow]
    show c.toNat / 256 % 256=_
    omega
  have h3:=congrArg UInt8.toNat h1
  have h4:=congrArg UInt8.toNat h2
  rw [e,e] at h3
  rw [UInt16.toNat_toUInt8,UInt16.toNat_toUInt8] at h4
  exact UInt16.toNat_inj.1 (by omega)
theorem get4_inj {a b:List UInt8} (ha:4≤a.length) (hb:4≤b.length) (h:get4 a=get4 b):a.take 4=b.take 4:=by
  rw [← be4_get4 (l:=a.take 4) (by rw [List.length_take]; omega),← be4_get4 (l:=b.take 4) (by rw [List.length_take]; omega),get4_take _ _ (Nat.le_refl _),get4_take _ _ (Nat.le_refl _),h]
theorem getD_of {l:List UInt8} {i:Nat}:l.getD i 0=(l[i]?).getD 0:=by rw [List.getD_eq_getElem?_getD]
theorem turn_look {x:List UInt8} {g:UInt32} {k:Int} {b:Nat} {y:UInt8} (hx:x.length=64) (h0:lookS x g k=0) (hb:b < 64) (hy:¬ y=x.getD b 0) :
    (b < 4∧¬ get4 (x.set b y)=g∧get4 ((x.set b y).drop 60)=g)∨(60≤b∧get4 (x.set b y)=g∧¬ get4 ((x.set b y).drop 60)=g)∨(get4 (x.set b y)=g∧get4 ((x.set b y).drop 60)=g∧lookS (x.set b y) g k=2):=by
  obtain ⟨e1,e2⟩:=look_0 (show ¬ lookS x g k=1 by rw [h0]; decide)
  have hnb:¬ badS x k:=fun h=>by
    rw [lookS,if_neg (fun h=>h.elim (fun a=>a e1) (fun a=>a e2)),if_pos h] at h0
    cases h0
  have hat:∀ i,(x.set b y).getD i 0=if b=i then y else x.getD i 0:=fun i=>by
    rw [getD_of,getD_of,List.getElem?_set,hx]
    by_cases e:b=i
    · subst e; rw [if_pos rfl,if_pos hb,if_pos rfl]; rfl
    · rw [if_neg e,if_neg e]
  have d60:b < 60→(x.set b y).drop 60=x.drop 60:=fun h=>by rw [List.drop_set_of_lt h]
  have t4:4≤b→get4 (x.set b y)=g:=fun h=>by
    rw [← e1,← get4_take (x.set b y) 4 (Nat.le_refl _),List.take_set_of_le h,get4_take _ _ (Nat.le_refl _)]
  by_cases c1:b < 4
  · refine .inl ⟨c1,fun h=>?_,by rw [d60 (by omega),e2]⟩
    have h2:=get4_inj (by rw [List.length_set]; omega) (by omega) (h.trans e1.symm)
    have h3:=congrArg (fun l:List UInt8=>l.getD b 0) h2
    simp only [getD_of,List.getElem?_take,if_pos c1] at h3
    rw [← getD_of,← getD_of,hat,if_pos rfl] at h3
    exact hy h3
  · by_cases c2:60≤b
    · refine .inr (.inl ⟨c2,t4 (by omega),fun h=>?_⟩)
      have h2:=get4_inj (a:=(x.set b y).drop 60) (b:=x.drop 60) (by simp [hx]) (by simp [hx]) (h.trans e2.symm)
      have h3:=congrArg (fun l:List UInt8=>l.getD (b - 60) 0) h2
      simp only [getD_of,List.getElem?_take,if_pos (show b - 60 < 4 by omega),List.getElem?_drop,show 60 + (b - 60)=b by omega] at h3
      rw [← getD_of,← getD_of,hat,if_pos rfl] at h3
      exact hy h3
    · have f1:=t4 (by omega)
      have f2:get4 ((x.set b y).drop 60)=g:=by rw [d60 (by omega),e2]
      refine .inr (.inr ⟨f1,f2,?_⟩)
      rw [lookS,if_neg (fun h=>h.elim (fun a=>a f1) (fun a=>a f2)),if_pos]
      apply Classical.byContradiction
      intro hn
      unfold badS at hn hnb
      simp only [not_or,Classical.not_not] at hn hnb
      obtain ⟨h1,h2,-⟩:=hn
      obtain ⟨g1,g2,-⟩:=hnb
      rw [hat] at h1 h2
      by_cases c3:b < 58
      · rw [if_neg (by omega),g1] at h1
        rw [if_neg (by omega),g2] at h2
        rw [List.take_set] at h1 h2
        refine sumL_turn (l:=x.take 58) (i:=b) (y:=y) (by rw [List.length_take]; omega) (fun h=>hy ?_) (two_bytes h1 h2).symm
        rw [h,getD_of,getD_of,List.getElem?_take,if_pos c3]
      · have e58:(x.set b y).take 58=x.take 58:=List.take_set_of_le (by omega)
        rw [e58,← g1] at h1
        rw [e58,← g2] at h2
        have:b=58∨b=59:=by omega
        rcases this with rfl | rfl
        · rw [if_pos rfl] at h1; exact hy h1
        · rw [if_pos rfl] at h2; exact hy h2
/-! a device with power -/
structure Up (s:Sl):Prop where
  down:s.down=false
  fuse:s.fuse=-1
theorem on_up {s:Sl} (h:Up s):Up s.on:=⟨h.down,by show (if 0 < s.fuse then _ else s.fuse)=_; rw [h.fuse]; decide⟩
theorem write_up {s:Sl} (h:Up s) {j:Nat} (hj:j < s.n) (b:List UInt8):s.write j b=(0,{ s.on with q:=s.q++[⟨j,b⟩] }):=by
  rw [Sl.write,if_neg (by rw [h.down]; decide),if_neg (by omega),if_neg (by rw [h.fuse]; decide)]
  rfl
theorem vis_put (s:Sl) (j:Nat) (b:List UInt8) (i:Nat):vis { s.on with q:=s.q++[⟨j,b⟩] } i=if i=j then b else vis s i:=by
  show ofW (s.q++[⟨j,b⟩]) i (sec s.xs i)=_
  rw [ofW_app]
  show (if j=i then b else ofW s.q i (sec s.xs i))=_
  by_cases e:i=j
  · rw [if_pos e,if_pos e.symm]
  · rw [if_neg e,if_neg (fun h=>e h.symm),vis]
theorem writeL_up:∀ (l:List (List UInt8)) {s:Sl} {j:Nat},Up s→j + l.length≤s.n→(s.writeL j l).1=0∧Up (s.writeL j l).2∧(s.writeL j l).2.n=s.n∧∀ i,vis (s.writeL j l).2 i=if j≤i∧i < j + l.length then l.getD (i - j) [] else vis s i
  | [],s,j,h,_=>⟨rfl,h,rfl,fun i=>by rw [if_neg (by simp only [List.length_nil]; omega),Sl.writeL]⟩
  | b::t,s,j,h,hj=>by
    simp only [List.length_cons] at hj
    have hw:=write_up h (show j < s.n by omega) b
    obtain ⟨h1,h2,h3,h4⟩:=writeL_up t (s:={ s.on with q:=s.q++[⟨j,b⟩] }) (j:=j + 1) ⟨(on_up h).down,(on_up h).fuse⟩ (by show j + 1 + t.length≤s.n; omega)
    rw [Sl.writeL,hw,if_pos rfl]
    refine ⟨h1,h2,h3,fun i=>?_⟩
    rw [h4,vis_put]
    simp only [List.length_cons]
    by_cases e:i=j
    · subst e
      rw [if_neg (by omega),if_pos rfl,if_pos (by omega),Nat.sub_self]
      rfl
    · by_cases e2:j + 1≤i∧i < j + 1 + t.length
      · rw [if_pos e2,if_pos (by omega),show i - j=(i - (j + 1)) + 1 by omega]
        rfl
      · rw [if_neg e2,if_neg e,if_neg (by omega)]
theorem flush_up {s:Sl} (h:Up s) (hok:s.Ok):s.flush.1=0∧Up s.flush.2∧s.flush.2.n=s.n∧∀ i,i < s.n→vis s.flush.2 i=vis s i:=by
  have e:s.flush=(0,{ s.on with xs:=putQ s.xs s.q,q:=[] }):=by
    rw [Sl.flush,if_neg (by rw [h.down]; decide),if_neg (by rw [h.fuse]; decide)]
  rw [e]
  exact ⟨rfl,⟨(on_up h).down,(on_up h).fuse⟩,rfl,fun i hi=>sec_putQ hi hok.xl hok.qo⟩
structure TI (s:Sl) (its:List It):Prop where
  ok:s.Ok
  up:Up s
  n:s.n=400
  le:itsN its≤200
  odd:∀ i,i < itsN its→vis s (200 + i)=(secsA 1 0 its).getD i []
  rest:∀ i,i < 400→¬ (200≤i∧i < 200 + itsN its)→vis s i=zero64
theorem TI.flush {s:Sl} {its:List It} (h:TI s its):s.flush.1=0∧TI s.flush.2 its:=by
  obtain ⟨h1,h2,h3,h4⟩:=flush_up h.up h.ok
  have hle:=h.le
  have hn:=h.n
  exact ⟨h1,Sl.flush_ok h.ok,h2,h3.trans h.n,h.le,fun i hi=>by rw [h4 _ (by omega),h.odd i hi],fun i hi hr=>by rw [h4 _ (by omega),h.rest i hi hr]⟩
theorem TI.put {s:Sl} {its:List It} (h:TI s its) (fl:UInt8) (p:List UInt8):((dput s 1 (itsN its) fl p).1=0∧TI (dput s 1 (itsN its) fl p).2.1 (its++[(fl,p)])∧(dput s 1 (itsN its) fl p).2.2=itsN (its++[(fl,p)])) ∨
    (¬ (dput s 1 (itsN its) fl p).1=0∧(dput s 1 (itsN its) fl p).2.1=s∧(dput s 1 (itsN its) fl p).2.2=itsN its):=by
  have hn:=h.n
  have hle:=h.le
  have hN:itsN (its++[(fl,p)])=itsN its + need p.length:=by rw [itsN_app]; rfl
  unfold dput
  by_cases c1:2048 < p.length
  · rw [if_pos c1]; exact .inr ⟨by show ¬ (8:Int)=0; decide,rfl,rfl⟩
  rw [if_neg c1]
  by_cases c2:(s.n / 2:Int) - itsN its < need p.length
  · rw [if_pos c2]; exact .inr ⟨by show ¬ (4:Int)=0; decide,rfl,rfl⟩
  rw [if_neg c2]
  have hb:half s.n 1=200:=by rw [hn]; rfl
  have hl:=secs_len 1 (itsN its) fl p
  have h64:=secs_64 1 (itsN its) fl p
  obtain ⟨h1,h2,h3,h4⟩:=writeL_up (secs 1 (itsN its) fl p) (s:=s) (j:=half s.n 1 + itsN its) h.up (by rw [hb,hl]; omega)
  rw [if_pos h1]
  rw [hb] at h1 h2 h3 h4 ⊢
  left
  refine ⟨rfl,⟨(writeL_kept h.ok h64).ok,h2,h3.trans hn,by omega,fun i hi=>?_,fun i hi hr=>?_⟩,hN.symm⟩
  · rw [hN] at hi
    show vis (s.writeL _ _).2 _=_
    rw [h4,hl,secsA_app]
    by_cases c:i < itsN its
    · rw [if_neg (by omega),h.odd i c,getD_appL (by rw [secsA_len]; exact c)]
    · rw [if_pos (by omega),getD_appR (by rw [secsA_len]; omega),secsA_len,show 200 + i - (200 + itsN its)=i - itsN its by omega]
      simp [secsA]
  · rw [hN] at hr
    show vis (s.writeL _ _).2 _=_
    rw [h4,hl,if_neg (by omega),h.rest i hi (by omega)]
theorem newS_vis {n i:Nat} (h:i < n):vis (newS n) i=zero64:=by
  have:=(Sim.zero (n:=n)).eq i h
  exact this.symm
theorem TI.start:(dstart (newS 400) 1 []).1=true∧(dstart (newS 400) 1 []).2.1=0∧TI (dstart (newS 400) 1 []).2.2.1 [(4,[])]∧(dstart (newS 400) 1 []).2.2.2=1:=by
  have h0:TI (newS 400) []:=⟨newS_ok (by decide),⟨rfl,rfl⟩,rfl,by decide,fun i hi=>by simp [itsN] at hi,fun i hi _=>newS_vis hi⟩
  have h1:=h0.put 4 []
  have e:dput (newS 400) 1 (itsN []) 4 []=dput (newS 400) 1 0 4 []:=rfl
  rw [e] at h1
  rcases h1 with ⟨a,b,c⟩ | ⟨a,b,c⟩
  · have e2:dstart (newS 400) 1 []=(true,(dput (newS 400) 1 0 4 []).2.1.flush.1,(dput (newS 400) 1 0 4 []).2.1.flush.2,(dput (newS 400) 1 0 4 []).2.2):=if_pos a
    rw [e2]
    exact ⟨rfl,b.flush.1,b.flush.2,c⟩
  · exact absurd (show (dput (newS 400) 1 0 4 []).1=0 by decide +kernel) a
theorem zero_get4:get4 zero64=0:=by decide +kernel
theorem okM_map:∀ (s:Bool) (l:List (List UInt8)),okM s (l.map fun p=>((0:UInt8),p))
  | _,[]=>trivial
  | s,p::l=>.inl ⟨rfl,okM_map s l⟩
theorem recsOf_map:∀ (l:List (List UInt8)),recsOf (l.map fun p=>((0:UInt8),p))=l
  | []=>rfl
  | p::l=>by
    have:=recsOf_map l
    simp only [recsOf,List.map_cons] at this ⊢
    rw [List.filter_cons_of_pos (by rfl),List.map_cons,this]
theorem turns {s:Sl} {all:List (List UInt8)} {j b:Nat} {y:UInt8} (h:TI s ((4,[])::all.map fun p=>((0:UInt8),p))) (hj:j < itsN ((4,[])::all.map fun p=>((0:UInt8),p))) (hb:b < 64) (hy:¬ y=(vis s (200 + j)).getD b 0) :
    ∃ e g l,dload (tdH (s.write ((200 + j:Nat):Int) ((vis s (200 + j)).set b y)).2 0) (tdH (s.write ((200 + j:Nat):Int) ((vis s (200 + j)).set b y)).2 1)=(e,g,l)∧((e=31∧l=[])∨(e=0∧∃ u,all=l++u)):=by
  obtain ⟨its,hits⟩:∃ its:List It,its=(4,[])::all.map fun p=>((0:UInt8),p):=⟨_,rfl⟩
  rw [← hits] at h hj
  have hle:=h.le
  have hn:=h.n
  have hkm:okM false its:=hits ▸ .inr ⟨rfl,rfl,okM_map _ _⟩
  have hra:recsOf its=all:=by
    rw [hits]
    have:=recsOf_map all
    simp only [recsOf] at this ⊢
    rw [List.filter_cons_of_neg (by decide),this]
  obtain ⟨x,hx⟩:∃ x,vis s (200 + j)=x:=⟨_,rfl⟩
  have hxw:x=(secsA 1 0 its).getD j []:=hx ▸ h.odd j hj
  have hx64:x.length=64:=hx ▸ vis_len h.ok (by omega)
  have hlk:lookS x 1 (j:Nat)=0:=by
    have:=secsA_look 1 0 its j hj
    rw [Nat.zero_add] at this
    rw [hxw]; exact this
  rw [hx] at hy ⊢
  rw [write_up h.up (by omega)]
  obtain ⟨s',hs'⟩:∃ s':Sl,s'={ s.on with q:=s.q++[⟨200 + j,x.set b y⟩] }:=⟨_,rfl⟩
  have hv:∀ i,vis s' i=if i=200 + j then x.set b y else vis s i:=fun i=>by rw [hs']; exact vis_put s (200 + j) (x.set b y) i
  have hn':s'.n=400:=by rw [hs']; exact hn
  show ∃ e g l,dload (tdH { s.on with q:=s.q++[⟨200 + j,x.set b y⟩] } 0) (tdH { s.on with q:=s.q++[⟨200 + j,x.set b y⟩] } 1)=(e,g,l)∧_
  rw [← hs']
  have h0:tdH s' 0=some ⟨0,[],false⟩:=by
    refine if_pos (.inr (.inl ?_))
    show get4 (vis s' (0 * (s'.n / 2) + 0))=0
    rw [hv,if_neg (by omega),h.rest _ (by omega) (by omega)]
    exact zero_get4
  rw [h0]
  have hF:∀ i,i < 200→¬ i=j→i < itsN its→vis s' (1 * (s'.n / 2) + i)=(secsA 1 0 its).getD i []:=fun i h1 h2 h3=>by
    rw [hn',hv,if_neg (by omega),show 1 * (400 / 2) + i=200 + i by omega,h.odd i h3]
  have hFj:vis s' (1 * (s'.n / 2) + j)=x.set b y:=by rw [hn',hv,if_pos (by omega)]
  -- what the odd half tells
  have h1:tdH s' 1=none∨∃ o:Td,tdH s' 1=some o∧(o.sure=true→∃ u,all=o.recs++u):=by
    obtain ht:=turn_look hx64 hlk hb hy
    by_cases hj0:j=0
    · have hF0:vis s' (1 * (s'.n / 2) + 0)=x.set b y:=by rw [← hj0]; exact hFj
      rcases ht with ⟨_,a1,a2⟩ | ⟨_,a1,a2⟩ | ⟨a1,a2,a3⟩
      · refine .inr ⟨⟨0,[],false⟩,if_pos (.inr (.inr (.inl ?_))),fun h=>by cases h⟩
        show ¬ get4 ((vis s' (1 * (s'.n / 2) + 0)).drop 60)=get4 (vis s' (1 * (s'.n / 2) + 0))
        rw [hF0,a2]
        exact fun h=>a1 h.symm
      · refine .inr ⟨⟨0,[],false⟩,if_pos (.inr (.inr (.inl ?_))),fun h=>by cases h⟩
        show ¬ get4 ((vis s' (1 * (s'.n / 2) + 0)).drop 60)=get4 (vis s' (1 * (s'.n / 2) + 0))
        rw [hF0,a1]
        exact a2
      · left
        rw [tdH,rdHalf,if_neg]
        · show ((rdGo _ (get4 (vis s' (1 * (s'.n / 2) + 0))) (s'.n / 2) 0 [] false [] false).map fun r=>Td.mk (get4 (vis s' (1 * (s'.n / 2) + 0))) r.1 r.2)=none
          rw [hF0,a1,hn']
          have hS:=stop_2 (F:=fun k=>vis s' (1 * (s'.n / 2) + k)) (g:=1) (m:=199) (k:=0) (by show lookS (vis s' (1 * (s'.n / 2) + 0)) 1 _=2; rw [hF0,← a3,hj0])
          rw [hn'] at hS
          rw [show 400 / 2=199 + 1 from rfl,hS]
          rfl
        · show ¬ (s'.n / 2=0∨get4 (vis s' (1 * (s'.n / 2) + 0))=0∨¬ get4 ((vis s' (1 * (s'.n / 2) + 0)).drop 60)=get4 (vis s' (1 * (s'.n / 2) + 0))∨¬ (get4 (vis s' (1 * (s'.n / 2) + 0)) % 2).toNat=1)
          rw [hF0,a1,a2,hn']
          decide
    · have hres:∃ res,Stop (fun k=>vis s' (1 * (s'.n / 2) + k)) 1 (200 - j) j res:=by
        rw [show 200 - j=(200 - j - 1) + 1 by omega]
        rcases ht with ⟨_,a1,a2⟩ | ⟨_,a1,a2⟩ | ⟨a1,a2,a3⟩
        · exact ⟨true,stop_1 (by show lookS (vis s' (1 * (s'.n / 2) + j)) 1 _=1; rw [hFj,lookS,if_pos (.inl a1)])⟩
        · exact ⟨true,stop_1 (by show lookS (vis s' (1 * (s'.n / 2) + j)) 1 _=1; rw [hFj,lookS,if_pos (.inr a2)])⟩
        · exact ⟨false,stop_2 (by show lookS (vis s' (1 * (s'.n / 2) + j)) 1 _=2; rw [hFj,a3])⟩
      obtain ⟨res,hS⟩:=hres
      have:=rdHalf_all (F:=fun k=>vis s' (1 * (s'.n / 2) + k)) (g:=1) (h:=1) (many:=s'.n / 2) (M:=j) (m:=200 - j) (res:=res) (its:=its) (by rw [hn']; omega) (by omega) (by omega) hkm (by decide) (by decide) (fun i hi=>hF i (by omega) (by omega) (by omega)) hS
      rw [show tdH s' 1=_ from this]
      cases res with
      | false=>exact .inl rfl
      | true =>
        refine .inr ⟨_,rfl,fun _=>?_⟩
        obtain ⟨u,hu⟩:=wh_pre j its
        exact ⟨recsOf u,by rw [← recsOf_app,← hu,hra]⟩
  rcases h1 with h1 | ⟨o,h1,h2⟩
  · rw [h1]
    exact ⟨31,0,[],rfl,.inl ⟨rfl,rfl⟩⟩
  · rw [h1]
    by_cases hs:o.sure=true
    · exact ⟨0,_,o.recs,by simp only [dload]; rw [if_neg (fun h=>by cases h.1),if_pos hs],.inr ⟨rfl,h2 hs⟩⟩
    · by_cases hg:0 < o.gen.toNat
      · exact ⟨0,_,[],by simp only [dload]; rw [if_neg (fun h=>by cases h.1),if_neg hs,if_neg (by decide),if_pos hg],.inr ⟨rfl,all,rfl⟩⟩
      · exact ⟨0,_,[],by simp only [dload]; rw [if_neg (fun h=>by cases h.1),if_neg hs,if_neg (by decide),if_neg hg],.inr ⟨rfl,all,rfl⟩⟩
end Go.Proofs.Ytkecdcmjkghddaa
end

section
/- The law of turned bytes. -/
namespace Go.Proofs.Ytkecdcmjkghddaa
open Go Go.Fw
abbrev VP:=Value × List UInt8
def recsV (ps:List VP):List (List UInt8):=ps.map (·.2)
theorem vp_at {ps:List VP} {i:Nat} (h:i < ps.length):(ps.getD i (.nilIface,[])).2=(recsV ps).getD i []:=by
  simp [recsV,List.getD_eq_getElem?_getD,h]
theorem take_eq {a b:List (List UInt8)} {i:Nat} (ha:i < a.length) (hb:i < b.length):a.take (i + 1)=b.take (i + 1) ↔ (a.take i=b.take i∧a.getD i []=b.getD i []):=by
  rw [List.take_add_one,List.take_add_one,List.getElem?_eq_getElem ha,List.getElem?_eq_getElem hb,List.getD_eq_getElem?_getD,List.getD_eq_getElem?_getD,List.getElem?_eq_getElem ha,List.getElem?_eq_getElem hb]
  simp only [Option.toList_some,Option.getD_some]
  constructor
  · intro h
    have:=List.append_inj h (by simp; omega)
    exact ⟨this.1,by simpa using this.2⟩
  · rintro ⟨h1,h2⟩
    rw [h1,h2]
def preV (a b:List (List UInt8)):Bool:=decide (a.length≤b.length) && decide (a=b.take a.length)
theorem preV_yes {a u:List (List UInt8)}:preV a (a++u)=true:=by simp [preV]
theorem RdP.takeV {w:World} {ad:Option Addr} {cap m:Nat} {ps:List VP} (h:RdP w (.slice ad ps.length cap) ps) (hm:m≤ps.length):RdP w (.slice (if cap=0 then ad else ad.map (·.add 0)) m cap) (ps.take m):=by
  refine ⟨?_,fun q hq=>h.2 q (List.mem_of_mem_take hq)⟩
  obtain ⟨ad',cap',e,h1,h2,h3,h4⟩:=h.1
  cases e
  have hl:(ps.take m).length=m:=by rw [List.length_take]; omega
  have hz:(if cap=0 then ad else ad.map (·.add 0))=none→cap=0:=fun h9=>by
    by_cases e:cap=0
    · exact e
    · rw [if_neg e] at h9
      cases ad with
      | none=>exact h3 rfl
      | some a=>cases h9
  refine ⟨_,cap,by rw [hl],by rw [hl]; omega,h2,hz,?_⟩
  by_cases hm0:m=0
  · left
    subst hm0
    rfl
  rcases h4 with h4 | ⟨b,o,T,fr,all,rfl,hb,hc⟩
  · have:ps=[]:=List.map_eq_nil_iff.1 h4
    subst this
    exact absurd hm (by simpa using hm0)
  · refine .inr ⟨b,o,T,fr,all,?_,hb,?_⟩
    · split <;> rfl
    · rw [List.length_map,hl,List.map_take,← hc,List.take_take,List.length_map]
      congr 1
      omega
theorem ref15_Same (ps qs:List VP) (v1 v2:Value) (w:World) (hP:RdP w v1 ps) (hQ:RdP w v2 qs):Ctr Try.prog 35 [v1,v2] w (fun _=>False) (fun v _=>v=.bool (decide (recsV ps=recsV qs))):=by
  have hn1:=hP.1.le
  have hn2:=hQ.1.le
  obtain ⟨ad1,cap1,rfl,_,_⟩:=RdP.sl hP
  obtain ⟨ad2,cap2,rfl,_,_⟩:=RdP.sl hQ
  refine fn_start (N:=28) Try.func35 rfl rfl rfl fun ac hk=>?_
  have hs:=St.start hk w
  refine wp_seq (wp_reg ?_)
  refine s_q hs (c_assign (hs.ev rfl)) rfl fun ac hs=>?_
  refine s_end (then_n (wp_seq (wp_seq (wp_reg ?_))))
  refine s_q hs (c_move (hs.ev rfl)) rfl fun ac hs=>?_
  refine s_q hs (c_lenS un51 (hs.ev rfl)) rfl fun ac hs=>?_
  refine s_q hs (c_move (hs.ev rfl)) rfl fun ac hs=>?_
  refine s_q hs (c_lenS un51 (hs.ev rfl)) rfl fun ac hs=>?_
  refine s_q hs (c_neqI (hs.ev rfl) (hs.ev rfl)) rfl fun ac hs=>?_
  refine s_end ?_
  replace hs:=hs.sub (F':=[(0,_),(1,_),(4,_),(10,_)]) ⟨rfl,rfl,rfl,rfl,trivial⟩
  refine then_n ?_
  refine s_cond hs rfl (fun hc=>?_) (fun hc=>?_)
  · try simp only [decide_eq_true_eq,decide_eq_false_iff_not,Bool.not_eq_true',Bool.not_eq_false',Bool.and_eq_true,Bool.or_eq_true,Bool.or_eq_false_iff] at hc
    have hne:¬ recsV ps=recsV qs:=fun e=>by
      have h9:=congrArg List.length e
      simp only [recsV,List.length_map] at h9
      omega
    refine wp_seq (wp_reg ?_)
    refine s_q hs (c_assign (hs.ev rfl)) rfl fun ac hs=>?_
    refine s_end ?_
    replace hs:=hs.sub (F':=[(0,_),(1,_),(4,_)]) ⟨rfl,rfl,rfl,trivial⟩
    refine then_n (wp_ret (then_r ?_))
    refine s_ret hs rfl (.tmp (hs.tmp rfl) .nil) rfl ⟨_,rfl,hs.fr,?_⟩
    rw [decide_eq_false hne]
    rfl
  · try simp only [decide_eq_true_eq,decide_eq_false_iff_not,Bool.not_eq_true',Bool.not_eq_false',Bool.and_eq_true,Bool.or_eq_true,Bool.or_eq_false_iff] at hc
    have hlen:ps.length=qs.length:=by omega
    refine wp_skip (then_n (wp_seq (wp_seq (wp_reg ?_))))
    refine s_q hs (c_assign (hs.ev rfl)) rfl fun ac hs=>?_
    refine s_end ?_
    replace hs:=hs.sub (F':=[(0,_),(1,_),(4,_),(5,_)]) ⟨rfl,rfl,rfl,rfl,trivial⟩
    refine then_n (wp_block ?_)
    refine s_loop hs (X:=Nat) (fun i=>[(5,I i)]) [(0,_),(1,_)] (fun _=>[]) (fun n i=>i≤ps.length∧(recsV ps).take i=(recsV qs).take i∧n=ps.length - i) (_) (0) (⟨Nat.zero_le _,rfl,rfl⟩) ⟨rfl,rfl,rfl,trivial⟩ rfl ?_
    rintro n i ac ww hok2 hs
    skip
    obtain ⟨hi,he,rfl⟩:=hok2
    refine wp_seq (wp_seq (wp_reg ?_))
    refine s_q hs (c_move (hs.ev rfl)) rfl fun ac hs=>?_
    refine s_q hs (c_move (hs.ev rfl)) rfl fun ac hs=>?_
    refine s_q hs (c_lenS un51 (hs.ev rfl)) rfl fun ac hs=>?_
    refine s_q hs (c_lssI (hs.ev rfl) (hs.ev rfl)) rfl fun ac hs=>?_
    refine s_end (then_n ?_)
    refine s_cond hs rfl (fun hc=>?_) (fun hc=>?_)
    · try simp only [decide_eq_true_eq,decide_eq_false_iff_not,Bool.not_eq_true',Bool.not_eq_false',Bool.and_eq_true,Bool.or_eq_true,Bool.or_eq_false_iff] at hc
      have hip:i < ps.length:=by omega
      have hiq:i < qs.length:=by omega
      obtain ⟨b1,o1,T1,f1,all1,e1,hb1,hc1⟩:=RdP.at' (hP.fr0 hs.fr) (by omega)
      obtain ⟨b2,o2,T2,f2,all2,e2,hb2,hc2⟩:=RdP.at' (hQ.fr0 hs.fr) (by omega)
      have hs9:=hs
      subst e1 e2
      replace hs:=hs9
      have hc1':=seg_get1 (f:=fun q:VP=>q.1) (i:=i) (.nilIface,[]) hc1 hip
      have hc2':=seg_get1 (f:=fun q:VP=>q.1) (i:=i) (.nilIface,[]) hc2 hiq
      have hr1:=RdP.get (hP.fr0 hs.fr) hip
      have hr2:=RdP.get (hQ.fr0 hs.fr) hiq
      refine wp_skip (then_n (wp_seq (wp_block (wp_seq ?_))))
      refine wp_region_rg pmix 11 (by kernel_rfl) rfl hs ?_
      simp only [List.take_succ_cons,List.take_zero]
      refine rg_q (fun ac ww h=>c_move (h.ev rfl)) rfl ?_
      refine rg_q (fun ac ww h=>c_move (h.ev rfl)) rfl ?_
      refine rg_q (fun ac ww h=>c_idxS (j:=i) un51 ty38 (h.ev rfl) (h.ev rfl) (by omega) (by omega)) rfl ?_
      refine rg_q (fun ac ww h=>c_loadS un38 rfl (h.ev rfl) (h.blk hb1) hc1') rfl ?_
      refine rg_q (fun ac ww h=>c_cvST un38 un5 un9 (h.ev rfl) (hr1.fr0 h.fr)) rfl ?_
      refine rg_q (fun ac ww h=>c_move (h.ev rfl)) rfl ?_
      refine rg_q (fun ac ww h=>c_move (h.ev rfl)) rfl ?_
      refine rg_q (fun ac ww h=>c_idxS (j:=i) un51 ty38 (h.ev rfl) (h.ev rfl) (by omega) (by omega)) rfl ?_
      refine rg_q (fun ac ww h=>c_loadS un38 rfl (h.ev rfl) (h.blk hb2) hc2') rfl ?_
      refine rg_q (fun ac ww h=>c_cvST un38 un5 un9 (h.ev rfl) (hr2.fr0 h.fr)) rfl ?_
      refine rg_q (fun ac ww h=>c_neqTT (h.ev rfl) (h.ev rfl)) rfl ?_
      refine rg_nil fun ac ww L' hf hfe hs=>?_
      simp only [List.drop_succ_cons,List.drop_zero]
      obtain rfl:L'=[]:=hfe
      replace hs:=hs.toL (List.nil_append _)
      refine s_end (then_n ?_)
      refine s_cond hs rfl (fun hc=>?_) (fun hc=>?_)
      · skip
        have hne:¬ recsV ps=recsV qs:=fun e=>by
          simp only [bne_iff_ne,ne_eq] at hc
          exact hc (by rw [vp_at hip,vp_at hiq,e])
        refine wp_seq (wp_reg ?_)
        refine s_q hs (c_assign (hs.ev rfl)) rfl fun ac hs=>?_
        refine s_end (then_n (wp_ret (blk_r (then_r (then_r (blk_r (then_r ?_)))))))
        refine s_ret hs rfl (.tmp (hs.tmp rfl) .nil) rfl ⟨_,rfl,hs.fr,?_⟩
        rw [decide_eq_false hne]
        rfl
      · skip
        have he2:(recsV ps).take (i + 1)=(recsV qs).take (i + 1):=(take_eq (by simp [recsV]; omega) (by simp [recsV]; omega)).2 ⟨he,by
          rw [← vp_at hip,← vp_at hiq]
          simpa using hc⟩
        refine wp_skip (blk_n (then_n (wp_reg ?_)))
        refine s_q hs (c_move (hs.ev rfl)) rfl fun ac hs=>?_
        refine s_q hs (c_addI (hs.ev rfl) (hs.ev rfl) (by omega) (by omega)) rfl fun ac hs=>?_
        refine s_q hs (c_assign (hs.ev rfl)) rfl fun ac hs=>?_
        refine s_end (then_n ?_)
        exact ⟨ps.length - (i + 1),by omega,i + 1,⟨by omega,he2,rfl⟩,St.next hs ⟨rfl,rfl,rfl,trivial⟩ rfl⟩
    · try simp only [decide_eq_true_eq,decide_eq_false_iff_not,Bool.not_eq_true',Bool.not_eq_false',Bool.and_eq_true,Bool.or_eq_true,Bool.or_eq_false_iff] at hc
      obtain rfl:i=ps.length:=by omega
      have heq:recsV ps=recsV qs:=by
        rwa [List.take_of_length_le (by simp [recsV]),List.take_of_length_le (by simp [recsV]; omega)] at he
      refine wp_exit (then_e (then_e (blk_hit (then_n (wp_seq (wp_reg ?_))))))
      refine s_q hs (c_assign (hs.ev rfl)) rfl fun ac hs=>?_
      refine s_end ?_
      replace hs:=hs.sub (F':=[(4,_)]) ⟨rfl,trivial⟩
      refine then_n (wp_ret ?_)
      refine s_ret hs rfl (.tmp (hs.tmp rfl) .nil) rfl ⟨_,rfl,hs.fr,?_⟩
      rw [decide_eq_true heq]
      rfl
theorem law15_begins (ps qs:List VP) (v1 v2:Value) (w:World) (hP:RdP w v1 ps) (hQ:RdP w v2 qs):Ctr Try.prog 31 [v1,v2] w (fun _=>False) (fun v _=>v=.bool (preV (recsV ps) (recsV qs))):=by
  have hn1:=hP.1.le
  have hn2:=hQ.1.le
  obtain ⟨ad1,cap1,rfl,_,_⟩:=RdP.sl hP
  obtain ⟨ad2,cap2,rfl,_,_⟩:=RdP.sl hQ
  refine fn_start (N:=18) Try.func31 rfl rfl rfl fun ac hk=>?_
  have hs:=St.start hk w
  refine wp_seq (wp_reg ?_)
  refine s_q hs (c_assign (hs.ev rfl)) rfl fun ac hs=>?_
  refine s_end (then_n (wp_seq (wp_reg ?_)))
  by_cases hle:ps.length≤qs.length
  · refine s_q hs (c_move (hs.ev rfl)) rfl fun ac hs=>?_
    refine s_q hs (c_lenS un51 (hs.ev rfl)) rfl fun ac hs=>?_
    refine s_q hs (c_move (hs.ev rfl)) rfl fun ac hs=>?_
    refine s_q hs (c_lenS un51 (hs.ev rfl)) rfl fun ac hs=>?_
    refine s_q hs (c_tt (c_leqI (hs.ev rfl) (hs.ev rfl)) ((decide_eq_true (by omega)))) rfl fun ac hs=>?_
    refine s_q hs (c_move (hs.ev rfl)) rfl fun ac hs=>?_
    refine s_yes hs rfl rfl ?_
    refine s_q hs (c_move (hs.ev rfl)) rfl fun ac hs=>?_
    refine s_yes hs rfl rfl ?_
    refine s_q hs (c_move (hs.ev rfl)) rfl fun ac hs=>?_
    refine s_yes hs rfl rfl ?_
    refine s_q hs (c_move (hs.ev rfl)) rfl fun ac hs=>?_
    refine s_yes hs rfl rfl ?_
    refine s_q hs (c_lenS un51 (hs.ev rfl)) rfl fun ac hs=>?_
    refine s_yes hs rfl rfl ?_
    refine s_q hs (c_sliceH (j:=ps.length) un51 ty38 (hs.ev rfl) (hs.ev rfl) (by omega) (by omega)) rfl fun ac hs=>?_
    refine s_yes hs rfl rfl ?_
    refine s_call hs fu35 (.cons (hs.ev rfl) (.cons (hs.ev rfl) .nil)) (ref15_Same ps (qs.take ps.length) _ _ _ (hP.fr0 hs.fr) (RdP.takeV (hQ.fr0 hs.fr) hle)) rfl fun ac ww v16 hf hp hs=>?_
    obtain rfl:=hp
    replace hs:=hs [] (.nil _ _)
    refine s_q hs (c_pick (hs.ev rfl) (hs.ev rfl) (hs.ev rfl)) rfl fun ac hs=>?_
    refine s_q hs (c_assign (hs.ev rfl)) rfl fun ac hs=>?_
    refine s_end ?_
    replace hs:=hs.sub (F':=[(4,_)]) ⟨rfl,trivial⟩
    refine then_n (wp_ret ?_)
    refine s_ret hs rfl (.tmp (hs.tmp rfl) .nil) rfl ⟨_,rfl,hs.fr,?_⟩
    rw [preV,decide_eq_true (show (recsV ps).length≤(recsV qs).length by simp only [recsV,List.length_map]; omega),Bool.true_and]
    show Value.bool _=Value.bool _
    congr 2
    simp [recsV]
  · refine s_q hs (c_move (hs.ev rfl)) rfl fun ac hs=>?_
    refine s_q hs (c_lenS un51 (hs.ev rfl)) rfl fun ac hs=>?_
    refine s_q hs (c_move (hs.ev rfl)) rfl fun ac hs=>?_
    refine s_q hs (c_lenS un51 (hs.ev rfl)) rfl fun ac hs=>?_
    refine s_q hs (c_ff (c_leqI (hs.ev rfl) (hs.ev rfl)) ((decide_eq_false (by omega)))) rfl fun ac hs=>?_
    refine s_q hs (c_move (hs.ev rfl)) rfl fun ac hs=>?_
    refine s_no hs rfl rfl rfl rfl fun ac hs=>?_
    refine s_no hs rfl rfl rfl rfl fun ac hs=>?_
    refine s_no hs rfl rfl rfl rfl fun ac hs=>?_
    refine s_no hs rfl rfl rfl rfl fun ac hs=>?_
    refine s_no hs rfl rfl rfl rfl fun ac hs=>?_
    refine s_no hs rfl rfl rfl rfl fun ac hs=>?_
    refine s_q hs (c_pick (hs.ev rfl) (hs.ev rfl) (hs.ev rfl)) rfl fun ac hs=>?_
    refine s_q hs (c_assign (hs.ev rfl)) rfl fun ac hs=>?_
    refine s_end ?_
    replace hs:=hs.sub (F':=[(4,_)]) ⟨rfl,trivial⟩
    refine then_n (wp_ret ?_)
    refine s_ret hs rfl (.tmp (hs.tmp rfl) .nil) rfl ⟨_,rfl,hs.fr,?_⟩
    rw [preV,decide_eq_false (show ¬ (recsV ps).length≤(recsV qs).length by simp only [recsV,List.length_map]; omega)]
    rfl
def o15C (k:Int) (pv:Value) (gen:UInt32) (rv:Value) (n a:Int) (b:List UInt8):List Value:=I k::pv::U gen::rv::I n::I a::b.map B
def fitsV (p:List UInt8) (qs:List VP):Prop:=p.length≤2100∧qs.length≤12∧∀ q∈qs,q.2.length≤2100
theorem vp_mem {ps:List VP} {i:Nat} (h:i < ps.length):ps.getD i (.nilIface,[])∈ps:=by
  rw [List.getD_eq_getElem?_getD,List.getElem?_eq_getElem h]
  exact List.getElem_mem h
theorem vp_all {qs:List VP} (h:∀ j,j < qs.length→(qs.getD j (.nilIface,[])).2.length≤2100):∀ q∈qs,q.2.length≤2100:=fun q hq=>by
  obtain ⟨j,hj,rfl⟩:=List.getElem_of_mem hq
  have:=h j hj
  rwa [List.getD_eq_getElem?_getD,List.getElem?_eq_getElem hj] at this
theorem law15_fits (k:Int) (pv:Value) (gen:UInt32) (rv:Value) (n a:Int) (b:List UInt8) (p:List UInt8) (qs:List VP) (w:World) (hP:RdB w pv p) (hQ:RdP w rv qs):Ctr Try.prog 25 [.agg (o15C k pv gen rv n a b).toArray] w (fun _=>False) (fun v _=>∃ b,v=.bool b∧(b=true ↔ fitsV p qs)):=by
  have hnp:=hP.le
  have hnq:=hQ.1.le
  obtain ⟨pad,pcap,rfl,_,_⟩:=Rd.sl hP
  obtain ⟨qad,qcap,rfl,_,_⟩:=RdP.sl hQ
  refine fn_start (N:=26) Try.func25 rfl rfl rfl fun ac hk=>?_
  have hs:=St.start hk w
  refine wp_seq (wp_reg ?_)
  refine s_box hs rfl rfl rfl fun ac ww g1 hs=>?_
  refine s_q hs (c_assign (hs.ev rfl)) rfl fun ac hs=>?_
  refine s_end ?_
  replace hs:=hs.sub (F':=[(1,_),(2,_)]) ⟨rfl,rfl,trivial⟩
  refine then_n (wp_seq (wp_seq (wp_reg ?_)))
  refine s_q hs (c_fld fl55_1 (hs.ev rfl)) rfl fun ac hs=>?_
  refine s_q hs (c_loadS un38 rfl (hs.ev rfl) (hs.seg (i:=0) rfl) rfl) rfl fun ac hs=>?_
  refine s_q hs (c_lenS un38 (hs.ev rfl)) rfl fun ac hs=>?_
  refine s_q hs (c_gtrI (hs.ev rfl) (hs.ev rfl)) rfl fun ac hs=>?_
  refine s_q hs (c_move (hs.ev rfl)) rfl fun ac hs=>?_
  refine s_g hs rfl rfl (fun hg=>c_fld fl55_3 (hs.ev rfl)) rfl fun ac hs=>?_
  refine s_g hs rfl rfl (fun hg=>c_loadS un51 rfl (gev (hs.ev rfl) hg) (hs.seg (i:=0) rfl) rfl) rfl fun ac hs=>?_
  refine s_g hs rfl rfl (fun hg=>c_lenS un51 (gev (hs.ev rfl) hg)) rfl fun ac hs=>?_
  refine s_g hs rfl rfl (fun hg=>c_gtrI (gev (hs.ev rfl) hg) (hs.ev rfl)) rfl fun ac hs=>?_
  refine s_q hs (c_or (hs.ev rfl) (hs.ev rfl)) rfl fun ac hs=>?_
  refine s_end ?_
  replace hs:=hs.sub (F':=[(1,_),(2,_),(14,_)]) ⟨rfl,rfl,rfl,trivial⟩
  refine then_n ?_
  refine s_cond hs rfl (fun hc=>?_) (fun hc=>?_)
  · skip
    have hno:¬ fitsV p qs:=by
      rintro ⟨h1,h2,_⟩
      simp at hc
      omega
    refine wp_seq (wp_reg ?_)
    refine s_q hs (c_assign (hs.ev rfl)) rfl fun ac hs=>?_
    refine s_end ?_
    replace hs:=hs.sub (F':=[(1,_),(2,_)]) ⟨rfl,rfl,trivial⟩
    refine then_n (wp_ret (then_r ?_))
    refine s_ret hs rfl (.tmp (hs.tmp rfl) .nil) rfl ⟨_,rfl,hs.fr,?_⟩
    exact ⟨false,rfl,(fun h=>by cases h),fun h=>absurd h hno⟩
  · skip
    have h12:p.length≤2100∧qs.length≤12:=by
      simp at hc
      omega
    refine wp_skip (then_n (wp_seq (wp_seq (wp_reg ?_))))
    refine s_q hs (c_fld fl55_3 (hs.ev rfl)) rfl fun ac hs=>?_
    refine s_q hs (c_loadS un51 rfl (hs.ev rfl) (hs.seg (i:=0) rfl) rfl) rfl fun ac hs=>?_
    refine s_q hs (c_lenS un51 (hs.ev rfl)) rfl fun ac hs=>?_
    refine s_q hs (c_move (hs.ev rfl)) rfl fun ac hs=>?_
    refine s_end ?_
    replace hs:=hs.sub (F':=[(2,_),(16,_),(17,_),(18,_)]) ⟨rfl,rfl,rfl,rfl,trivial⟩
    refine then_n (wp_block ?_)
    refine s_loop hs (X:=Nat) (fun i=>[(18,I i)]) [(16,_),(17,_)] (fun _=>[_]) (fun n i=>i≤qs.length∧(∀ j,j < i→(qs.getD j (.nilIface,[])).2.length≤2100)∧n=qs.length - i) (_) (0) (⟨Nat.zero_le _,fun _ h=>absurd h (by omega),rfl⟩) ⟨rfl,rfl,rfl,trivial⟩ rfl ?_
    rintro n i ac ww hok2 hs
    simp only [List.cons_append,List.nil_append] at hs
    obtain ⟨hi,he,rfl⟩:=hok2
    refine wp_seq (wp_reg ?_)
    refine s_q hs (c_lssI (hs.ev rfl) (hs.ev rfl)) rfl fun ac hs=>?_
    refine s_end (then_n (wp_seq ?_))
    refine s_cond hs rfl (fun hc=>?_) (fun hc=>?_)
    · try simp only [decide_eq_true_eq,decide_eq_false_iff_not,Bool.not_eq_true',Bool.not_eq_false',Bool.and_eq_true,Bool.or_eq_true,Bool.or_eq_false_iff] at hc
      have hip:i < qs.length:=by omega
      obtain ⟨b1,o1,T1,f1,all1,rfl,hb1,hc1⟩:=RdP.at' (hQ.fr0 hs.fr) (by omega)
      have hc1':=seg_get1 (f:=fun q:VP=>q.1) (i:=i) (.nilIface,[]) hc1 hip
      have hr1:=RdP.get (hQ.fr0 hs.fr) hip
      refine wp_skip (then_n (wp_seq (wp_block (wp_seq (wp_reg ?_)))))
      refine s_q hs (c_idxS (j:=i) un51 ty38 (hs.ev rfl) (hs.ev rfl) (by omega) (by omega)) rfl fun ac hs=>?_
      refine s_q hs (c_loadS un38 rfl (hs.ev rfl) hb1 hc1') rfl fun ac hs=>?_
      refine s_q hs (c_assign (hs.ev rfl)) rfl fun ac hs=>?_
      refine s_end (then_n (wp_seq (wp_reg ?_)))
      refine s_q hs (c_move (hs.ev rfl)) rfl fun ac hs=>?_
      refine s_q hs (c_lenR un38 (hs.ev rfl) hr1) rfl fun ac hs=>?_
      refine s_q hs (c_gtrI (hs.ev rfl) (hs.ev rfl)) rfl fun ac hs=>?_
      refine s_end (then_n ?_)
      refine s_cond hs rfl (fun hc=>?_) (fun hc=>?_)
      · try simp only [decide_eq_true_eq,decide_eq_false_iff_not,Bool.not_eq_true',Bool.not_eq_false',Bool.and_eq_true,Bool.or_eq_true,Bool.or_eq_false_iff] at hc
        have hno:¬ fitsV p qs:=by
          rintro ⟨_,_,h3⟩
          have:=h3 _ (vp_mem hip)
          omega
        refine wp_seq (wp_reg ?_)
        refine s_q hs (c_assign (hs.ev rfl)) rfl fun ac hs=>?_
        refine s_end (then_n (wp_ret (blk_r (then_r (then_r (blk_r (then_r ?_)))))))
        refine s_ret hs rfl (.tmp (hs.tmp rfl) .nil) rfl ⟨_,rfl,hs.fr,?_⟩
        exact ⟨false,rfl,(fun h=>by cases h),fun h=>absurd h hno⟩
      · try simp only [decide_eq_true_eq,decide_eq_false_iff_not,Bool.not_eq_true',Bool.not_eq_false',Bool.and_eq_true,Bool.or_eq_true,Bool.or_eq_false_iff] at hc
        have hl9:(qs.getD i (.nilIface,[])).2.length≤2100:=by omega
        refine wp_skip (blk_n (then_n (wp_reg ?_)))
        refine s_q hs (c_addI (hs.ev rfl) (hs.ev rfl) (by omega) (by omega)) rfl fun ac hs=>?_
        refine s_q hs (c_move (hs.ev rfl)) rfl fun ac hs=>?_
        refine s_end (then_n ?_)
        exact ⟨qs.length - (i + 1),by omega,i + 1,⟨by omega,fun j hj=>by
            by_cases e:j=i
            · subst e; exact hl9
            · exact he j (by omega),rfl⟩,St.next hs ⟨rfl,rfl,rfl,trivial⟩ rfl⟩
    · try simp only [decide_eq_true_eq,decide_eq_false_iff_not,Bool.not_eq_true',Bool.not_eq_false',Bool.and_eq_true,Bool.or_eq_true,Bool.or_eq_false_iff] at hc
      obtain rfl:i=qs.length:=by omega
      refine wp_exit (then_e (then_e (blk_hit (then_n (wp_seq (wp_reg ?_))))))
      refine s_q hs (c_assign (hs.ev rfl)) rfl fun ac hs=>?_
      refine s_end ?_
      replace hs:=hs.sub (F':=[(2,_)]) ⟨rfl,trivial⟩
      refine then_n (wp_ret ?_)
      refine s_ret hs rfl (.tmp (hs.tmp rfl) .nil) rfl ⟨_,rfl,hs.fr,?_⟩
      exact ⟨true,rfl,fun _=>⟨h12.1,h12.2,vp_all he⟩,fun _=>rfl⟩
def tIts (all:List VP):List It:=(4,[])::(recsV all).map fun p=>((0:UInt8),p)
theorem tIts_app (all:List VP) (x:VP):tIts (all++[x])=tIts all++[(0,x.2)]:=by simp [tIts,recsV]
theorem tIts_one (all:List VP):1≤itsN (tIts all):=by
  have e:itsN (tIts all)=need 0 + itsN ((recsV all).map fun p=>((0:UInt8),p)):=rfl
  have:need 0=1:=by decide
  omega
structure TS where
  s:Sl
  qv:Value
  av:Value
  all:List VP
structure TJ (k:Nat) (z:TS) (w:World):Prop where
  ti:TI z.s (tIts z.all)
  st:z.s.steps≤100 * (k + 1)
  q:z.s.q.length≤100 * (k + 1)
  le:z.all.length≤k
  rd:∀ q∈z.all,RdB w q.1 q.2
theorem TJ.no {k:Nat} {z:TS} {w:World} {s':Sl} {qv':Value} (h:TJ k z w) (e:s'=z.s):TJ (k + 1) ⟨s',qv',z.av,z.all⟩ w:=by
  subst e
  exact ⟨h.ti,by have:=h.st; show z.s.steps≤_; omega,by have:=h.q; show z.s.q.length≤_; omega,Nat.le_succ_of_le h.le,h.rd⟩
theorem TJ.yes {k:Nat} {s s':Sl} {qv av qv' av':Value} {all:List VP} {w:World} (h:TJ k ⟨s,qv,av,all⟩ w) (x:VP) (ht:TI s' (tIts all++[(0,x.2)])) (hk:Kept s s' 41) (hx:RdB w x.1 x.2):TJ (k + 1) ⟨s',qv',av',all++[x]⟩ w:=by
  refine ⟨by rw [tIts_app]; exact ht,?_,?_,?_,fun q hq=>?_⟩
  · have h1:s.steps≤100 * (k + 1):=h.st; have h2:=hk.st; show s'.steps≤_; omega
  · have h1:s.q.length≤100 * (k + 1):=h.q; have h2:=hk.q; show s'.q.length≤_; omega
  · have h1:all.length≤k:=h.le; show (all++[x]).length≤_; rw [List.length_append]; exact Nat.succ_le_succ h1
  · rcases List.mem_append.1 hq with hq | hq
    · exact h.rd q hq
    · rw [List.mem_singleton.1 hq]; exact hx
theorem rdp_of {w w':World} {av:Value} {all:List VP} (h:w'.ownsRow 0 38 1 av all.length (all.map (·.1))) (hr:∀ q∈all,RdB w q.1 q.2) (hf:Fr0 w w'):RdP w' av all:=⟨Rd.of_row h,fun q hq=>(hr q hq).fr0 hf⟩
theorem vone {w:World} {v:Value} {l:List UInt8} (h:RdB w v l):v.oneCell'=true∧v.cells=#[v]:=by
  obtain ⟨ad,cap,rfl,_⟩:=Rd.sl h
  exact ⟨rfl,rfl⟩
theorem xor_ne {x t:UInt8} (h:¬ t=0):¬ x ^^^ t=x:=fun e=>h (by
  have:=congrArg (fun y=>x ^^^ y) e
  simpa [← UInt8.xor_assoc] using this)
theorem flush_st15 (s:Sl):s.flush.2.steps≤s.steps + 1∧s.flush.2.n=s.n:=by
  unfold Sl.flush
  split
  · exact ⟨Nat.le_succ _,rfl⟩
  split
  · exact ⟨Nat.le_succ _,rfl⟩
  · exact ⟨Nat.le_refl _,rfl⟩
theorem law_DiaryTurns (recs:List VP) (rv:Value) (at_:Int) (turn:UInt8) (w:World) (hR:RdP w rv recs):Ctr Try.prog 6 [rv,I at_,B turn] w (fun _=>False) (fun v _=>v=.bool true):=by
  have hnr:=hR.1.le
  obtain ⟨rad0,rcap0,rfl,_,_⟩:=RdP.sl hR
  refine fn_start (N:=126) Try.func6 rfl rfl rfl fun ac hk=>?_
  have hs:=St.start hk w
  refine wp_seq (wp_reg ?_)
  refine s_q hs (c_assign (hs.ev rfl)) rfl fun ac hs=>?_
  refine s_end (then_n (wp_seq (wp_reg ?_)))
  refine s_call hs fu9 (.cons (hs.ev rfl) .nil) (sl_New 400 _) rfl fun ac ww v22 hf hp hs=>?_
  rw [if_pos (by decide)] at hp
  obtain ⟨g,sb,rfl,hh⟩:=hp
  replace hs:=hs _ (Has.grp' hh)
  refine s_q hs (c_move (hs.ev rfl)) rfl fun ac hs=>?_
  refine s_q hs (c_extract (hs.ev rfl) rfl) rfl fun ac hs=>?_
  refine s_q hs (c_extract (hs.ev rfl) rfl) rfl fun ac hs=>?_
  refine s_q hs (c_assign (hs.ev rfl)) rfl fun ac hs=>?_
  refine s_q hs (c_assign (hs.ev rfl)) rfl fun ac hs=>?_
  refine s_end ?_
  replace hs:=hs.sub (F':=[(0,_),(1,_),(2,_),(6,_),(7,_)]) ⟨rfl,rfl,rfl,rfl,rfl,trivial⟩
  refine then_n (wp_seq (wp_seq (wp_reg ?_)))
  by_cases ht:turn=0
  · refine s_call hs fu24 .nil (di_awake _) rfl fun ac ww v25 hf hp hs=>?_
    obtain rfl:=hp
    replace hs:=hs [] (.nil _ _)
    refine s_q hs (c_not (hs.ev rfl)) rfl fun ac hs=>?_
    refine s_q hs (c_move (hs.ev rfl)) rfl fun ac hs=>?_
    refine s_yes hs rfl rfl ?_
    refine s_q hs (c_move (hs.ev rfl)) rfl fun ac hs=>?_
    refine s_yes hs rfl rfl ?_
    refine s_q hs (c_eqlNil un23 (hs.ev rfl) (hs.ev rfl)) rfl fun ac hs=>?_
    refine s_q hs (c_pick (hs.ev rfl) (hs.ev rfl) (hs.ev rfl)) rfl fun ac hs=>?_
    refine s_q hs (c_move (hs.ev rfl)) rfl fun ac hs=>?_
    refine s_yes hs rfl rfl ?_
    refine s_q hs (c_move (hs.ev rfl)) rfl fun ac hs=>?_
    refine s_yes hs rfl rfl ?_
    refine s_q hs (c_tt (c_eqlB (hs.ev rfl) (St.ev (v:=B 0) hs rfl)) ((decide_eq_true ht))) rfl fun ac hs=>?_
    refine s_q hs (c_pick (hs.ev rfl) (hs.ev rfl) (hs.ev rfl)) rfl fun ac hs=>?_
    refine s_q hs (c_move (hs.ev rfl)) rfl fun ac hs=>?_
    refine s_no hs rfl rfl rfl rfl fun ac hs=>?_
    refine s_no hs rfl rfl rfl rfl fun ac hs=>?_
    refine s_no hs rfl rfl rfl rfl fun ac hs=>?_
    refine s_no hs rfl rfl rfl rfl fun ac hs=>?_
    refine s_q hs (c_pick (hs.ev rfl) (hs.ev rfl) (hs.ev rfl)) rfl fun ac hs=>?_
    refine s_end ?_
    replace hs:=hs.sub (F':=[(0,_),(1,_),(2,_),(6,_),(7,_),(40,_)]) ⟨rfl,rfl,rfl,rfl,rfl,rfl,trivial⟩
    refine then_n ?_
    refine wp_cond_true (hs.ev rfl) ?_
    refine wp_seq (wp_reg ?_)
    refine s_call hs fu24 .nil (di_awake _) rfl fun ac ww v41 hf hp hs=>?_
    obtain rfl:=hp
    replace hs:=hs [] (.nil _ _)
    refine s_q hs (c_move (hs.ev rfl)) rfl fun ac hs=>?_
    refine s_yes hs rfl rfl ?_
    refine s_q hs (c_move (hs.ev rfl)) rfl fun ac hs=>?_
    refine s_yes hs rfl rfl ?_
    refine s_q hs (c_neqNil un23 (hs.ev rfl) (hs.ev rfl)) rfl fun ac hs=>?_
    refine s_q hs (c_pick (hs.ev rfl) (hs.ev rfl) (hs.ev rfl)) rfl fun ac hs=>?_
    refine s_q hs (c_assign (hs.ev rfl)) rfl fun ac hs=>?_
    refine s_end ?_
    replace hs:=hs.sub (F':=[(0,_),(1,_),(2,_),(6,_),(7,_)]) ⟨rfl,rfl,rfl,rfl,rfl,trivial⟩
    refine then_n (wp_ret (then_r ?_))
    refine s_ret hs rfl (.tmp (hs.tmp rfl) .nil) rfl ⟨_,rfl,hs.fr,?_⟩
    rfl
  · refine s_call hs fu24 .nil (di_awake _) rfl fun ac ww v25 hf hp hs=>?_
    obtain rfl:=hp
    replace hs:=hs [] (.nil _ _)
    refine s_q hs (c_not (hs.ev rfl)) rfl fun ac hs=>?_
    refine s_q hs (c_move (hs.ev rfl)) rfl fun ac hs=>?_
    refine s_yes hs rfl rfl ?_
    refine s_q hs (c_move (hs.ev rfl)) rfl fun ac hs=>?_
    refine s_yes hs rfl rfl ?_
    refine s_q hs (c_eqlNil un23 (hs.ev rfl) (hs.ev rfl)) rfl fun ac hs=>?_
    refine s_q hs (c_pick (hs.ev rfl) (hs.ev rfl) (hs.ev rfl)) rfl fun ac hs=>?_
    refine s_q hs (c_move (hs.ev rfl)) rfl fun ac hs=>?_
    refine s_yes hs rfl rfl ?_
    refine s_q hs (c_move (hs.ev rfl)) rfl fun ac hs=>?_
    refine s_yes hs rfl rfl ?_
    refine s_q hs (c_ff (c_eqlB (hs.ev rfl) (St.ev (v:=B 0) hs rfl)) ((decide_eq_false ht))) rfl fun ac hs=>?_
    refine s_q hs (c_pick (hs.ev rfl) (hs.ev rfl) (hs.ev rfl)) rfl fun ac hs=>?_
    refine s_q hs (c_move (hs.ev rfl)) rfl fun ac hs=>?_
    refine s_yes hs rfl rfl ?_
    refine s_q hs (c_move (hs.ev rfl)) rfl fun ac hs=>?_
    refine s_yes hs rfl rfl ?_
    refine s_q hs (c_buildQ (zc:=o15C 0 (.slice none 0 0) 0 _ 0 0 zero64) ty55 bp55 (.cons (hs.ev rfl) .nil) (by rfl)) rfl fun ac hs=>?_
    refine s_yes hs rfl rfl ?_
    refine s_call hs fu25 (.cons (hs.ev rfl) .nil) (law15_fits 0 (.slice none 0 0) 0 _ 0 0 zero64 [] recs _ (RdB.nil _) (hR.fr0 hs.fr)) rfl fun ac ww v38 hf hp hs=>?_
    obtain ⟨bf,rfl,hbf⟩:=hp
    replace hs:=hs [] (.nil _ _)
    refine s_yes hs rfl rfl ?_
    refine s_q hs (c_not (hs.ev rfl)) rfl fun ac hs=>?_
    refine s_q hs (c_pick (hs.ev rfl) (hs.ev rfl) (hs.ev rfl)) rfl fun ac hs=>?_
    refine s_end ?_
    replace hs:=hs.sub (F':=[(0,_),(1,_),(2,_),(6,_),(7,_),(40,_)]) ⟨rfl,rfl,rfl,rfl,rfl,rfl,trivial⟩
    refine then_n ?_
    refine s_cond hs rfl (fun hc=>?_) (fun hc=>?_)
    · skip
      refine wp_seq (wp_reg ?_)
      refine s_call hs fu24 .nil (di_awake _) rfl fun ac ww v41 hf hp hs=>?_
      obtain rfl:=hp
      replace hs:=hs [] (.nil _ _)
      refine s_q hs (c_move (hs.ev rfl)) rfl fun ac hs=>?_
      refine s_yes hs rfl rfl ?_
      refine s_q hs (c_move (hs.ev rfl)) rfl fun ac hs=>?_
      refine s_yes hs rfl rfl ?_
      refine s_q hs (c_neqNil un23 (hs.ev rfl) (hs.ev rfl)) rfl fun ac hs=>?_
      refine s_q hs (c_pick (hs.ev rfl) (hs.ev rfl) (hs.ev rfl)) rfl fun ac hs=>?_
      refine s_q hs (c_assign (hs.ev rfl)) rfl fun ac hs=>?_
      refine s_end ?_
      replace hs:=hs.sub (F':=[(0,_),(1,_),(2,_),(6,_),(7,_)]) ⟨rfl,rfl,rfl,rfl,rfl,trivial⟩
      refine then_n (wp_ret (then_r ?_))
      refine s_ret hs rfl (.tmp (hs.tmp rfl) .nil) rfl ⟨_,rfl,hs.fr,?_⟩
      rfl
    · skip
      obtain rfl:bf=true:=by
        revert hc
        cases bf <;> simp
      obtain ⟨-,hr12,hrl⟩:=hbf.1 rfl
      refine wp_skip (then_n (wp_seq (wp_reg ?_)))
      refine s_q hs (c_move (hs.ev rfl)) rfl fun ac hs=>?_
      refine s_callM (i:=0) hs fu26 (.cons (hs.ev rfl) (.cons (hs.ev rfl) (.cons (hs.ev rfl) .nil))) rfl (di_Start g sb 1 _ (newS 400) [] _ (newS_ok (by decide)) (by decide) (by decide) (by decide) (by decide) (by decide) (by decide) _ (hs.get (i:=0) rfl) (fun _ _=>RdP.noneS _)) rfl fun ac ww v48 hf hp hs=>?_
      obtain ⟨dg,rfl,qv',h1,h2⟩:=hp
      obtain ⟨he1,he2,hTI,hnx⟩:=TI.start
      have hkp:(dstart (newS 400) 1 []).2.2.1.steps≤100∧(dstart (newS 400) 1 []).2.2.1.q.length≤100:=by decide +kernel
      replace hs:=(hs (Ent.grp (dl dg g sb qv' 1 _ _)) h1 (fun k hk=>⟨h2 k hk,grp_lt h1 k hk⟩)).toL (L':=[Ent.grp (dl dg g sb qv' 1 1 (dstart (newS 400) 1 []).2.2.1)]) (by rw [← hnx]; rfl)
      obtain ⟨s0,hs0⟩:∃ s0,(dstart (newS 400) 1 []).2.2.1=s0:=⟨_,rfl⟩
      rw [hs0] at hs hTI hkp
      refine s_q hs (c_move (hs.ev rfl)) rfl fun ac hs=>?_
      refine s_q hs (c_extract (hs.ev rfl) (show _=some (Value.pointer (some ⟨dg,0,none⟩)) from congrArg some (congrArg (fun b=>dptr b dg) he1))) rfl fun ac hs=>?_
      refine s_q hs (c_extract (hs.ev rfl) (show _=some (I 0) from congrArg (fun n:Int=>some (I n)) he2)) rfl fun ac hs=>?_
      refine s_q hs (c_assign (hs.ev rfl)) rfl fun ac hs=>?_
      refine s_q hs (c_assign (hs.ev rfl)) rfl fun ac hs=>?_
      refine s_end ?_
      replace hs:=hs.sub (F':=[(0,_),(1,_),(2,_),(6,_),(7,_),(9,_),(10,_)]) ⟨rfl,rfl,rfl,rfl,rfl,rfl,rfl,trivial⟩
      refine then_n (wp_seq (wp_seq (wp_reg ?_)))
      refine s_q hs (c_move (hs.ev rfl)) rfl fun ac hs=>?_
      refine s_q hs (c_neqI (hs.ev rfl) (hs.ev rfl)) rfl fun ac hs=>?_
      refine s_end ?_
      replace hs:=hs.sub (F':=[(0,_),(1,_),(2,_),(6,_),(7,_),(9,_),(52,_)]) ⟨rfl,rfl,rfl,rfl,rfl,rfl,rfl,trivial⟩
      refine then_n ?_
      refine wp_cond_false (hs.ev rfl) ?_
      refine wp_skip (then_n (wp_seq (wp_reg ?_)))
      refine s_q hs (c_assign (hs.ev rfl)) rfl fun ac hs=>?_
      refine s_end ?_
      replace hs:=hs.nilrow 38 1
      replace hs:=hs.sub (F':=[(0,_),(1,_),(2,_),(6,_),(7,_),(9,_),(11,_)]) ⟨rfl,rfl,rfl,rfl,rfl,rfl,rfl,trivial⟩
      refine then_n (wp_seq (wp_seq (wp_reg ?_)))
      refine s_q hs (c_move (hs.ev rfl)) rfl fun ac hs=>?_
      refine s_q hs (c_lenS un51 (hs.ev rfl)) rfl fun ac hs=>?_
      refine s_q hs (c_move (hs.ev rfl)) rfl fun ac hs=>?_
      refine s_end ?_
      replace hs:=hs.sub (F':=[(1,_),(2,_),(6,_),(7,_),(9,_),(11,_),(53,_),(54,_),(55,_)]) ⟨rfl,rfl,rfl,rfl,rfl,rfl,rfl,rfl,rfl,trivial⟩
      refine then_n (wp_block ?_)
      refine s_loopW hs (X:=Nat × TS) (fun z=>[(55,I z.1),(11,z.2.av)]) [(1,_),(2,_),(6,_),(7,_),(9,_),(53,_),(54,_)] (fun z=>[.row (z.2.av) (z.2.all).length ((z.2.all).map (·.1)) 38 1,Ent.grp (dl dg g sb (z.2.qv) 1 (itsN (tIts (z.2.all))) (z.2.s))]) (fun n z w9=>z.1≤recs.length∧TJ z.1 z.2 w∧n=recs.length - z.1) (_) ((0,⟨s0,qv',.slice none 0 0,[]⟩)) (⟨Nat.zero_le _,⟨hTI,by have:=hkp.1; show s0.steps≤_; omega,by have:=hkp.2; show s0.q.length≤_; omega,Nat.le_refl _,fun _ h=>by cases h⟩,rfl⟩) ⟨rfl,rfl,rfl,rfl,rfl,rfl,rfl,rfl,rfl,trivial⟩ rfl ?_
      rintro n ⟨k,s,qv,av,all⟩ ac ww hok2 hs
      simp only [List.cons_append,List.nil_append] at hs
      obtain ⟨hk,hJ,rfl⟩:=hok2
      replace hk:k≤recs.length:=hk
      replace hJ:TJ k ⟨s,qv,av,all⟩ w:=hJ
      have hT:TI s (tIts all):=hJ.ti
      have hok:=hT.ok
      have hn4:s.n=400:=hT.n
      have hle2:=hT.le
      have hst:s.steps≤100 * (k + 1):=hJ.st
      have hql:s.q.length≤100 * (k + 1):=hJ.q
      have hak:all.length≤k:=hJ.le
      refine wp_seq (wp_reg ?_)
      refine s_q hs (c_lssI (hs.ev rfl) (hs.ev rfl)) rfl fun ac hs=>?_
      refine s_end (then_n (wp_seq ?_))
      refine s_cond hs rfl (fun hc=>?_) (fun hc=>?_)
      · try simp only [decide_eq_true_eq,decide_eq_false_iff_not,Bool.not_eq_true',Bool.not_eq_false',Bool.and_eq_true,Bool.or_eq_true,Bool.or_eq_false_iff] at hc
        have hip:k < recs.length:=by omega
        obtain ⟨b1,o1,T1,f1,all1,rfl,hb1,hc1⟩:=RdP.at' (hR.fr0 hs.fr) (by omega)
        have hc1':=seg_get1 (f:=fun q:VP=>q.1) (i:=k) (.nilIface,[]) hc1 hip
        have hr1:=RdP.get (hR.fr0 hs.fr) hip
        have hrw:=RdP.get hR hip
        obtain ⟨x,hx⟩:∃ x,recs.getD k (.nilIface,[])=x:=⟨_,rfl⟩
        rw [hx] at hc1' hr1 hrw
        refine wp_skip (then_n (wp_seq (wp_block (wp_seq (wp_reg ?_)))))
        refine s_q hs (c_idxS (j:=k) un51 ty38 (hs.ev rfl) (hs.ev rfl) (by omega) (by omega)) rfl fun ac hs=>?_
        refine s_q hs (c_loadS un38 rfl (hs.ev rfl) hb1 hc1') rfl fun ac hs=>?_
        refine s_q hs (c_assign (hs.ev rfl)) rfl fun ac hs=>?_
        refine s_end (then_n (wp_seq (wp_reg ?_)))
        refine s_q hs (c_move (hs.ev rfl)) rfl fun ac hs=>?_
        refine s_q hs (c_move (hs.ev rfl)) rfl fun ac hs=>?_
        refine s_callM (i:=1) hs fu27 (.cons (hs.ev rfl) (.cons (hs.ev rfl) .nil)) rfl (di_Append dg g sb (itsN (tIts all)) 1 qv s x.2 x.1 hok (by omega) (by omega) (by rw [hn4]; exact hle2) _ (hs.get (i:=1) rfl) hr1) rfl fun ac ww v61 hf hp hs=>?_
        obtain ⟨rfl,qv',h1,h2⟩:=hp
        replace hs:=hs (Ent.grp (dl dg g sb qv' 1 (dput s 1 (itsN (tIts all)) 0 x.2).2.2 (dput s 1 (itsN (tIts all)) 0 x.2).2.1)) h1 (fun k hk=>⟨h2 k hk,grp_lt h1 k hk⟩)
        have hput:=hT.put 0 x.2
        have hkp2:=dput_kept (g:=1) (next:=itsN (tIts all)) (fl:=0) (p:=x.2) hok
        refine s_q hs (c_eqlI (hs.ev rfl) (hs.ev rfl)) rfl fun ac hs=>?_
        refine s_end (then_n ?_)
        refine s_cond hs rfl (fun hc=>?_) (fun hc=>?_)
        · try simp only [decide_eq_true_eq,decide_eq_false_iff_not,Bool.not_eq_true',Bool.not_eq_false',Bool.and_eq_true,Bool.or_eq_true,Bool.or_eq_false_iff] at hc
          have hw:(dput s 1 (itsN (tIts all)) 0 x.2).1=0:=hc
          obtain ⟨hT2,hN2⟩:TI (dput s 1 (itsN (tIts all)) 0 x.2).2.1 (tIts all++[(0,x.2)])∧(dput s 1 (itsN (tIts all)) 0 x.2).2.2=itsN (tIts all++[(0,x.2)]):=hput.elim (fun h=>h.2) (fun h=>absurd hw h.1)
          have hx1:=vone hr1
          refine wp_reg ?_
          refine s_q hs (c_move (hs.ev rfl)) rfl fun ac hs=>?_
          refine s_q hs (c_move (hs.ev rfl)) rfl fun ac hs=>?_
          refine s_bslice hs un51 ty38 (.cons (hs.ev rfl) .nil) rfl (fun v hv=>by rw [List.mem_singleton.1 hv,hx1.2]; rfl) (by decide) (show _=[x.1] by simp [flatCells,hx1.2]) rfl fun ac ww g65 hs=>?_
          refine s_append (i:=1) hs un51 ty38 (by decide) rfl rfl rfl (Rd.of_seg (n:=1) (cs:=[x.1]) (hs.seg (i:=0) rfl) (Nat.le_refl _) (by decide) rfl) rfl (by simp [hx1.1]) (by unfold maxLen; omega) (by omega) rfl fun ac ww v66 hf hnil hs=>?_
          refine s_q hs (c_assign (hs.ev rfl)) rfl fun ac hs=>?_
          refine s_end ?_
          have hJ2:TJ (k + 1) ⟨(dput s 1 (itsN (tIts all)) 0 x.2).2.1,qv',v66,all++[x]⟩ w:=hJ.yes x hT2 hkp2 hrw
          replace hs:=(hs.pick (L':=[_,_]) (.cons _ (.refl _))).toL (L':=[.row (v66) (all++[x]).length ((all++[x]).map (·.1)) 38 1,Ent.grp (dl dg g sb (qv') 1 (itsN (tIts (all++[x]))) ((dput s 1 (itsN (tIts all)) 0 x.2).2.1))]) (by rw [hN2,← tIts_app,List.length_append,List.map_append]; rfl)
          refine blk_n (then_n (wp_reg ?_))
          refine s_q hs (c_addI (hs.ev rfl) (hs.ev rfl) (by omega) (by omega)) rfl fun ac hs=>?_
          refine s_q hs (c_move (hs.ev rfl)) rfl fun ac hs=>?_
          refine s_end (then_n ?_)
          exact ⟨recs.length - (k + 1),by omega,(k + 1,_),⟨by show k + 1≤_; omega,hJ2,rfl⟩,St.next hs ⟨rfl,rfl,rfl,rfl,rfl,rfl,rfl,rfl,rfl,trivial⟩ rfl⟩
        · try simp only [decide_eq_true_eq,decide_eq_false_iff_not,Bool.not_eq_true',Bool.not_eq_false',Bool.and_eq_true,Bool.or_eq_true,Bool.or_eq_false_iff] at hc
          have hw:¬ (dput s 1 (itsN (tIts all)) 0 x.2).1=0:=hc
          obtain ⟨hs2,hN2⟩:(dput s 1 (itsN (tIts all)) 0 x.2).2.1=s∧(dput s 1 (itsN (tIts all)) 0 x.2).2.2=itsN (tIts all):=hput.elim (fun h=>absurd h.1 hw) (fun h=>h.2)
          rw [hs2,hN2] at hs
          have hJ2:TJ (k + 1) ⟨s,qv',av,all⟩ w:=hJ.no rfl
          refine wp_skip (blk_n (then_n (wp_reg ?_)))
          refine s_q hs (c_addI (hs.ev rfl) (hs.ev rfl) (by omega) (by omega)) rfl fun ac hs=>?_
          refine s_q hs (c_move (hs.ev rfl)) rfl fun ac hs=>?_
          refine s_end (then_n ?_)
          exact ⟨recs.length - (k + 1),by omega,(k + 1,_),⟨by show k + 1≤_; omega,hJ2,rfl⟩,St.next hs ⟨rfl,rfl,rfl,rfl,rfl,rfl,rfl,rfl,rfl,trivial⟩ rfl⟩
      · try simp only [decide_eq_true_eq,decide_eq_false_iff_not,Bool.not_eq_true',Bool.not_eq_false',Bool.and_eq_true,Bool.or_eq_true,Bool.or_eq_false_iff] at hc
        obtain rfl:k=recs.length:=by omega
        refine wp_exit (then_e (then_e (blk_hit (then_n (wp_seq (wp_reg ?_))))))
        refine s_q hs (c_move (hs.ev rfl)) rfl fun ac hs=>?_
        refine s_callM (i:=1) hs fu28 (.cons (hs.ev rfl) .nil) rfl (di_Flush dg g sb (itsN (tIts all)) 1 qv s hok (by omega) (by omega) _ (hs.get (i:=1) rfl)) rfl fun ac ww v69 hf hp hs=>?_
        obtain ⟨rfl,qv',h1,h2⟩:=hp
        replace hs:=hs (Ent.grp (dl dg g sb qv' 1 (itsN (tIts all)) s.flush.2)) h1 (fun k hk=>⟨h2 k hk,grp_lt h1 k hk⟩)
        obtain ⟨hT0,hst2⟩:TI s.flush.2 (tIts all)∧s.flush.2.steps≤s.steps + 1∧s.flush.2.q.length=0:=⟨hT.flush.2,(flush_st15 s).1,by
          rw [Sl.flush,if_neg (by rw [hT.up.down]; decide),if_neg (by rw [hT.up.fuse]; decide)]
          rfl⟩
        obtain ⟨s1,hs1⟩:∃ s1,s.flush.2=s1:=⟨_,rfl⟩
        rw [hs1] at hs hT0 hst2
        obtain ⟨hst3,hql3⟩:=hst2
        have hJr:=hJ.rd
        clear hT hok hn4
        have hok:=hT0.ok
        have hn4:=hT0.n
        have h1x:=tIts_one all
        refine s_end ?_
        replace hs:=hs.sub (F':=[(1,_),(2,_),(6,_),(7,_),(9,_),(11,_)]) ⟨rfl,rfl,rfl,rfl,rfl,rfl,trivial⟩
        refine then_n (wp_seq (wp_reg ?_))
        refine s_q hs (c_move (hs.ev rfl)) rfl fun ac hs=>?_
        refine s_call hs fu29 (.cons (hs.ev rfl) .nil) (di_Free dg g sb (itsN (tIts all)) 1 qv' s1 (by rw [hn4]; decide) (by rw [hn4]; exact hle2) _ (dl_d (hs.get (i:=1) rfl)) (sl_get (dl_sl (hs.get (i:=1) rfl)))) rfl fun ac ww v71 hf hp hs=>?_
        rw [hn4] at hp
        obtain rfl:=hp
        replace hs:=hs [] (.nil _ _)
        refine s_q hs (c_to (c_subI (hs.ev rfl) (hs.ev rfl) (by omega) (by omega)) ((congrArg I (show (200:Int) - ((400 / 2 - itsN (tIts all):Nat):Int)=((itsN (tIts all):Nat):Int) by omega)))) rfl fun ac hs=>?_
        refine s_q hs (c_assign (hs.ev rfl)) rfl fun ac hs=>?_
        refine s_end ?_
        replace hs:=hs.sub (F':=[(1,_),(2,_),(6,_),(7,_),(11,_),(14,_)]) ⟨rfl,rfl,rfl,rfl,rfl,rfl,trivial⟩
        refine then_n (wp_seq (wp_reg ?_))
        refine s_q hs (c_move (hs.ev rfl)) rfl fun ac hs=>?_
        refine s_q hs (c_cvIV un3 un33 (hs.ev rfl)) rfl fun ac hs=>?_
        refine s_q hs (c_move (hs.ev rfl)) rfl fun ac hs=>?_
        refine s_q hs (c_mulI (hs.ev rfl) (hs.ev rfl) (by omega) (by omega)) rfl fun ac hs=>?_
        refine s_q hs (c_cvIV un3 un33 (hs.ev rfl)) rfl fun ac hs=>?_
        refine s_q hs (c_remV (hs.ev rfl) (hs.ev rfl) (fun h=>by
          have h9:=congrArg UInt64.toNat h
          have h8:=i64_toNat (((itsN (tIts all):Nat):Int) * 64)
          rw [h9] at h8
          have h7:((0:UInt64).toNat:Int)=0:=rfl
          omega)) rfl fun ac hs=>?_
        obtain ⟨kk,hkk⟩:∃ kk:Nat,(i64 at_ % i64 (((itsN (tIts all):Nat):Int) * 64)).toNat=kk:=⟨_,rfl⟩
        have hkl:kk < itsN (tIts all) * 64:=by
          have h8:=i64_toNat (((itsN (tIts all):Nat):Int) * 64)
          rw [← hkk,UInt64.toNat_mod]
          have h9:(i64 (((itsN (tIts all):Nat):Int) * 64)).toNat=itsN (tIts all) * 64:=by omega
          rw [h9]
          exact Nat.mod_lt _ (by omega)
        obtain ⟨j,hj⟩:∃ j,kk / 64=j:=⟨_,rfl⟩
        obtain ⟨b,hb⟩:∃ b,kk % 64=b:=⟨_,rfl⟩
        have hjl:j < itsN (tIts all):=by omega
        have hb64:b < 64:=by omega
        have hvl:(vis s1 (200 + j)).length=64:=vis_len hok (by omega)
        obtain ⟨x,hx⟩:∃ x,vis s1 (200 + j)=x:=⟨_,rfl⟩
        have hrd:s1.read ((200 + j:Nat):Int)=(x,0):=by rw [read_vis hT0.up.down (by omega),hx]
        rw [hx] at hvl
        refine s_q hs (c_to (c_cvVI un33 un3 (hs.ev rfl) (by rw [hkk]; omega)) ((congrArg (fun n:Nat=>I (n:Int)) hkk))) rfl fun ac hs=>?_
        refine s_q hs (c_assign (hs.ev rfl)) rfl fun ac hs=>?_
        refine s_end ?_
        replace hs:=hs.sub (F':=[(2,_),(6,_),(7,_),(11,_),(15,_)]) ⟨rfl,rfl,rfl,rfl,rfl,trivial⟩
        refine then_n (wp_seq (wp_reg ?_))
        refine s_q hs (c_move (hs.ev rfl)) rfl fun ac hs=>?_
        refine s_q hs (c_move (hs.ev rfl)) rfl fun ac hs=>?_
        refine s_q hs (c_quoI (hs.ev rfl) (hs.ev rfl) (by omega) (by omega) (by omega)) rfl fun ac hs=>?_
        refine s_q hs (c_to (c_addI (hs.ev rfl) (hs.ev rfl) (by omega) (by omega)) ((congrArg I (show _=((200 + j:Nat):Int) by omega)))) rfl fun ac hs=>?_
        refine s_call hs fu15 (.cons (hs.ev rfl) (.cons (hs.ev rfl) .nil)) (sl_Read g sb qv' s1 ((200 + j:Nat):Int) hok _ (sl_get (dl_sl (hs.get (i:=1) rfl)))) rfl fun ac ww v85 hf hp hs=>?_
        rw [hrd] at hp
        replace hp:v85=.tuple #[.agg (x.map B).toArray,I 0]:=hp
        obtain rfl:=hp
        replace hs:=hs [] (.nil _ _)
        refine s_q hs (c_move (hs.ev rfl)) rfl fun ac hs=>?_
        refine s_q hs (c_extract (hs.ev rfl) rfl) rfl fun ac hs=>?_
        refine s_q hs (c_extract (hs.ev rfl) rfl) rfl fun ac hs=>?_
        refine s_alloc hs ty29 rfl fun ac ww g16 hs=>?_
        refine s_storeW (i:=0) hs ty29 rfl rfl rfl (by simp [hvl]) (all64 _) (by rfl) fun ww hs=>?_
        refine s_q hs (c_assign (hs.ev rfl)) rfl fun ac hs=>?_
        refine s_end ?_
        replace hs:=hs.sub (F':=[(2,_),(6,_),(7,_),(11,_),(15,_),(16,_)]) ⟨rfl,rfl,rfl,rfl,rfl,rfl,trivial⟩
        refine then_n (wp_seq (wp_reg ?_))
        refine s_q hs (c_move (hs.ev rfl)) rfl fun ac hs=>?_
        refine s_q hs (c_to (c_remI (hs.ev rfl) (hs.ev rfl) (by omega) (by omega)) ((congrArg I (show _=((b:Nat):Int) by omega)))) rfl fun ac hs=>?_
        refine s_q hs (c_idxA (j:=b) un29 ty5 (hs.ev rfl) (hs.ev rfl) rfl hb64) rfl fun ac hs=>?_
        refine s_q hs (c_loadS un5 rfl (hs.ev rfl) (hs.seg (i:=0) rfl) (getB (by omega))) rfl fun ac hs=>?_
        refine s_q hs (c_move (hs.ev rfl)) rfl fun ac hs=>?_
        refine s_q hs (c_xorB (hs.ev rfl) (hs.ev rfl)) rfl fun ac hs=>?_
        refine s_q hs (c_idxA (j:=b) un29 ty5 (hs.ev rfl) (hs.ev rfl) rfl hb64) rfl fun ac hs=>?_
        refine s_store (i:=0) hs ty5 rfl rfl rfl rfl rfl rfl (by simp; omega) (map_set (f:=B) _ (by omega)) fun ww hs=>?_
        refine s_end ?_
        replace hs:=hs.sub (F':=[(6,_),(7,_),(11,_),(15,_),(16,_)]) ⟨rfl,rfl,rfl,rfl,rfl,trivial⟩
        refine then_n (wp_seq ?_)
        replace hs:=(hs.perm (L':=[_,_,_]) (List.perm_append_comm (l₁:=[_]) (l₂:=[_,_]))).ungrp
        refine wp_reg ?_
        refine s_q hs (c_move (hs.ev rfl)) rfl fun ac hs=>?_
        refine s_q hs (c_move (hs.ev rfl)) rfl fun ac hs=>?_
        refine s_q hs (c_quoI (hs.ev rfl) (hs.ev rfl) (by omega) (by omega) (by omega)) rfl fun ac hs=>?_
        refine s_q hs (c_to (c_addI (hs.ev rfl) (hs.ev rfl) (by omega) (by omega)) ((congrArg I (show _=((200 + j:Nat):Int) by omega)))) rfl fun ac hs=>?_
        refine s_q hs (c_loadW ty29 rfl (hs.ev rfl) (hs.seg (i:=2) rfl) (by simp [hvl])) rfl fun ac hs=>?_
        refine s_callM (i:=1) hs fu11 (.cons (hs.ev rfl) (.cons (hs.ev rfl) (.cons (hs.ev rfl) .nil))) rfl (sl_Write g sb qv' s1 ((200 + j:Nat):Int) (x.set b (x.getD b 0 ^^^ turn)) (by simp [hvl]) hok (by omega) (by omega) _ (hs.get (i:=1) rfl)) rfl fun ac ww v100 hf hp hs=>?_
        obtain ⟨rfl,qv2,h1,h2⟩:=hp
        have hldl:=turns (y:=x.getD b 0 ^^^ turn) hT0 hjl hb64 (by rw [hx]; exact xor_ne ht)
        rw [hx] at hldl
        have hwk:=write_kept hok (j:=((200 + j:Nat):Int)) (b:=x.set b (x.getD b 0 ^^^ turn)) (by simp [hvl])
        have hwu:=(write_up hT0.up (show 200 + j < s1.n by omega) (x.set b (x.getD b 0 ^^^ turn)))
        have hdn:(s1.write ((200 + j:Nat):Int) (x.set b (x.getD b 0 ^^^ turn))).2.down=false:=by rw [hwu]; exact hT0.up.down
        obtain ⟨s2,hs2⟩:∃ s2,(s1.write ((200 + j:Nat):Int) (x.set b (x.getD b 0 ^^^ turn))).2=s2:=⟨_,rfl⟩
        rw [hs2] at hldl hwk hdn h1 h2
        replace hs:=hs (Ent.grp (sl g sb qv2 s2)) h1 (fun k hk=>⟨h2 k hk,grp_lt h1 k hk⟩)
        obtain ⟨e,gn,l,hld,hor⟩:=hldl
        have hn2:s2.n=400:=hwk.n.trans hn4
        refine s_end ?_
        replace hs:=hs.sub (F':=[(6,_),(7,_),(11,_)]) ⟨rfl,rfl,rfl,trivial⟩
        refine then_n (wp_seq (wp_reg ?_))
        refine s_q hs (c_move (hs.ev rfl)) rfl fun ac hs=>?_
        refine s_call hs fu30 (.cons (hs.ev rfl) .nil) (di_Load g sb qv2 s2 hwk.ok hdn (by omega) _ (sl_get (hs.get (i:=1) rfl))) rfl fun ac ww v103 hf hp hs=>?_
        rw [hld] at hp
        obtain ⟨rv,ps,hv3,hps,hh⟩:=hp
        replace hv3:v103=.tuple #[rv,U gn,I e]:=hv3
        obtain rfl:=hv3
        replace hs:=hs _ hh
        replace hps:recsV ps=l:=hps
        have hpl:=(texts_rd (hs.get (i:=0) rfl)).le
        obtain ⟨rad,rcap,rfl,_,_⟩:=Rd.sl (texts_rd (hs.get (i:=0) rfl))
        refine s_q hs (c_move (hs.ev rfl)) rfl fun ac hs=>?_
        refine s_q hs (c_extract (hs.ev rfl) rfl) rfl fun ac hs=>?_
        refine s_q hs (c_extract (hs.ev rfl) rfl) rfl fun ac hs=>?_
        refine s_q hs (c_extract (hs.ev rfl) rfl) rfl fun ac hs=>?_
        refine s_q hs (c_assign (hs.ev rfl)) rfl fun ac hs=>?_
        refine s_q hs (c_assign (hs.ev rfl)) rfl fun ac hs=>?_
        refine s_q hs (c_assign (hs.ev rfl)) rfl fun ac hs=>?_
        refine s_end ?_
        replace hs:=hs.sub (F':=[(6,_),(11,_),(18,_),(20,_)]) ⟨rfl,rfl,rfl,rfl,trivial⟩
        refine then_n (wp_seq (wp_seq (wp_reg ?_)))
        refine s_q hs (c_move (hs.ev rfl)) rfl fun ac hs=>?_
        refine s_q hs (c_eqlI (hs.ev rfl) (hs.ev rfl)) rfl fun ac hs=>?_
        refine s_end ?_
        replace hs:=hs.sub (F':=[(6,_),(11,_),(18,_),(20,_),(108,_)]) ⟨rfl,rfl,rfl,rfl,rfl,trivial⟩
        refine then_n ?_
        refine s_cond hs rfl (fun hc=>?_) (fun hc=>?_)
        · try simp only [decide_eq_true_eq,decide_eq_false_iff_not,Bool.not_eq_true',Bool.not_eq_false',Bool.and_eq_true,Bool.or_eq_true,Bool.or_eq_false_iff] at hc
          have he31:e=31:=hc
          obtain rfl:ps=[]:=by
            rcases hor with ⟨_,h9⟩ | ⟨h9,_⟩
            · rw [h9] at hps
              exact List.map_eq_nil_iff.1 hps
            · omega
          refine wp_seq (wp_reg ?_)
          refine s_q hs (c_move (hs.ev rfl)) rfl fun ac hs=>?_
          refine s_q hs (c_lenS un51 (hs.ev rfl)) rfl fun ac hs=>?_
          refine s_q hs (c_eqlI (hs.ev rfl) (hs.ev rfl)) rfl fun ac hs=>?_
          refine s_q hs (c_assign (hs.ev rfl)) rfl fun ac hs=>?_
          refine s_end ?_
          replace hs:=hs.sub (F':=[(6,_),(11,_),(18,_),(20,_)]) ⟨rfl,rfl,rfl,rfl,trivial⟩
          refine then_n (wp_ret (then_r ?_))
          refine s_ret hs rfl (.tmp (hs.tmp rfl) .nil) rfl ⟨_,rfl,hs.fr,?_⟩
          rfl
        · try simp only [decide_eq_true_eq,decide_eq_false_iff_not,Bool.not_eq_true',Bool.not_eq_false',Bool.and_eq_true,Bool.or_eq_true,Bool.or_eq_false_iff] at hc
          have he31:¬ e=31:=hc
          obtain ⟨rfl,u,hu⟩:e=0∧∃ u,recsV all=l++u:=hor.elim (fun h=>absurd h.1 he31) id
          have hlen:ps.length≤all.length:=by
            have h9:=congrArg List.length hu
            rw [← hps,List.length_append] at h9
            simp only [recsV,List.length_map] at h9
            omega
          have hAll:=rdp_of (hs.get (i:=4) rfl) hJr hs.fr
          have hnall:=hAll.1.le
          obtain ⟨aad,acap,rfl,_,_⟩:=RdP.sl hAll
          refine wp_skip (then_n (wp_seq (wp_reg ?_)))
          refine s_q hs (c_move (hs.ev rfl)) rfl fun ac hs=>?_
          refine s_q hs (c_eqlI (hs.ev rfl) (hs.ev rfl)) rfl fun ac hs=>?_
          refine s_q hs (c_move (hs.ev rfl)) rfl fun ac hs=>?_
          refine s_yes hs rfl rfl ?_
          refine s_q hs (c_move (hs.ev rfl)) rfl fun ac hs=>?_
          refine s_yes hs rfl rfl ?_
          refine s_q hs (c_lenS un51 (hs.ev rfl)) rfl fun ac hs=>?_
          refine s_yes hs rfl rfl ?_
          refine s_q hs (c_move (hs.ev rfl)) rfl fun ac hs=>?_
          refine s_yes hs rfl rfl ?_
          refine s_q hs (c_lenS un51 (hs.ev rfl)) rfl fun ac hs=>?_
          refine s_yes hs rfl rfl ?_
          refine s_q hs (c_tt (c_leqI (hs.ev rfl) (hs.ev rfl)) ((decide_eq_true (by omega)))) rfl fun ac hs=>?_
          refine s_q hs (c_pick (hs.ev rfl) (hs.ev rfl) (hs.ev rfl)) rfl fun ac hs=>?_
          refine s_q hs (c_move (hs.ev rfl)) rfl fun ac hs=>?_
          refine s_yes hs rfl rfl ?_
          refine s_q hs (c_move (hs.ev rfl)) rfl fun ac hs=>?_
          refine s_yes hs rfl rfl ?_
          refine s_q hs (c_move (hs.ev rfl)) rfl fun ac hs=>?_
          refine s_yes hs rfl rfl ?_
          refine s_call hs fu31 (.cons (hs.ev rfl) (.cons (hs.ev rfl) .nil)) (law15_begins ps all _ _ _ (RdP.texts (hs.get (i:=0) rfl)) (hAll.fr0 (.refl _ _))) rfl fun ac ww v124 hf hp hs=>?_
          rw [hps,hu,preV_yes] at hp
          obtain rfl:=hp
          replace hs:=hs [] (.nil _ _)
          refine s_q hs (c_pick (hs.ev rfl) (hs.ev rfl) (hs.ev rfl)) rfl fun ac hs=>?_
          refine s_q hs (c_assign (hs.ev rfl)) rfl fun ac hs=>?_
          refine s_end ?_
          replace hs:=hs.sub (F':=[(6,_)]) ⟨rfl,trivial⟩
          refine then_n (wp_ret ?_)
          refine s_ret hs rfl (.tmp (hs.tmp rfl) .nil) rfl ⟨_,rfl,hs.fr,?_⟩
          rfl
end Go.Proofs.Ytkecdcmjkghddaa
end
