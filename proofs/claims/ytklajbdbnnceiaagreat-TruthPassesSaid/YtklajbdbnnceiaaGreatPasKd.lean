/- Own texts of this seat,laid together for one claim (with what its proof uses alone). -/
import Derived.Test.YtklajbdbnnceiaaGreatPasKc
set_option linter.unusedSimpArgs false
set_option linter.unusedVariables false
set_option maxRecDepth 100000
set_option maxHeartbeats 4000000
set_option maxHeartbeats 1000000
section
/- What stands in a grove,as the document has it. -/
namespace Go.Proofs.YtklajbdbnnceiaaGreat
open Go Go.Fw
open Sha
theorem gNodeTs_length (d:Int) (ep:UInt32) (ls:List UInt8):∀ k q,(gNodeTs d ep ls k q).length=2 ^ k - 1
  | 0,q=>rfl
  | k + 1,q=>by
    have h1:=gNodeTs_length d ep ls k (2 * q)
    have h2:=gNodeTs_length d ep ls k (2 * q + 1)
    have h3:=Nat.two_pow_pos k
    simp only [gNodeTs,nodeTs,List.length_append,List.length_cons,List.length_nil] at h1 h2 ⊢
    rw [h1,h2,Nat.pow_succ]
    omega
theorem gfit {q k n:Nat} (h:(q + 1) * 2 ^ (k + 1)≤n):(2 * q + 1) * 2 ^ k≤n∧(2 * q + 1 + 1) * 2 ^ k≤n∧2 * q + 1 < n:=by
  have h1:(q + 1) * 2 ^ (k + 1)=(2 * q + 1 + 1) * 2 ^ k:=by rw [Nat.pow_succ,Nat.mul_comm (2 ^ k) 2,← Nat.mul_assoc]; congr 1; omega
  have h2:=Nat.two_pow_pos k
  have h3:2 * q + 1 + 1≤(2 * q + 1 + 1) * 2 ^ k:=Nat.le_mul_of_pos_right _ h2
  have h4:(2 * q + 1) * 2 ^ k≤(2 * q + 1 + 1) * 2 ^ k:=Nat.mul_le_mul_right _ (by omega)
  omega
theorem gfit0 {q k n:Nat} (h:(q + 1) * 2 ^ k≤n):q < n:=by
  have h3:q + 1≤(q + 1) * 2 ^ k:=Nat.le_mul_of_pos_right _ (Nat.two_pow_pos k)
  omega
theorem ref07_Node_step (d:Int) (ep:UInt32) (ls:List UInt8) (n:Nat) (lv:Value) (hls:ls.length=n * 16) (hn:n≤100) (k q:Nat) (hk6:k≤6) (hqk:(q + 1) * 2 ^ k≤n) (ih:∀ m:Nat,m < k→∀ q2:Nat,(q2 + 1) * 2 ^ m≤n→∀ w:World,Rd w lv n (ls.map B)→Ctr Tryz.prog 89 [I d,U ep,lv,I (m:Nat),I (q2:Nat)] w (fun _=>False) (outE (tupE (.agg ((gNode d ep ls m q2).map B).toArray) (textsE 177 5 (gNodeTs d ep ls m q2))) w)) (w:World) (hq:Rd w lv n (ls.map B)):Ctr Tryz.prog 89 [I d,U ep,lv,I k,I q] w (fun _=>False) (outE (tupE (.agg ((gNode d ep ls k q).map B).toArray) (textsE 177 5 (gNodeTs d ep ls k q))) w):=by
  have hls16:ls.length=16 * n:=by omega
  obtain ⟨lad,lcap,rfl,hlc,hlm⟩:=Rd.sl hq
  refine fn_start (N:=65) Tryz.func89 rfl rfl rfl fun ac hk=>?_
  have hs:=St.start hk w
  refine wp_seq (wp_reg ?_)
  refine s_alloc hs ty35 rfl fun ac ww g10 hs=>?_
  refine zA hs fun ac hs=>?_
  refine s_end (then_n (wp_seq (wp_seq (wp_reg ?_))))
  refine zM hs fun ac hs=>?_
  refine s_q hs (c_eqlI (hs.ev rfl) (hs.ev rfl)) rfl fun ac hs=>?_
  refine s_end ?_
  replace hs:=hs.sub (F':=[(0,_),(1,_),(2,_),(3,_),(4,_),(10,_),(11,_),(19,_)]) ⟨rfl,rfl,rfl,rfl,rfl,rfl,rfl,rfl,trivial⟩
  refine then_n ?_
  refine s_cond hs rfl (fun hc=>?_) (fun hc=>?_)
  · try simp only [z1,z2,z3,z4,z5,z6,z7] at hc
    obtain rfl:k=0:=by omega
    have hqn:q < n:=gfit0 hqk
    have hcl:=chunk_l hls hqn
    obtain ⟨pb,po,pT,pf,pall,rfl,hpb,hps⟩:=Rd.bytes_at hq hls (by omega)
    refine wp_seq (wp_reg ?_)
    refine zM hs fun ac hs=>?_
    refine zM hs fun ac hs=>?_
    refine s_q hs (c_idxS (j:=q) un47 ty35 (hs.ev rfl) (hs.ev rfl) (by omega) (by omega)) rfl fun ac hs=>?_
    refine s_q hs (c_loadA ty35 rfl (hs.ev rfl) (hs.old hpb id) (rdpiece hps hls hqn) (by rw [List.length_map,hcl])) rfl fun ac hs=>?_
    refine s_storeW (i:=0) hs ty35 rfl rfl rfl (by rw [List.length_map,hcl]) (all_map_B _) rfl fun ww hs=>?_
    refine zA hs fun ac hs=>?_
    refine s_end ?_
    replace hs:=hs.sub (F':=[(0,_),(1,_),(2,_),(3,_),(4,_),(10,_),(11,_)]) ⟨rfl,rfl,rfl,rfl,rfl,rfl,rfl,trivial⟩
    refine then_n (wp_ret (then_r ?_))
    refine s_ret hs rfl (.cell (hs.tmp rfl) (run_loadA ty35 rfl (hs.seg (i:=0) rfl) (List.take_of_length_le (show (List.map B (chunk ls q)).length≤16 by rw [List.length_map,hcl]; exact Nat.le_refl _)) (show (List.map B (chunk ls q)).length=16 by rw [List.length_map,hcl])) (.tmp (hs.tmp rfl) .nil)) rfl ⟨_,rfl,hs.fr,?_⟩
    exact ⟨_,⟨_,rfl,[],rfl,rfl⟩,((hs.texts0 177 (Ent.part 5)).pick (L':=[_]) (.cons_cons _ (List.nil_sublist _))).made⟩
  · try simp only [z1,z2,z3,z4,z5,z6,z7] at hc
    obtain ⟨m,rfl⟩:∃ m,k=m + 1:=⟨k - 1,by omega⟩
    obtain ⟨hf1,hf2,hf3⟩:=gfit hqk
    refine wp_skip (then_n (wp_seq (wp_reg ?_)))
    refine zM hs fun ac hs=>?_
    refine zM hs fun ac hs=>?_
    refine zM hs fun ac hs=>?_
    refine zM hs fun ac hs=>?_
    refine s_q hs (c_to (c_subI (hs.ev rfl) (hs.ev rfl) (by omega) (by omega)) ((congrArg I (show (((m + 1:Nat):Int) - 1=(m:Int)) by omega)))) rfl fun ac hs=>?_
    refine zM hs fun ac hs=>?_
    refine s_q hs (c_to (c_mulI (hs.ev rfl) (hs.ev rfl) (by omega) (by omega)) ((congrArg I (show (2 * (q:Int))=((2 * q:Nat):Int) by omega)))) rfl fun ac hs=>?_
    refine s_call hs fu89 (.cons (hs.ev rfl) (.cons (hs.ev rfl) (.cons (hs.ev rfl) (.cons (hs.ev rfl) (.cons (hs.ev rfl) .nil))))) (ih m (by omega) (2 * q) hf1 _ (hq.fr0 hs.fr)) rfl fun ac ww v32 hf hp hs=>?_
    obtain ⟨L',⟨tv1,rfl,ps1,hps1,rfl⟩,hh⟩:=hp
    replace hs:=hs _ hh
    have hpl1:ps1.length≤63:=by have:=congrArg List.length hps1; rw [List.length_map,gNodeTs_length] at this; have:=pow64 (lv:=m) (by omega); omega
    refine zM hs fun ac hs=>?_
    refine s_q hs (c_extract (hs.ev rfl) rfl) rfl fun ac hs=>?_
    refine s_q hs (c_extract (hs.ev rfl) rfl) rfl fun ac hs=>?_
    refine s_alloc hs ty35 rfl fun ac ww g12 hs=>?_
    refine s_storeW (i:=0) hs ty35 rfl rfl rfl (by rw [List.length_map]; exact (gNode_length hls16 m (2 * q) hf1)) (all_map_B _) rfl fun ww hs=>?_
    refine zA hs fun ac hs=>?_
    refine s_end ?_
    replace hs:=hs.sub (F':=[(0,_),(1,_),(2,_),(3,_),(4,_),(10,_),(11,_),(12,_),(13,_)]) ⟨rfl,rfl,rfl,rfl,rfl,rfl,rfl,rfl,rfl,trivial⟩
    refine then_n (wp_seq (wp_reg ?_))
    refine zM hs fun ac hs=>?_
    refine zM hs fun ac hs=>?_
    refine zM hs fun ac hs=>?_
    refine zM hs fun ac hs=>?_
    refine s_q hs (c_to (c_subI (hs.ev rfl) (hs.ev rfl) (by omega) (by omega)) ((congrArg I (show (((m + 1:Nat):Int) - 1=(m:Int)) by omega)))) rfl fun ac hs=>?_
    refine zM hs fun ac hs=>?_
    refine s_q hs (c_mulI (hs.ev rfl) (hs.ev rfl) (by omega) (by omega)) rfl fun ac hs=>?_
    refine s_q hs (c_to (c_addI (hs.ev rfl) (hs.ev rfl) (by omega) (by omega)) ((congrArg I (show (2 * (q:Int) + 1)=((2 * q + 1:Nat):Int) by omega)))) rfl fun ac hs=>?_
    refine s_call hs fu89 (.cons (hs.ev rfl) (.cons (hs.ev rfl) (.cons (hs.ev rfl) (.cons (hs.ev rfl) (.cons (hs.ev rfl) .nil))))) (ih m (by omega) (2 * q + 1) hf2 _ (hq.fr0 hs.fr)) rfl fun ac ww v44 hf hp hs=>?_
    obtain ⟨L',⟨tv2,rfl,ps2,hps2,rfl⟩,hh⟩:=hp
    replace hs:=hs _ hh
    have hpl2:ps2.length≤63:=by have:=congrArg List.length hps2; rw [List.length_map,gNodeTs_length] at this; have:=pow64 (lv:=m) (by omega); omega
    refine zM hs fun ac hs=>?_
    refine s_q hs (c_extract (hs.ev rfl) rfl) rfl fun ac hs=>?_
    refine s_q hs (c_extract (hs.ev rfl) rfl) rfl fun ac hs=>?_
    refine s_alloc hs ty35 rfl fun ac ww g14 hs=>?_
    refine s_storeW (i:=0) hs ty35 rfl rfl rfl (by rw [List.length_map]; exact (gNode_length hls16 m (2 * q + 1) hf2)) (all_map_B _) rfl fun ww hs=>?_
    refine zA hs fun ac hs=>?_
    refine s_end ?_
    replace hs:=hs.sub (F':=[(0,_),(1,_),(3,_),(10,_),(11,_),(12,_),(13,_),(14,_),(15,_)]) ⟨rfl,rfl,rfl,rfl,rfl,rfl,rfl,rfl,rfl,trivial⟩
    refine then_n (wp_seq (wp_reg ?_))
    refine zM hs fun ac hs=>?_
    refine zM hs fun ac hs=>?_
    refine zM hs fun ac hs=>?_
    refine s_q hs (c_loadW ty35 rfl (hs.ev rfl) (hs.seg (i:=2) rfl) (by rw [List.length_map]; exact (gNode_length hls16 m (2 * q) hf1))) rfl fun ac hs=>?_
    refine s_q hs (c_loadW ty35 rfl (hs.ev rfl) (hs.seg (i:=0) rfl) (by rw [List.length_map]; exact (gNode_length hls16 m (2 * q + 1) hf2))) rfl fun ac hs=>?_
    refine s_call hs fu123 (.cons (hs.ev rfl) (.cons (hs.ev rfl) (.cons (hs.ev rfl) (.cons (hs.ev rfl) (.cons (hs.ev rfl) .nil))))) (ref07_Text d ep (m + 1:Nat) (gNode d ep ls m (2 * q)) (gNode d ep ls m (2 * q + 1)) (gNode_length hls16 m (2 * q) hf1) (gNode_length hls16 m (2 * q + 1) hf2) _) rfl fun ac ww v52 hf hp hs=>?_
    obtain ⟨L',hv,hh⟩:=hp
    subst hv
    replace hs:=hs _ hh
    obtain ⟨qad,qcap,rfl,_,_⟩:=Rd.sl (RdB.row (hs.get (i:=0) rfl))
    refine zA hs fun ac hs=>?_
    refine s_end ?_
    replace hs:=hs.sub (F':=[(10,_),(11,_),(13,_),(15,_),(16,_)]) ⟨rfl,rfl,rfl,rfl,rfl,trivial⟩
    refine then_n (wp_seq (wp_reg ?_))
    refine zA hs fun ac hs=>?_
    refine s_end ?_
    replace hs:=hs.texts0 177 (Ent.part 5)
    refine then_n (wp_seq (wp_reg ?_))
    refine zM hs fun ac hs=>?_
    refine zM hs fun ac hs=>?_
    refine s_appTT (i:=0) (j:=5) hs un87 ty177 rfl rfl rfl rfl rfl (RdP.ones (RdP.texts (hs.get (i:=5) rfl))) (by simp only [List.length_nil]; omega) rfl fun ac ww v55 hs=>?_
    refine zA hs fun ac hs=>?_
    refine s_end ?_
    replace hs:=hs.sub (F':=[(10,_),(11,_),(15,_),(16,_),(17,_)]) ⟨rfl,rfl,rfl,rfl,rfl,trivial⟩
    refine then_n (wp_seq (wp_reg ?_))
    refine zM hs fun ac hs=>?_
    refine zM hs fun ac hs=>?_
    refine s_appTT (i:=0) (j:=3) hs un87 ty177 rfl rfl rfl rfl rfl (RdP.ones (RdP.texts (hs.get (i:=3) rfl))) (by simp only [List.length_append,List.length_nil]; omega) rfl fun ac ww v58 hs=>?_
    refine zA hs fun ac hs=>?_
    refine s_end ?_
    replace hs:=hs.sub (F':=[(10,_),(11,_),(16,_),(17,_)]) ⟨rfl,rfl,rfl,rfl,trivial⟩
    refine then_n (wp_seq (wp_reg ?_))
    refine zM hs fun ac hs=>?_
    refine s_call hs fu86 (.cons (hs.ev rfl) .nil) (ref06_Of 71 (gHead d ep (m + 1:Nat)++gNode d ep ls m (2 * q)++gNode d ep ls m (2 * q + 1)) _ (by rw [List.length_append,List.length_append,gHead_length,(gNode_length hls16 m (2 * q) hf1),(gNode_length hls16 m (2 * q + 1) hf2)]; decide) _ (RdB.row (hs.get (i:=1) rfl))) rfl fun ac ww v60 hf hp hs=>?_
    obtain rfl:=hp
    replace hs:=hs [] (.nil _ _)
    refine zM hs fun ac hs=>?_
    refine zM hs fun ac hs=>?_
    refine s_bslice hs un87 ty177 (.cons (hs.ev rfl) .nil) rfl (by simp [Value.cells]) (by decide) rfl rfl fun ac ww g63 hs=>?_
    refine s_appT (i:=1) (j:=2) hs un87 ty177 rfl rfl rfl rfl rfl (hs.seg (i:=0) rfl) rfl (by simp only [List.length_append,List.length_nil]; omega) rfl fun ac ww v64 hs=>?_
    refine s_storeW (i:=7) hs ty35 rfl rfl rfl (by simp) (all_map_B _) rfl fun ww hs=>?_
    refine zA hs fun ac hs=>?_
    refine s_end ?_
    replace hs:=hs.sub (F':=[(10,_),(11,_)]) ⟨rfl,rfl,trivial⟩
    refine then_n (wp_ret ?_)
    refine s_ret hs rfl (.cell (hs.tmp rfl) (run_loadA ty35 rfl (hs.seg (i:=7) rfl) (List.take_of_length_le (by simp)) (by simp)) (.tmp (hs.tmp rfl) .nil)) rfl ⟨_,rfl,hs.fr,?_⟩
    exact ⟨_,⟨_,rfl,_,by rw [List.map_append,List.map_append,List.map_append,hps1,hps2]; rfl,rfl⟩,(hs.pick (L':=[_]) (.cons _ (.cons_cons _ (List.nil_sublist _)))).made⟩
theorem ref07_Node (d:Int) (ep:UInt32) (ls:List UInt8) (n:Nat) (lv:Value) (hls:ls.length=n * 16) (hn:n≤100):∀ k:Nat,k≤6→∀ q:Nat,(q + 1) * 2 ^ k≤n→∀ w:World,Rd w lv n (ls.map B)→Ctr Tryz.prog 89 [I d,U ep,lv,I (k:Nat),I (q:Nat)] w (fun _=>False) (outE (tupE (.agg ((gNode d ep ls k q).map B).toArray) (textsE 177 5 (gNodeTs d ep ls k q))) w):=by
  intro k
  induction k using Nat.strongRecOn with
  | _ k ih=>exact fun hk6 q hqk w hq=>ref07_Node_step d ep ls n lv hls hn k q hk6 hqk (fun m hm q2 hq2 w hq=>ih m hm (by omega) q2 hq2 w hq) w hq
end Go.Proofs.YtklajbdbnnceiaaGreat
end

section
/- Paths and folds of groves,as the document has them. -/
namespace Go.Proofs.YtklajbdbnnceiaaGreat
open Go Go.Fw
open Sha
abbrev gWay (d:Int) (ep:UInt32) (ls:List UInt8) (q:Nat):Nat→List UInt8:=wayN (gJ d ep) (gLf ls) q
def gPath (d:Int) (ep:UInt32) (ls:List UInt8) (q n:Nat):List UInt8:=rows (gWay d ep ls q) n
theorem gPath_succ (d:Int) (ep:UInt32) (ls:List UInt8) (q n:Nat):gPath d ep ls q (n + 1)=gPath d ep ls q n++gWay d ep ls q n:=rows_succ _ _
theorem beside_fit {q lv k:Nat} (h:q < 2 ^ lv) (hk:k < lv):(besideI (q / 2 ^ k) + 1) * 2 ^ k≤2 ^ lv:=by
  obtain ⟨m,rfl⟩:∃ m,lv=k + (m + 1):=⟨lv - k - 1,by omega⟩
  have h1:q / 2 ^ k < 2 ^ (m + 1):=by
    rw [Nat.div_lt_iff_lt_mul (Nat.two_pow_pos k),← Nat.pow_add,Nat.add_comm (m + 1) k]
    exact h
  have h2:besideI (q / 2 ^ k) + 1≤2 ^ (m + 1):=by
    rw [Nat.pow_succ] at h1 ⊢
    generalize q / 2 ^ k=z at h1 ⊢
    unfold besideI
    split <;> omega
  have h3:=Nat.mul_le_mul_right (2 ^ k) h2
  rw [Nat.pow_add 2 k,Nat.mul_comm (2 ^ k)]
  exact h3
theorem gPath_length {d:Int} {ep:UInt32} {ls:List UInt8} {q lv:Nat} (hls:ls.length=16 * 2 ^ lv) (hq:q < 2 ^ lv):∀ k,k≤lv→(gPath d ep ls q k).length=k * 16
  | 0,_=>rfl
  | k + 1,hk=>by
    rw [gPath_succ,List.length_append,gPath_length hls hq k (by omega),gWay,wayN]
    have:=gNode_length (d:=d) (ep:=ep) hls k _ (beside_fit hq (show k < lv by omega))
    simp only [gNode] at this
    rw [this]
    omega
abbrev gRise (d:Int) (ep:UInt32) (q:Nat) (l ws:List UInt8):Nat→List UInt8:=riseN (gJ d ep) q l (chunk ws)
abbrev gRiseTs (d:Int) (ep:UInt32) (q:Nat) (l ws:List UInt8):Nat→List (List UInt8):=riseTs (gJ d ep) q l (chunk ws)
theorem gRise_length {d:Int} {ep:UInt32} {q:Nat} {l ws:List UInt8} (hl:l.length=16) (k:Nat):(gRise d ep q l ws k).length=16:=riseN_length hl k
theorem gRiseTs_length (d:Int) (ep:UInt32) (q:Nat) (l ws:List UInt8):∀ k,(gRiseTs d ep q l ws k).length=k
  | 0=>rfl
  | k + 1=>by rw [gRiseTs,riseTs,List.length_append,gRiseTs_length d ep q l ws k]; rfl
def foldOk (i:Int) (m:Nat):Bool:=decide (0≤i) && decide (m≤6) && decide (i < 2 ^ m)
def foldB (d:Int) (ep:UInt32) (i:Int) (l ws:List UInt8) (m:Nat):List UInt8:=if foldOk i m=true then gRise d ep i.toNat l ws m else (List.replicate 16 (0:UInt8))
def foldE (i:Int) (m:Nat):Int:=if foldOk i m=true then 0 else 1
def foldX (d:Int) (ep:UInt32) (i:Int) (l ws:List UInt8) (m:Nat):List (List UInt8):=if foldOk i m=true then gRiseTs d ep i.toNat l ws m else []
theorem foldB_length {d:Int} {ep:UInt32} {i:Int} {l ws:List UInt8} {m:Nat} (hl:l.length=16):(foldB d ep i l ws m).length=16:=by
  unfold foldB
  split
  · exact gRise_length hl _
  · simp
theorem fold_bad {i:Int} {m:Nat} (h:¬ (0≤i∧m≤6∧i < 2 ^ m)):¬ foldOk i m=true:=by
  intro h2
  unfold foldOk at h2
  simp only [Bool.and_eq_true,decide_eq_true_eq] at h2
  exact h ⟨h2.1.1,h2.1.2,h2.2⟩
theorem fold_good {i:Int} {m:Nat} (h1:0≤i) (h2:m≤6) (h3:i < 2 ^ m):foldOk i m=true:=by simp [foldOk,h1,h2,h3]
def chkB (d:Int) (ep:UInt32) (hh:Int) (rt:List UInt8) (i:Int) (l ws:List UInt8) (m:Nat):Bool:=decide ((m:Int)=hh) && decide (foldE i m=0) && decide (foldB d ep i l ws m=rt)
theorem ref07_Path (d:Int) (ep:UInt32) (ls:List UInt8) (n lv q:Nat) (av:Value) (hls:ls.length=n * 16) (hk6:lv≤6) (hnk:n=2 ^ lv) (hxl:height n=lv) (hqn:q < n) (w:World) (hq:Rd w av n (ls.map B)):Ctr Tryz.prog 72 [I d,U ep,av,I q] w (fun _=>False) (outE (rowS' lv (gPath d ep ls q lv)) w):=by
  have hls16:ls.length=16 * n:=by omega
  have h64:=pow64 hk6
  have hn:n≤100:=by omega
  obtain ⟨lad,lcap,rfl,hlc,hlm⟩:=Rd.sl hq
  refine fn_start (N:=44) Tryz.func72 rfl rfl rfl fun ac hk=>?_
  have hs:=St.start hk w
  refine wp_seq (wp_reg ?_)
  refine zA hs fun ac hs=>?_
  refine s_end (then_n (wp_seq (wp_reg ?_)))
  refine zA hs fun ac hs=>?_
  refine s_end ?_
  replace hs:=hs.nilrow 35 16
  refine then_n (wp_seq (wp_seq (wp_reg ?_)))
  refine zA hs fun ac hs=>?_
  refine s_end (then_n (wp_block ?_))
  refine s_loop hs (X:=Nat × Value) (fun x=>[(3,I (q / 2 ^ x.1:Nat)),(9,x.2),(10,I x.1)]) [(0,_),(1,_),(2,_),(8,_)] (fun x=>[.row x.2 x.1 ((gPath d ep ls q x.1).map B) 35 16]) (fun j x=>x.1≤lv∧j=lv - x.1) (_) ((0,_)) (⟨Nat.zero_le _,rfl⟩) ⟨(congrArg (fun z:Nat=>some (I z)) (by simp)),rfl,rfl,rfl,rfl,rfl,rfl,trivial⟩ rfl ?_
  rintro n ⟨k,v⟩ ac ww hok hs
  simp only [List.cons_append,List.nil_append] at hs
  obtain ⟨hk,rfl⟩:=hok
  simp only at hk hs
  obtain ⟨qk,hqk⟩:∃ qk:Nat,q / 2 ^ k=qk:=⟨_,rfl⟩
  have hqle:qk≤q:=hqk ▸ Nat.div_le_self _ _
  rw [hqk] at hs
  have hsl:=gPath_length (d:=d) (ep:=ep) (ls:=ls) (q:=q) (lv:=lv) (by omega) (by omega) k hk
  refine wp_seq (wp_seq (wp_reg ?_))
  refine zM hs fun ac hs=>?_
  refine zM hs fun ac hs=>?_
  refine s_q hs (c_lenS un47 (hs.ev rfl)) rfl fun ac hs=>?_
  refine s_call hs fu108 (.cons (hs.ev rfl) .nil) ((by have h:=ref07_Height (n:Int) ww; rw [hxl] at h; exact h)) rfl fun ac ww v17 hf hp hs=>?_
  obtain rfl:=hp
  replace hs:=hs [] (.nil _ _)
  refine s_q hs (c_lssI (hs.ev rfl) (hs.ev rfl)) rfl fun ac hs=>?_
  refine s_end (then_n ?_)
  refine s_cond hs rfl (fun hc=>?_) (fun hc=>?_)
  · try simp only [z1,z2,z3,z4,z5,z6,z7] at hc
    have hkl:k < lv:=by omega
    have hbl:=beside_fit (k:=k) (by rw [← hnk]; exact hqn) hkl
    rw [hqk,← hnk] at hbl
    refine wp_skip (then_n (wp_seq (wp_block (wp_seq (wp_reg ?_)))))
    refine zM hs fun ac hs=>?_
    refine s_q hs (c_addI (hs.ev rfl) (hs.ev rfl) (by omega) (by omega)) rfl fun ac hs=>?_
    refine zA hs fun ac hs=>?_
    refine s_end (then_n (wp_seq (wp_seq (wp_reg ?_))))
    refine zM hs fun ac hs=>?_
    refine s_q hs (c_remI (hs.ev rfl) (hs.ev rfl) (by omega) (by omega)) rfl fun ac hs=>?_
    refine s_q hs (c_eqlI (hs.ev rfl) (hs.ev rfl)) rfl fun ac hs=>?_
    refine s_end (then_n ?_)
    refine s_cond hs rfl (fun hc=>?_) (fun hc=>?_)
    · try simp only [z1,z2,z3,z4,z5,z6,z7] at hc
      refine wp_reg ?_
      refine zM hs fun ac hs=>?_
      refine s_q hs (c_subI (hs.ev rfl) (hs.ev rfl) (by omega) (by omega)) rfl fun ac hs=>?_
      refine zA hs fun ac hs=>?_
      refine s_end ?_
      have hbe:((qk:Int) - 1)=((besideI qk:Nat):Int):=by unfold besideI; rw [if_pos (by omega)]; omega
      rw [hbe] at hs
      refine then_n (wp_seq (wp_reg ?_))
      refine zM hs fun ac hs=>?_
      refine zM hs fun ac hs=>?_
      refine zM hs fun ac hs=>?_
      refine zM hs fun ac hs=>?_
      refine zM hs fun ac hs=>?_
      refine s_call hs fu89 (.cons (hs.ev rfl) (.cons (hs.ev rfl) (.cons (hs.ev rfl) (.cons (hs.ev rfl) (.cons (hs.ev rfl) .nil))))) (ref07_Node d ep ls n _ hls hn k (by omega) (besideI qk) hbl _ (hq.fr0 hs.fr)) rfl fun ac ww v34 hf hp hs=>?_
      obtain ⟨L',⟨tv2,rfl,ps2,hps2,rfl⟩,hh⟩:=hp
      replace hs:=hs _ hh
      refine zM hs fun ac hs=>?_
      refine s_q hs (c_extract (hs.ev rfl) rfl) rfl fun ac hs=>?_
      refine s_q hs (c_extract (hs.ev rfl) rfl) rfl fun ac hs=>?_
      refine s_alloc hs ty35 rfl fun ac ww g12 hs=>?_
      refine s_storeW (i:=0) hs ty35 rfl rfl rfl (by rw [List.length_map]; exact (gNode_length hls16 k (besideI qk) hbl)) (all_map_B _) rfl fun ww hs=>?_
      refine zA hs fun ac hs=>?_
      refine s_end ?_
      replace hs:=hs.sub (F':=[(0,_),(1,_),(2,_),(3,_),(8,_),(9,_),(10,_),(11,_),(12,_),(14,_),(15,_),(16,_),(17,_),(18,_),(21,_),(22,_),(23,_),(24,_),(25,_),(26,_),(27,_),(28,_),(29,_),(30,_),(31,_),(32,_),(33,_),(34,_),(35,_),(36,_)]) ⟨rfl,rfl,rfl,rfl,rfl,rfl,rfl,rfl,rfl,rfl,rfl,rfl,rfl,rfl,rfl,rfl,rfl,rfl,rfl,rfl,rfl,rfl,rfl,rfl,rfl,rfl,rfl,rfl,rfl,rfl,trivial⟩
      refine then_n (wp_seq (wp_reg ?_))
      refine zM hs fun ac hs=>?_
      refine s_q hs (c_loadW ty35 rfl (hs.ev rfl) (hs.seg (i:=0) rfl) (by rw [List.length_map]; exact (gNode_length hls16 k (besideI qk) hbl))) rfl fun ac hs=>?_
      refine s_bslice hs un47 ty35 (.cons (hs.ev rfl) .nil) rfl (by intro v hv; simp only [List.mem_singleton] at hv; subst hv; simp [Value.cells,(gNode_length hls16 k (besideI qk) hbl)]) (by decide) (show _=(gNode d ep ls k (besideI qk)).map B by simp [flatCells,Value.cells]) rfl fun ac ww g39 hs=>?_
      refine s_append (i:=3) hs un47 ty35 (by decide) rfl rfl rfl (Rd.of_seg (n:=1) (hs.seg (i:=0) rfl) (Nat.le_refl _) (by decide) (List.take_of_length_le (by simp))) (by rw [List.length_map,(gNode_length hls16 k (besideI qk) hbl)]) (all_map_B _) (by unfold maxLen; omega) (by omega) rfl fun ac ww v40 hf hnil hs=>?_
      refine zA hs fun ac hs=>?_
      refine s_end (then_n (wp_reg ?_))
      refine zM hs fun ac hs=>?_
      refine s_q hs (c_quoI (hs.ev rfl) (hs.ev rfl) (by omega) (by omega) (by omega)) rfl fun ac hs=>?_
      refine zA hs fun ac hs=>?_
      refine s_end (blk_n (then_n (wp_reg ?_)))
      refine zM hs fun ac hs=>?_
      refine s_q hs (c_addI (hs.ev rfl) (hs.ev rfl) (by omega) (by omega)) rfl fun ac hs=>?_
      refine zA hs fun ac hs=>?_
      refine s_end (then_n ?_)
      replace hs:=hs.pick (L':=[_]) (.cons _ (.cons _ (.cons _ (.refl _))))
      exact ⟨lv - (k + 1),by (try simp only); omega,(k + 1,_),⟨by (try simp only); omega,rfl⟩,St.next hs ⟨(congrArg (fun z=>some (I z)) (by rw [half_pow,hqk]; omega)),rfl,rfl,rfl,rfl,rfl,rfl,trivial⟩ (by simp only [gPath_succ,List.map_append,gWay,wayN,hqk])⟩
    · try simp only [z1,z2,z3,z4,z5,z6,z7] at hc
      have hbe:((qk:Int) + 1)=((besideI qk:Nat):Int):=by unfold besideI; rw [if_neg (by omega)]; rfl
      rw [hbe] at hs
      refine wp_skip (then_n (wp_seq (wp_reg ?_)))
      refine zM hs fun ac hs=>?_
      refine zM hs fun ac hs=>?_
      refine zM hs fun ac hs=>?_
      refine zM hs fun ac hs=>?_
      refine zM hs fun ac hs=>?_
      refine s_call hs fu89 (.cons (hs.ev rfl) (.cons (hs.ev rfl) (.cons (hs.ev rfl) (.cons (hs.ev rfl) (.cons (hs.ev rfl) .nil))))) (ref07_Node d ep ls n _ hls hn k (by omega) (besideI qk) hbl _ (hq.fr0 hs.fr)) rfl fun ac ww v34 hf hp hs=>?_
      obtain ⟨L',⟨tv2,rfl,ps2,hps2,rfl⟩,hh⟩:=hp
      replace hs:=hs _ hh
      refine zM hs fun ac hs=>?_
      refine s_q hs (c_extract (hs.ev rfl) rfl) rfl fun ac hs=>?_
      refine s_q hs (c_extract (hs.ev rfl) rfl) rfl fun ac hs=>?_
      refine s_alloc hs ty35 rfl fun ac ww g12 hs=>?_
      refine s_storeW (i:=0) hs ty35 rfl rfl rfl (by rw [List.length_map]; exact (gNode_length hls16 k (besideI qk) hbl)) (all_map_B _) rfl fun ww hs=>?_
      refine zA hs fun ac hs=>?_
      refine s_end ?_
      replace hs:=hs.sub (F':=[(0,_),(1,_),(2,_),(3,_),(8,_),(9,_),(10,_),(11,_),(12,_),(14,_),(15,_),(16,_),(17,_),(18,_),(21,_),(22,_),(23,_),(24,_),(25,_),(28,_),(29,_),(30,_),(31,_),(32,_),(33,_),(34,_),(35,_),(36,_)]) ⟨rfl,rfl,rfl,rfl,rfl,rfl,rfl,rfl,rfl,rfl,rfl,rfl,rfl,rfl,rfl,rfl,rfl,rfl,rfl,rfl,rfl,rfl,rfl,rfl,rfl,rfl,rfl,rfl,trivial⟩
      refine then_n (wp_seq (wp_reg ?_))
      refine zM hs fun ac hs=>?_
      refine s_q hs (c_loadW ty35 rfl (hs.ev rfl) (hs.seg (i:=0) rfl) (by rw [List.length_map]; exact (gNode_length hls16 k (besideI qk) hbl))) rfl fun ac hs=>?_
      refine s_bslice hs un47 ty35 (.cons (hs.ev rfl) .nil) rfl (by intro v hv; simp only [List.mem_singleton] at hv; subst hv; simp [Value.cells,(gNode_length hls16 k (besideI qk) hbl)]) (by decide) (show _=(gNode d ep ls k (besideI qk)).map B by simp [flatCells,Value.cells]) rfl fun ac ww g39 hs=>?_
      refine s_append (i:=3) hs un47 ty35 (by decide) rfl rfl rfl (Rd.of_seg (n:=1) (hs.seg (i:=0) rfl) (Nat.le_refl _) (by decide) (List.take_of_length_le (by simp))) (by rw [List.length_map,(gNode_length hls16 k (besideI qk) hbl)]) (all_map_B _) (by unfold maxLen; omega) (by omega) rfl fun ac ww v40 hf hnil hs=>?_
      refine zA hs fun ac hs=>?_
      refine s_end (then_n (wp_reg ?_))
      refine zM hs fun ac hs=>?_
      refine s_q hs (c_quoI (hs.ev rfl) (hs.ev rfl) (by omega) (by omega) (by omega)) rfl fun ac hs=>?_
      refine zA hs fun ac hs=>?_
      refine s_end (blk_n (then_n (wp_reg ?_)))
      refine zM hs fun ac hs=>?_
      refine s_q hs (c_addI (hs.ev rfl) (hs.ev rfl) (by omega) (by omega)) rfl fun ac hs=>?_
      refine zA hs fun ac hs=>?_
      refine s_end (then_n ?_)
      replace hs:=hs.pick (L':=[_]) (.cons _ (.cons _ (.cons _ (.refl _))))
      exact ⟨lv - (k + 1),by (try simp only); omega,(k + 1,_),⟨by (try simp only); omega,rfl⟩,St.next hs ⟨(congrArg (fun z=>some (I z)) (by rw [half_pow,hqk]; omega)),rfl,rfl,rfl,rfl,rfl,rfl,trivial⟩ (by simp only [gPath_succ,List.map_append,gWay,wayN,hqk])⟩
  · try simp only [z1,z2,z3,z4,z5,z6,z7] at hc
    obtain rfl:lv=k:=by omega
    refine wp_exit (then_e (then_e (blk_hit (then_n (wp_seq (wp_reg ?_))))))
    refine zM hs fun ac hs=>?_
    refine zA hs fun ac hs=>?_
    refine s_end ?_
    replace hs:=hs.sub (F':=[(8,_)]) ⟨rfl,trivial⟩
    refine then_n (wp_ret ?_)
    refine s_ret hs rfl (.tmp (hs.tmp rfl) .nil) rfl ⟨_,rfl,hs.fr,?_⟩
    exact ⟨_,rfl,hs.made⟩
theorem ref07_Fold (d:Int) (ep:UInt32) (i:Int) (m:Nat) (l ws:List UInt8) (wv:Value) (hll:l.length=16) (hwl:ws.length=m * 16) (w:World) (hqw:Rd w wv m (ws.map B)):Ctr Tryz.prog 91 [I d,U ep,I i,.agg (l.map B).toArray,wv] w (fun _=>False) (outE (tup3E (.agg ((foldB d ep i l ws m).map B).toArray) (I (foldE i m)) (textsE 177 5 (foldX d ep i l ws m))) w):=by
  have hml:=hqw.le
  obtain ⟨wad,wcap,rfl,hwc,hwm⟩:=Rd.sl hqw
  refine fn_start (N:=77) Tryz.func91 rfl rfl rfl fun ac hk=>?_
  have hs:=St.start hk w
  refine wp_seq (wp_reg ?_)
  refine s_box hs rfl rfl rfl fun ac ww g8 hs=>?_
  refine s_alloc hs ty35 rfl fun ac ww g10 hs=>?_
  refine zA hs fun ac hs=>?_
  refine zA hs fun ac hs=>?_
  refine s_end ?_
  replace hs:=hs.sub (F':=[(0,_),(1,_),(2,_),(4,_),(8,_),(10,_),(11,_),(12,_)]) ⟨rfl,rfl,rfl,rfl,rfl,rfl,rfl,rfl,trivial⟩
  refine then_n (wp_seq (wp_seq (wp_reg ?_)))
  refine zM hs fun ac hs=>?_
  refine s_q hs (c_lssI (hs.ev rfl) (hs.ev rfl)) rfl fun ac hs=>?_
  refine zM hs fun ac hs=>?_
  refine s_g hs rfl rfl (fun hg=>c_move (hs.ev rfl)) rfl fun ac hs=>?_
  refine s_g hs rfl rfl (fun hg=>c_lenS un47 (gev (hs.ev rfl) hg)) rfl fun ac hs=>?_
  refine s_g hs rfl rfl (fun hg=>c_gtrI (gev (hs.ev rfl) hg) (hs.ev rfl)) rfl fun ac hs=>?_
  refine s_q hs (c_or (hs.ev rfl) (hs.ev rfl)) rfl fun ac hs=>?_
  refine s_end ?_
  replace hs:=hs.sub (F':=[(0,_),(1,_),(2,_),(4,_),(8,_),(10,_),(11,_),(12,_),(24,_)]) ⟨rfl,rfl,rfl,rfl,rfl,rfl,rfl,rfl,rfl,trivial⟩
  refine then_n ?_
  refine s_cond hs rfl (fun hc=>?_) (fun hc=>?_)
  · skip
    simp only [Bool.or_eq_true,decide_eq_true_eq] at hc
    have hno:¬ foldOk i m=true:=fold_bad (by omega)
    
    refine wp_seq (wp_reg ?_)
    refine s_q hs (c_buildA ty35 un35 ty5 (zc:=(List.replicate 16 (0:UInt8)).map B) (vs:=[]) .nil (by simp) (by simp [flatCells]) rfl) rfl fun ac hs=>?_
    refine s_storeW (i:=0) hs ty35 rfl rfl rfl (by simp) (all_map_B _) rfl fun ww hs=>?_
    refine zA hs fun ac hs=>?_
    refine zA hs fun ac hs=>?_
    refine s_end ?_
    replace hs:=hs.sub (F':=[(0,_),(1,_),(2,_),(4,_),(8,_),(10,_),(11,_),(12,_)]) ⟨rfl,rfl,rfl,rfl,rfl,rfl,rfl,rfl,trivial⟩
    refine then_n (wp_ret (then_r ?_))
    refine s_ret hs rfl (.cell (hs.tmp rfl) (run_loadA ty35 rfl (hs.seg (i:=0) rfl) (List.take_of_length_le (by simp)) (by simp)) (.tmp (hs.tmp rfl) (.tmp (hs.tmp rfl) .nil))) rfl ⟨_,rfl,hs.fr,?_⟩
    rw [foldB,foldE,foldX,if_neg hno,if_neg hno,if_neg hno]
    exact ⟨_,⟨_,rfl,[],rfl,rfl⟩,((hs.texts0 177 (Ent.part 5)).pick (L':=[_]) (.cons_cons _ (List.nil_sublist _))).made⟩
  · skip
    simp only [Bool.or_eq_false_iff,decide_eq_false_iff_not] at hc
    have hi0:0≤i:=by omega
    have hm6:m≤6:=by omega
    have hp64:=pow_le64 m (by omega)
    refine wp_skip (then_n (wp_seq (wp_reg ?_)))
    refine zA hs fun ac hs=>?_
    refine s_end ?_
    replace hs:=hs.sub (F':=[(0,_),(1,_),(2,_),(4,_),(8,_),(10,_),(11,_),(12,_),(13,_)]) ⟨rfl,rfl,rfl,rfl,rfl,rfl,rfl,rfl,rfl,trivial⟩
    refine then_n (wp_seq (wp_seq (wp_reg ?_)))
    refine zA hs fun ac hs=>?_
    refine s_end (then_n (wp_block ?_))
    refine s_loop hs (X:=Nat) (fun k=>[(13,I ((2:Int) ^ k)),(14,I k)]) [(0,_),(1,_),(2,_),(4,_),(8,_),(10,_),(11,_),(12,_)] (fun _=>[_,_]) (fun j k=>k≤m∧j=m - k) (_) (0) (⟨Nat.zero_le _,rfl⟩) ⟨rfl,rfl,rfl,rfl,rfl,rfl,rfl,rfl,rfl,rfl,trivial⟩ rfl ?_
    rintro n k ac ww hok hs
    simp only [List.cons_append,List.nil_append] at hs
    obtain ⟨hk,rfl⟩:=hok
    have hp8:=pow_le64 k (by omega)
    have hp0:=pow_pos k
    refine wp_seq (wp_seq (wp_reg ?_))
    refine zM hs fun ac hs=>?_
    refine zM hs fun ac hs=>?_
    refine s_q hs (c_lenS un47 (hs.ev rfl)) rfl fun ac hs=>?_
    refine s_q hs (c_lssI (hs.ev rfl) (hs.ev rfl)) rfl fun ac hs=>?_
    refine s_end (then_n ?_)
    refine s_cond hs rfl (fun hc=>?_) (fun hc=>?_)
    · try simp only [z1,z2,z3,z4,z5,z6,z7] at hc
      refine wp_skip (then_n (wp_seq (wp_block (wp_reg ?_))))
      refine zM hs fun ac hs=>?_
      refine s_q hs (c_mulI (hs.ev rfl) (hs.ev rfl) (by omega) (by omega)) rfl fun ac hs=>?_
      refine zA hs fun ac hs=>?_
      refine s_end (blk_n (then_n (wp_reg ?_)))
      refine zM hs fun ac hs=>?_
      refine s_q hs (c_addI (hs.ev rfl) (hs.ev rfl) (by omega) (by omega)) rfl fun ac hs=>?_
      refine zA hs fun ac hs=>?_
      refine s_end (then_n ?_)
      exact ⟨m - (k + 1),by omega,k + 1,⟨by omega,rfl⟩,St.next hs ⟨(congrArg (fun z=>some (I z)) (by rw [Int.pow_succ]; omega)),rfl,rfl,rfl,rfl,rfl,rfl,rfl,rfl,rfl,trivial⟩ rfl⟩
    · try simp only [z1,z2,z3,z4,z5,z6,z7] at hc
      obtain rfl:m=k:=by omega
      refine wp_exit (then_e (then_e (blk_hit (then_n (wp_seq (wp_seq (wp_reg ?_)))))))
      refine zM hs fun ac hs=>?_
      refine zM hs fun ac hs=>?_
      refine s_q hs (c_geqI (hs.ev rfl) (hs.ev rfl)) rfl fun ac hs=>?_
      refine s_end ?_
      replace hs:=hs.sub (F':=[(0,_),(1,_),(2,_),(4,_),(8,_),(10,_),(11,_),(12,_),(36,_)]) ⟨rfl,rfl,rfl,rfl,rfl,rfl,rfl,rfl,rfl,trivial⟩
      refine then_n ?_
      refine s_cond hs rfl (fun hc=>?_) (fun hc=>?_)
      · try simp only [z1,z2,z3,z4,z5,z6,z7] at hc
        have hno:¬ foldOk i m=true:=fold_bad (by omega)
        
        refine wp_seq (wp_reg ?_)
        refine s_q hs (c_buildA ty35 un35 ty5 (zc:=(List.replicate 16 (0:UInt8)).map B) (vs:=[]) .nil (by simp) (by simp [flatCells]) rfl) rfl fun ac hs=>?_
        refine s_storeW (i:=0) hs ty35 rfl rfl rfl (by simp) (all_map_B _) rfl fun ww hs=>?_
        refine zA hs fun ac hs=>?_
        refine zA hs fun ac hs=>?_
        refine s_end ?_
        replace hs:=hs.sub (F':=[(0,_),(1,_),(2,_),(4,_),(8,_),(10,_),(11,_),(12,_)]) ⟨rfl,rfl,rfl,rfl,rfl,rfl,rfl,rfl,trivial⟩
        refine then_n (wp_ret (then_r ?_))
        refine s_ret hs rfl (.cell (hs.tmp rfl) (run_loadA ty35 rfl (hs.seg (i:=0) rfl) (List.take_of_length_le (by simp)) (by simp)) (.tmp (hs.tmp rfl) (.tmp (hs.tmp rfl) .nil))) rfl ⟨_,rfl,hs.fr,?_⟩
        rw [foldB,foldE,foldX,if_neg hno,if_neg hno,if_neg hno]
        exact ⟨_,⟨_,rfl,[],rfl,rfl⟩,((hs.texts0 177 (Ent.part 5)).pick (L':=[_]) (.cons_cons _ (List.nil_sublist _))).made⟩
      · try simp only [z1,z2,z3,z4,z5,z6,z7] at hc
        have hok1:foldOk i m=true:=fold_good hi0 hm6 (by omega)
        obtain ⟨q,rfl⟩:∃ q:Nat,i=q:=⟨i.toNat,by omega⟩
        have hq64:q < 64:=by omega
        refine wp_skip (then_n (wp_seq (wp_reg ?_)))
        refine zA hs fun ac hs=>?_
        refine s_end ?_
        replace hs:=hs.texts0 177 (Ent.part 5)
        replace hs:=hs.sub (F':=[(0,_),(1,_),(2,_),(4,_),(8,_),(10,_),(11,_),(12,_),(15,_)]) ⟨rfl,rfl,rfl,rfl,rfl,rfl,rfl,rfl,rfl,trivial⟩
        refine then_n (wp_seq (wp_seq (wp_reg ?_)))
        refine zA hs fun ac hs=>?_
        refine s_end (then_n (wp_block ?_))
        refine s_loop hs (X:=Nat × Value × List (Value × List UInt8)) (fun x=>[(2,I (q / 2 ^ x.1:Nat)),(15,x.2.1),(16,I x.1)]) [(0,_),(1,_),(4,_),(8,_),(10,_),(11,_),(12,_)] (fun x=>[.texts 177 (Ent.part 5) x.2.1 x.2.2,_,.seg g8 ((gRise d ep q l ws x.1).map B) 35]) (fun j x=>x.1≤m∧j=m - x.1∧x.2.2.map (·.2)=gRiseTs d ep q l ws x.1) (_) ((0,_,[])) (⟨Nat.zero_le _,rfl,rfl⟩) ⟨(congrArg (fun z:Nat=>some (I z)) (by simp)),rfl,rfl,rfl,rfl,rfl,rfl,rfl,rfl,rfl,trivial⟩ rfl ?_
        rintro n ⟨k,v,ps⟩ ac ww hok hs
        simp only [List.cons_append,List.nil_append] at hs
        obtain ⟨hk,rfl,hps⟩:=hok
        simp only at hk hps hs
        have hpl:ps.length=k:=by have:=congrArg List.length hps; rwa [List.length_map,gRiseTs_length] at this
        have hrl:=gRise_length (d:=d) (ep:=ep) (q:=q) (ws:=ws) hll k
        obtain ⟨qk,hqk⟩:∃ qk:Nat,q / 2 ^ k=qk:=⟨_,rfl⟩
        have hqle:qk≤q:=hqk ▸ Nat.div_le_self _ _
        rw [hqk] at hs
        refine wp_seq (wp_seq (wp_reg ?_))
        refine zM hs fun ac hs=>?_
        refine zM hs fun ac hs=>?_
        refine s_q hs (c_lenS un47 (hs.ev rfl)) rfl fun ac hs=>?_
        refine s_q hs (c_lssI (hs.ev rfl) (hs.ev rfl)) rfl fun ac hs=>?_
        refine s_end (then_n ?_)
        refine s_cond hs rfl (fun hc=>?_) (fun hc=>?_)
        · try simp only [z1,z2,z3,z4,z5,z6,z7] at hc
          have hkn:k < m:=by omega
          have hcl:=chunk_l hwl hkn
          obtain ⟨pb,po,pT,pf,pall,rfl,hpb,hps2⟩:=Rd.bytes_at hqw hwl (by omega)
          refine wp_skip (then_n (wp_seq (wp_block (wp_seq ?_))))
          refine wp_region_rg pmix 9 (by kernel_rfl) rfl hs ?_
          simp only [List.take_succ_cons,List.take_zero]
          refine rg_q (fun ac ww h=>c_move (h.ev rfl)) rfl ?_
          refine rg_q (fun ac ww h=>c_move (h.ev rfl)) rfl ?_
          refine rg_q (fun ac ww h=>c_move (h.ev rfl)) rfl ?_
          refine rg_q (fun ac ww h=>c_to (c_addI (h.ev rfl) (h.ev rfl) (by omega) (by omega)) ((congrArg I (show ((k:Int) + 1=((k + 1:Nat):Int)) by omega)))) rfl ?_
          refine rg_q (fun ac ww h=>c_loadW ty35 rfl (h.ev rfl) (h.blk (hs.seg (i:=2) rfl)) (by rw [List.length_map,hrl])) rfl ?_
          refine rg_q (fun ac ww h=>c_move (h.ev rfl)) rfl ?_
          refine rg_q (fun ac ww h=>c_move (h.ev rfl)) rfl ?_
          refine rg_q (fun ac ww h=>c_idxS (j:=k) un47 ty35 (h.ev rfl) (h.ev rfl) (by omega) (by omega)) rfl ?_
          refine rg_q (fun ac ww h=>c_loadA ty35 rfl (h.ev rfl) (h.blk (hs.old hpb id)) (rdpiece hps2 hwl hkn) (by rw [List.length_map,hcl])) rfl ?_
          refine rg_nil fun ac ww L' hf hfe hs=>?_
          simp only [List.drop_succ_cons,List.drop_zero]
          obtain rfl:L'=[]:=hfe
          replace hs:=hs.toL (List.nil_append _)
          refine s_call hs fu123 (.cons (hs.ev rfl) (.cons (hs.ev rfl) (.cons (hs.ev rfl) (.cons (hs.ev rfl) (.cons (hs.ev rfl) .nil))))) (ref07_Text d ep (k + 1:Nat) (gRise d ep q l ws k) (chunk ws k) hrl hcl _) rfl fun ac ww v53 hf hp hs=>?_
          obtain ⟨L',hv,hh⟩:=hp
          subst hv
          replace hs:=hs _ hh
          obtain ⟨qad,qcap,rfl,_,_⟩:=Rd.sl (RdB.row (hs.get (i:=0) rfl))
          refine zA hs fun ac hs=>?_
          refine s_end (then_n (wp_seq (wp_seq (wp_reg ?_))))
          refine zM hs fun ac hs=>?_
          refine s_q hs (c_remI (hs.ev rfl) (hs.ev rfl) (by omega) (by omega)) rfl fun ac hs=>?_
          refine s_q hs (c_eqlI (hs.ev rfl) (hs.ev rfl)) rfl fun ac hs=>?_
          refine s_end (then_n ?_)
          refine s_cond hs rfl (fun hc=>?_) (fun hc=>?_)
          · try simp only [z1,z2,z3,z4,z5,z6,z7] at hc
            refine wp_region_rg pmix 9 (by kernel_rfl) rfl hs ?_
            simp only [List.take_succ_cons,List.take_zero]
            refine rg_q (fun ac ww h=>c_move (h.ev rfl)) rfl ?_
            refine rg_q (fun ac ww h=>c_move (h.ev rfl)) rfl ?_
            refine rg_q (fun ac ww h=>c_move (h.ev rfl)) rfl ?_
            refine rg_q (fun ac ww h=>c_to (c_addI (h.ev rfl) (h.ev rfl) (by omega) (by omega)) ((congrArg I (show ((k:Int) + 1=((k + 1:Nat):Int)) by omega)))) rfl ?_
            refine rg_q (fun ac ww h=>c_move (h.ev rfl)) rfl ?_
            refine rg_q (fun ac ww h=>c_move (h.ev rfl)) rfl ?_
            refine rg_q (fun ac ww h=>c_idxS (j:=k) un47 ty35 (h.ev rfl) (h.ev rfl) (by omega) (by omega)) rfl ?_
            refine rg_q (fun ac ww h=>c_loadA ty35 rfl (h.ev rfl) (h.blk (hs.old hpb id)) (rdpiece hps2 hwl hkn) (by rw [List.length_map,hcl])) rfl ?_
            refine rg_q (fun ac ww h=>c_loadW ty35 rfl (h.ev rfl) (h.blk (hs.seg (i:=3) rfl)) (by rw [List.length_map,hrl])) rfl ?_
            refine rg_nil fun ac ww L' hf hfe hs=>?_
            simp only [List.drop_succ_cons,List.drop_zero]
            obtain rfl:L'=[]:=hfe
            replace hs:=hs.toL (List.nil_append _)
            refine s_call hs fu123 (.cons (hs.ev rfl) (.cons (hs.ev rfl) (.cons (hs.ev rfl) (.cons (hs.ev rfl) (.cons (hs.ev rfl) .nil))))) (ref07_Text d ep (k + 1:Nat) (chunk ws k) (gRise d ep q l ws k) hcl hrl _) rfl fun ac ww v66 hf hp hs=>?_
            obtain ⟨L',hv,hh⟩:=hp
            subst hv
            replace hs:=hs _ hh
            obtain ⟨qad,qcap,rfl,_,_⟩:=Rd.sl (RdB.row (hs.get (i:=0) rfl))
            refine zA hs fun ac hs=>?_
            refine s_end ?_
            obtain ⟨body,hbody,hbl⟩:∃ body,stepX (gJ d ep) k qk (gRise d ep q l ws k) (chunk ws k)=71::body∧body.length≤100:=⟨_,by rw [stepX,if_pos (by omega)]; rfl,by simp [hrl,hcl]⟩
            have hst:stepX (gJ d ep) k qk (gRise d ep q l ws k) (chunk ws k)=aboveX d ep (k + 1:Nat) (chunk ws k) (gRise d ep q l ws k):=by rw [stepX,if_pos (by omega)]; rfl
            rw [← hst] at hs
            replace hs:=hs.pick (L':=[_,_,_,_]) (.cons_cons _ (.cons _ (.refl _)))
            refine then_n (wp_seq (wp_reg ?_))
            refine zM hs fun ac hs=>?_
            refine zM hs fun ac hs=>?_
            refine s_bslice hs un87 ty177 (.cons (hs.ev rfl) .nil) rfl (by simp [Value.cells]) (by decide) rfl rfl fun ac ww g69 hs=>?_
            refine s_appT (i:=2) (j:=1) hs un87 ty177 rfl rfl rfl rfl rfl (hs.seg (i:=0) rfl) rfl (by omega) rfl fun ac ww v70 hs=>?_
            refine zA hs fun ac hs=>?_
            refine s_end (then_n (wp_seq (wp_reg ?_)))
            refine zM hs fun ac hs=>?_
            refine s_call hs fu86 (.cons (hs.ev rfl) .nil) (ref06_Of 71 body _ (by omega) _ (hbody ▸ ((RdP.texts (hs.get (i:=2) rfl)).2 (_,stepX (gJ d ep) k qk (gRise d ep q l ws k) (chunk ws k)) (by simp)))) rfl fun ac ww v72 hf hp hs=>?_
            obtain rfl:=hp
            replace hs:=hs [] (.nil _ _)
            have hof:short 71 body=ofT (stepX (gJ d ep) k qk (gRise d ep q l ws k) (chunk ws k)):=by rw [hbody]; rfl
            rw [hof] at hs
            have hfin:gRise d ep q l ws (k + 1)=ofT (stepX (gJ d ep) k qk (gRise d ep q l ws k) (chunk ws k)):=by rw [gRise,riseN,hqk]
            refine s_storeW (i:=4) hs ty35 rfl rfl rfl (by simp) (all_map_B _) (by rw [List.length_map,hrl]) fun ww hs=>?_
            refine s_end (then_n (wp_reg ?_))
            refine zM hs fun ac hs=>?_
            refine s_q hs (c_quoI (hs.ev rfl) (hs.ev rfl) (by omega) (by omega) (by omega)) rfl fun ac hs=>?_
            refine zA hs fun ac hs=>?_
            refine s_end (blk_n (then_n (wp_reg ?_)))
            refine zM hs fun ac hs=>?_
            refine s_q hs (c_addI (hs.ev rfl) (hs.ev rfl) (by omega) (by omega)) rfl fun ac hs=>?_
            refine zA hs fun ac hs=>?_
            refine s_end (then_n ?_)
            replace hs:=hs.pick (L':=[_,_,_]) (.cons _ (.cons _ (.refl _)))
            exact ⟨m - (k + 1),by (try simp only); omega,(k + 1,_,ps++[(.slice qad (stepX (gJ d ep) k qk (gRise d ep q l ws k) (chunk ws k)).length qcap,stepX (gJ d ep) k qk (gRise d ep q l ws k) (chunk ws k))]),⟨by (try simp only); omega,rfl,by simp only [List.map_append]; rw [hps]; simp only [gRiseTs,riseTs,hqk]; rfl⟩,St.next hs ⟨(congrArg (fun z=>some (I z)) (by rw [half_pow,hqk]; omega)),rfl,rfl,rfl,rfl,rfl,rfl,rfl,rfl,rfl,trivial⟩ (by rw [hfin]; try rfl)⟩
          · try simp only [z1,z2,z3,z4,z5,z6,z7] at hc
            obtain ⟨body,hbody,hbl⟩:∃ body,stepX (gJ d ep) k qk (gRise d ep q l ws k) (chunk ws k)=71::body∧body.length≤100:=⟨_,by rw [stepX,if_neg (by omega)]; rfl,by simp [hrl,hcl]⟩
            have hst:stepX (gJ d ep) k qk (gRise d ep q l ws k) (chunk ws k)=aboveX d ep (k + 1:Nat) (gRise d ep q l ws k) (chunk ws k):=by rw [stepX,if_neg (by omega)]; rfl
            rw [← hst] at hs
            refine wp_skip (then_n (wp_seq (wp_reg ?_)))
            refine zM hs fun ac hs=>?_
            refine zM hs fun ac hs=>?_
            refine s_bslice hs un87 ty177 (.cons (hs.ev rfl) .nil) rfl (by simp [Value.cells]) (by decide) rfl rfl fun ac ww g69 hs=>?_
            refine s_appT (i:=2) (j:=1) hs un87 ty177 rfl rfl rfl rfl rfl (hs.seg (i:=0) rfl) rfl (by omega) rfl fun ac ww v70 hs=>?_
            refine zA hs fun ac hs=>?_
            refine s_end (then_n (wp_seq (wp_reg ?_)))
            refine zM hs fun ac hs=>?_
            refine s_call hs fu86 (.cons (hs.ev rfl) .nil) (ref06_Of 71 body _ (by omega) _ (hbody ▸ ((RdP.texts (hs.get (i:=2) rfl)).2 (_,stepX (gJ d ep) k qk (gRise d ep q l ws k) (chunk ws k)) (by simp)))) rfl fun ac ww v72 hf hp hs=>?_
            obtain rfl:=hp
            replace hs:=hs [] (.nil _ _)
            have hof:short 71 body=ofT (stepX (gJ d ep) k qk (gRise d ep q l ws k) (chunk ws k)):=by rw [hbody]; rfl
            rw [hof] at hs
            have hfin:gRise d ep q l ws (k + 1)=ofT (stepX (gJ d ep) k qk (gRise d ep q l ws k) (chunk ws k)):=by rw [gRise,riseN,hqk]
            refine s_storeW (i:=4) hs ty35 rfl rfl rfl (by simp) (all_map_B _) (by rw [List.length_map,hrl]) fun ww hs=>?_
            refine s_end (then_n (wp_reg ?_))
            refine zM hs fun ac hs=>?_
            refine s_q hs (c_quoI (hs.ev rfl) (hs.ev rfl) (by omega) (by omega) (by omega)) rfl fun ac hs=>?_
            refine zA hs fun ac hs=>?_
            refine s_end (blk_n (then_n (wp_reg ?_)))
            refine zM hs fun ac hs=>?_
            refine s_q hs (c_addI (hs.ev rfl) (hs.ev rfl) (by omega) (by omega)) rfl fun ac hs=>?_
            refine zA hs fun ac hs=>?_
            refine s_end (then_n ?_)
            replace hs:=hs.pick (L':=[_,_,_]) (.cons _ (.cons _ (.refl _)))
            exact ⟨m - (k + 1),by (try simp only); omega,(k + 1,_,ps++[(.slice qad (stepX (gJ d ep) k qk (gRise d ep q l ws k) (chunk ws k)).length qcap,stepX (gJ d ep) k qk (gRise d ep q l ws k) (chunk ws k))]),⟨by (try simp only); omega,rfl,by simp only [List.map_append]; rw [hps]; simp only [gRiseTs,riseTs,hqk]; rfl⟩,St.next hs ⟨(congrArg (fun z=>some (I z)) (by rw [half_pow,hqk]; omega)),rfl,rfl,rfl,rfl,rfl,rfl,rfl,rfl,rfl,trivial⟩ (by rw [hfin]; try rfl)⟩
        · try simp only [z1,z2,z3,z4,z5,z6,z7] at hc
          obtain rfl:m=k:=by omega
          refine wp_exit (then_e (then_e (blk_hit (then_n (wp_seq (wp_reg ?_))))))
          refine s_q hs (c_loadW ty35 rfl (hs.ev rfl) (hs.seg (i:=2) rfl) (by rw [List.length_map,hrl])) rfl fun ac hs=>?_
          refine zM hs fun ac hs=>?_
          refine s_storeW (i:=1) hs ty35 rfl rfl rfl (by rw [List.length_map,hrl]) (all_map_B _) rfl fun ww hs=>?_
          refine zA hs fun ac hs=>?_
          refine zA hs fun ac hs=>?_
          refine s_end ?_
          replace hs:=hs.sub (F':=[(10,_),(11,_),(12,_)]) ⟨rfl,rfl,rfl,trivial⟩
          refine then_n (wp_ret ?_)
          refine s_ret hs rfl (.cell (hs.tmp rfl) (run_loadA ty35 rfl (hs.seg (i:=1) rfl) (List.take_of_length_le (show (List.map B (gRise d ep q l ws m)).length≤16 by rw [List.length_map,hrl]; exact Nat.le_refl _)) (show (List.map B (gRise d ep q l ws m)).length=16 by rw [List.length_map,hrl])) (.tmp (hs.tmp rfl) (.tmp (hs.tmp rfl) .nil))) rfl ⟨_,rfl,hs.fr,?_⟩
          rw [foldB,foldE,foldX,if_pos hok1,if_pos hok1,if_pos hok1]
          exact ⟨_,⟨_,rfl,ps,hps,rfl⟩,(hs.pick (L':=[_]) (.cons_cons _ (List.nil_sublist _))).made⟩
end Go.Proofs.YtklajbdbnnceiaaGreat
end

section
/- Laws of keyed sums,walked: what holds. -/
namespace Go.Proofs.YtklajbdbnnceiaaGreat
open Go Go.Fw
open Sha
theorem or_zero_iff (a b:UInt8):a ||| b=0 ↔ a=0∧b=0:=by
  constructor
  · intro h
    have h1:=congrArg UInt8.toNat h
    rw [UInt8.toNat_or] at h1
    have h2:a.toNat ||| b.toNat=0:=h1
    have h3:=Nat.or_eq_zero_iff.1 h2
    exact ⟨UInt8.toNat_inj.1 (by simpa using h3.1),UInt8.toNat_inj.1 (by simpa using h3.2)⟩
  · rintro ⟨rfl,rfl⟩; rfl
theorem diff_step (a b:List UInt8) (k:Nat) (ha:k < a.length) (hb:k < b.length) (x:UInt8) (h:x=0 ↔ a.take k=b.take k) :
    (x ||| (a.getD k 0 ^^^ b.getD k 0))=0 ↔ a.take (k + 1)=b.take (k + 1):=by
  have e1:a.getD k 0=a[k]:=by simp [List.getD,ha]
  have e2:b.getD k 0=b[k]:=by simp [List.getD,hb]
  rw [or_zero_iff,h,UInt8.xor_eq_zero_iff,e1,e2,List.take_succ_eq_append_getElem ha,List.take_succ_eq_append_getElem hb]
  constructor
  · rintro ⟨h1,h2⟩; rw [h1,h2]
  · intro h1
    have h2:=List.append_inj h1 (by simp; omega)
    exact ⟨h2.1,by simpa using h2.2⟩
theorem mac_Equal (a b:List UInt8) (av bv:Value) (w:World) (hqa:RdB w av a) (hqb:RdB w bv b):Ctr Tryz.prog 124 [av,bv] w (fun _=>False) (fun v _=>v=.bool (decide (a=b))):=by
  have hal:=hqa.le
  have hbl:=hqb.le
  obtain ⟨aad,acap,rfl,hac,ham⟩:=Rd.sl hqa
  obtain ⟨bad,bcap,rfl,hbc,hbm⟩:=Rd.sl hqb
  refine fn_start (N:=31) Tryz.func124 rfl rfl rfl fun ac hk=>?_
  have hs:=St.start hk w
  refine wp_seq (wp_reg ?_)
  refine zA hs fun ac hs=>?_
  refine s_end (then_n (wp_seq (wp_seq (wp_reg ?_))))
  refine zM hs fun ac hs=>?_
  refine s_q hs (c_lenS un177 (hs.ev rfl)) rfl fun ac hs=>?_
  refine zM hs fun ac hs=>?_
  refine s_q hs (c_lenS un177 (hs.ev rfl)) rfl fun ac hs=>?_
  refine s_q hs (c_neqI (hs.ev rfl) (hs.ev rfl)) rfl fun ac hs=>?_
  refine s_end ?_
  replace hs:=hs.sub (F':=[(0,_),(1,_),(4,_),(11,_)]) ⟨rfl,rfl,rfl,rfl,trivial⟩
  refine then_n ?_
  refine s_cond hs rfl (fun hc=>?_) (fun hc=>?_)
  · try simp only [z1,z2,z3,z4,z5,z6,z7] at hc
    have hne:a ≠ b:=fun e=>by subst e; simp at hc
    refine wp_seq (wp_reg ?_)
    refine zA hs fun ac hs=>?_
    refine s_end ?_
    replace hs:=hs.sub (F':=[(0,_),(1,_),(4,_)]) ⟨rfl,rfl,rfl,trivial⟩
    refine then_n (wp_ret (then_r ?_))
    refine s_ret hs rfl (.tmp (hs.tmp rfl) .nil) rfl ⟨_,rfl,hs.fr,?_⟩
    show Value.bool false=_
    rw [decide_eq_false hne]
  · try simp only [z1,z2,z3,z4,z5,z6,z7] at hc
    have hlen:a.length=b.length:=Int.ofNat_inj.1 (by simpa using hc)
    refine wp_skip (then_n (wp_seq (wp_reg ?_)))
    refine s_q hs (c_assign (St.ev (v:=B 0) hs rfl)) rfl fun ac hs=>?_
    refine s_end ?_
    replace hs:=hs.sub (F':=[(0,_),(1,_),(4,_),(5,_)]) ⟨rfl,rfl,rfl,rfl,trivial⟩
    refine then_n (wp_seq (wp_seq (wp_reg ?_)))
    refine zM hs fun ac hs=>?_
    refine s_q hs (c_lenS un177 (hs.ev rfl)) rfl fun ac hs=>?_
    refine zM hs fun ac hs=>?_
    refine s_end ?_
    replace hs:=hs.sub (F':=[(0,_),(1,_),(4,_),(5,_),(13,_),(14,_)]) ⟨rfl,rfl,rfl,rfl,rfl,rfl,trivial⟩
    refine then_n (wp_block ?_)
    refine s_loop hs (X:=Nat × UInt8) (fun x=>[(5,B x.2),(14,I x.1)]) [(0,_),(1,_),(4,_),(13,_)] (fun _=>[]) (fun n x=>x.1≤a.length∧n=a.length - x.1∧(x.2=0 ↔ a.take x.1=b.take x.1)) (a.length) ((0,0)) (⟨Nat.zero_le _,rfl,by simp⟩) ⟨rfl,rfl,rfl,rfl,rfl,rfl,trivial⟩ rfl ?_
    rintro n ⟨k,x⟩ ac ww hok hs
    simp only [List.cons_append,List.nil_append] at hs
    obtain ⟨hk,rfl,hx⟩:=hok
    simp only at hk hx hs
    refine wp_seq (wp_reg ?_)
    refine s_q hs (c_lssI (hs.ev rfl) (hs.ev rfl)) rfl fun ac hs=>?_
    refine s_end (then_n (wp_seq ?_))
    refine s_cond hs rfl (fun hc=>?_) (fun hc=>?_)
    · try simp only [z1,z2,z3,z4,z5,z6,z7] at hc
      obtain ⟨pb,po,pT,pf,pall,rfl,hpb,hps⟩:=hqa.at' (by omega)
      obtain ⟨rb,ro,rT,rf,rall,rfl,hrb,hrs⟩:=hqb.at' (by omega)
      refine wp_skip (then_n (wp_seq (wp_block (wp_seq (wp_reg ?_)))))
      refine zM hs fun ac hs=>?_
      refine zA hs fun ac hs=>?_
      refine s_end (then_n ?_)
      refine wp_region_rg pmix 12 (by kernel_rfl) rfl hs ?_
      simp only [List.take_succ_cons,List.take_zero]
      refine rg_q (fun ac ww h=>c_move (h.ev rfl)) rfl ?_
      refine rg_q (fun ac ww h=>c_move (h.ev rfl)) rfl ?_
      refine rg_q (fun ac ww h=>c_move (h.ev rfl)) rfl ?_
      refine rg_q (fun ac ww h=>c_idxS (j:=k) un177 ty5 (h.ev rfl) (h.ev rfl) (by omega) (by omega)) rfl ?_
      refine rg_q (fun ac ww h=>c_loadS un5 rfl (h.ev rfl) (h.blk (hs.old hpb id)) (seg_get 0 hps (by omega))) rfl ?_
      refine rg_q (fun ac ww h=>c_move (h.ev rfl)) rfl ?_
      refine rg_q (fun ac ww h=>c_move (h.ev rfl)) rfl ?_
      refine rg_q (fun ac ww h=>c_idxS (j:=k) un177 ty5 (h.ev rfl) (h.ev rfl) (by omega) (by omega)) rfl ?_
      refine rg_q (fun ac ww h=>c_loadS un5 rfl (h.ev rfl) (h.blk (hs.old hrb id)) (seg_get 0 hrs (by omega))) rfl ?_
      refine rg_q (fun ac ww h=>c_xorB (h.ev rfl) (h.ev rfl)) rfl ?_
      refine rg_q (fun ac ww h=>c_orB (h.ev rfl) (h.ev rfl)) rfl ?_
      refine rg_q (fun ac ww h=>c_assign (h.ev rfl)) rfl ?_
      refine rg_nil fun ac ww L' hf hfe hs=>?_
      simp only [List.drop_succ_cons,List.drop_zero]
      obtain rfl:L'=[]:=hfe
      replace hs:=hs.toL (List.nil_append _)
      refine s_end (blk_n (then_n (wp_reg ?_)))
      refine s_q hs (c_addI (hs.ev rfl) (hs.ev rfl) (by omega) (by omega)) rfl fun ac hs=>?_
      refine zM hs fun ac hs=>?_
      refine s_end (then_n ?_)
      exact ⟨a.length - (k + 1),by (try simp only); omega,(k + 1,_),⟨by (try simp only); omega,rfl,diff_step a b k (by omega) (by omega) x hx⟩,St.next hs ⟨rfl,rfl,rfl,rfl,rfl,rfl,trivial⟩ rfl⟩
    · try simp only [z1,z2,z3,z4,z5,z6,z7] at hc
      obtain rfl:k=a.length:=by omega
      rw [List.take_length,hlen,List.take_length] at hx
      refine wp_exit (then_e (then_e (blk_hit (then_n (wp_seq (wp_reg ?_))))))
      refine zM hs fun ac hs=>?_
      refine s_q hs (c_eqlB (hs.ev rfl) (St.ev (v:=B 0) hs rfl)) rfl fun ac hs=>?_
      refine zA hs fun ac hs=>?_
      refine s_end ?_
      replace hs:=hs.sub (F':=[(4,_)]) ⟨rfl,trivial⟩
      refine then_n (wp_ret ?_)
      refine s_ret hs rfl (.tmp (hs.tmp rfl) .nil) rfl ⟨_,rfl,hs.fr,?_⟩
      show Value.bool _=Value.bool _
      refine congrArg Value.bool ?_
      by_cases e:a=b
      · rw [hx.2 e]; simp [e]
      · have:=fun h=>e (hx.1 h)
        simp [e]
        exact this
end Go.Proofs.YtklajbdbnnceiaaGreat
end

section
/- Laws of keyed sums,walked: picking. -/
namespace Go.Proofs.YtklajbdbnnceiaaGreat
open Go Go.Fw
open Sha
theorem mac_Same (a b:List UInt8) (ha:a.length=16) (hb:b.length=16) (w:World) :Ctr Tryz.prog 93 [.agg (a.map B).toArray,.agg (b.map B).toArray] w (fun _=>False) (fun v _=>v=.bool (decide (a=b))):=by
  refine fn_start (N:=8) Tryz.func93 rfl rfl rfl fun ac hk=>?_
  have hs:=St.start hk w
  refine wp_seq (wp_reg ?_)
  refine s_box hs rfl rfl rfl fun ac ww g2 hs=>?_
  refine s_box hs rfl rfl rfl fun ac ww g3 hs=>?_
  refine zA hs fun ac hs=>?_
  refine s_end ?_
  replace hs:=hs.sub (F':=[(2,_),(3,_),(4,_)]) ⟨rfl,rfl,rfl,trivial⟩
  refine then_n (wp_seq ?_)
  refine wp_region_rg pmix 2 (by kernel_rfl) rfl hs ?_
  simp only [List.take_succ_cons,List.take_zero]
  refine rg_q (fun ac ww h=>c_sliceA un36 ty5 (h.ev rfl)) rfl ?_
  refine rg_q (fun ac ww h=>c_sliceA un36 ty5 (h.ev rfl)) rfl ?_
  refine rg_nil fun ac ww L' hf hfe hs=>?_
  simp only [List.drop_succ_cons,List.drop_zero]
  obtain rfl:L'=[]:=hfe
  replace hs:=hs.toL (List.nil_append _)
  refine s_call hs fu124 (.cons (hs.ev rfl) (.cons (hs.ev rfl) .nil)) (mac_Equal a b _ _ _ (RdB.segn (hs.seg (i:=1) rfl) ha (by decide)) (RdB.segn (hs.seg (i:=0) rfl) hb (by decide))) rfl fun ac ww v7 hf hp hs=>?_
  obtain rfl:=hp
  replace hs:=hs [] (.nil _ _)
  refine zA hs fun ac hs=>?_
  refine s_end ?_
  replace hs:=hs.sub (F':=[(4,_)]) ⟨rfl,trivial⟩
  refine then_n (wp_ret ?_)
  refine s_ret hs rfl (.tmp (hs.tmp rfl) .nil) rfl ⟨_,rfl,hs.fr,?_⟩
  rfl
end Go.Proofs.YtklajbdbnnceiaaGreat
end

section
/- Folds of groves. -/
namespace Go.Proofs.YtklajbdbnnceiaaGreat
open Go Go.Fw
open Sha
theorem grove_Fold (d:Int) (ep:UInt32) (i:Int) (m:Nat) (l ws:List UInt8) (wv:Value) (hll:l.length=16) (hwl:ws.length=m * 16) (w:World) (hqw:Rd w wv m (ws.map B)):Ctr Tryz.prog 119 [I d,U ep,I i,.agg (l.map B).toArray,wv] w (fun _=>False) (fun v _=>v=.tuple #[.agg ((foldB d ep i l ws m).map B).toArray,I (foldE i m)]):=by
  have hml:=hqw.le
  obtain ⟨wad,wcap,rfl,hwc,hwm⟩:=Rd.sl hqw
  refine fn_start (N:=56) Tryz.func119 rfl rfl rfl fun ac hk=>?_
  have hs:=St.start hk w
  refine wp_seq (wp_reg ?_)
  refine s_box hs rfl rfl rfl fun ac ww g8 hs=>?_
  refine s_alloc hs ty36 rfl fun ac ww g10 hs=>?_
  refine zA hs fun ac hs=>?_
  refine s_end ?_
  replace hs:=hs.sub (F':=[(0,_),(1,_),(2,_),(4,_),(8,_),(10,_),(11,_)]) ⟨rfl,rfl,rfl,rfl,rfl,rfl,rfl,trivial⟩
  refine then_n (wp_seq (wp_seq (wp_reg ?_)))
  refine zM hs fun ac hs=>?_
  refine s_q hs (c_lssI (hs.ev rfl) (hs.ev rfl)) rfl fun ac hs=>?_
  refine zM hs fun ac hs=>?_
  refine s_g hs rfl rfl (fun hg=>c_move (hs.ev rfl)) rfl fun ac hs=>?_
  refine s_g hs rfl rfl (fun hg=>c_lenS un39 (gev (hs.ev rfl) hg)) rfl fun ac hs=>?_
  refine s_g hs rfl rfl (fun hg=>c_gtrI (gev (hs.ev rfl) hg) (hs.ev rfl)) rfl fun ac hs=>?_
  refine s_q hs (c_or (hs.ev rfl) (hs.ev rfl)) rfl fun ac hs=>?_
  refine zM hs fun ac hs=>?_
  refine s_g hs rfl rfl (fun hg=>c_move (hs.ev rfl)) rfl fun ac hs=>?_
  refine s_g hs rfl rfl (fun hg=>c_move (hs.ev rfl)) rfl fun ac hs=>?_
  refine s_g hs rfl rfl (fun hg=>c_lenS un39 (gev (hs.ev rfl) hg)) rfl fun ac hs=>?_
  refine s_g hs rfl rfl (fun hg=>c_shlI (hs.ev rfl) (gev (hs.ev rfl) hg) (by have h7:m≤6:=(by simp at hg; omega); omega) (by have h7:m≤6:=(by simp at hg; omega); have:=pow_pos m; rw [Int.one_mul]; omega) (by have h7:m≤6:=(by simp at hg; omega); have:=pow_le64 m (by omega); rw [Int.one_mul]; omega)) rfl fun ac hs=>?_
  refine s_g hs rfl rfl (fun hg=>c_geqI (gev (hs.ev rfl) hg) (gev (hs.ev rfl) hg)) rfl fun ac hs=>?_
  refine s_q hs (c_or (hs.ev rfl) (hs.ev rfl)) rfl fun ac hs=>?_
  refine s_end ?_
  replace hs:=hs.sub (F':=[(0,_),(1,_),(2,_),(4,_),(8,_),(10,_),(11,_),(29,_)]) ⟨rfl,rfl,rfl,rfl,rfl,rfl,rfl,rfl,trivial⟩
  refine then_n ?_
  refine s_cond hs rfl (fun hc=>?_) (fun hc=>?_)
  · try simp only [z1,z2,z3,z4,z5,z6,z7] at hc
    have hno:¬ foldOk i m=true:=fold_bad (by omega)
    refine wp_seq (wp_reg ?_)
    refine s_q hs (c_buildA ty36 un36 ty5 (zc:=(List.replicate 16 (0:UInt8)).map B) (vs:=[]) .nil (by simp) (by simp [flatCells]) rfl) rfl fun ac hs=>?_
    refine s_storeW (i:=0) hs ty36 rfl rfl rfl (by simp) (all_map_B _) rfl fun ww hs=>?_
    refine zA hs fun ac hs=>?_
    refine s_end ?_
    replace hs:=hs.sub (F':=[(0,_),(1,_),(2,_),(4,_),(8,_),(10,_),(11,_)]) ⟨rfl,rfl,rfl,rfl,rfl,rfl,rfl,trivial⟩
    refine then_n (wp_ret (then_r ?_))
    refine s_ret hs rfl (.cell (hs.tmp rfl) (run_loadA ty36 rfl (hs.seg (i:=0) rfl) (List.take_of_length_le (by simp)) (by simp)) (.tmp (hs.tmp rfl) .nil)) rfl ⟨_,rfl,hs.fr,?_⟩
    show Value.tuple _=Value.tuple _
    rw [foldB,foldE,if_neg hno,if_neg hno]
    rfl
  · try simp only [z1,z2,z3,z4,z5,z6,z7] at hc
    have hok1:foldOk i m=true:=fold_good (by omega) (by omega) (by omega)
    obtain ⟨q,rfl⟩:∃ q:Nat,i=q:=⟨i.toNat,by omega⟩
    have hm6:m≤6:=by omega
    have hp64:=pow_le64 m (by omega)
    have hq64:q < 64:=by omega
    refine wp_skip (then_n (wp_seq (wp_seq (wp_reg ?_))))
    refine zM hs fun ac hs=>?_
    refine s_q hs (c_lenS un39 (hs.ev rfl)) rfl fun ac hs=>?_
    refine zM hs fun ac hs=>?_
    refine s_end ?_
    replace hs:=hs.sub (F':=[(0,_),(1,_),(2,_),(8,_),(10,_),(11,_),(31,_),(32,_),(33,_)]) ⟨rfl,rfl,rfl,rfl,rfl,rfl,rfl,rfl,rfl,trivial⟩
    refine then_n (wp_block ?_)
    refine s_loop hs (X:=Nat) (fun k=>[(2,I (q / 2 ^ k:Nat)),(33,I k)]) [(0,_),(1,_),(8,_),(10,_),(11,_),(31,_),(32,_)] (fun k=>[_,.seg g8 ((gRise d ep q l ws k).map B) 36]) (fun j k=>k≤m∧j=m - k) (_) (0) (⟨Nat.zero_le _,rfl⟩) ⟨(congrArg (fun z:Nat=>some (I z)) (by simp)),rfl,rfl,rfl,rfl,rfl,rfl,rfl,rfl,trivial⟩ rfl ?_
    rintro n k ac ww hok hs
    simp only [List.cons_append,List.nil_append] at hs
    obtain ⟨hk,rfl⟩:=hok
    have hrl:=gRise_length (d:=d) (ep:=ep) (q:=q) (ws:=ws) hll k
    obtain ⟨qk,hqk⟩:∃ qk:Nat,q / 2 ^ k=qk:=⟨_,rfl⟩
    have hqle:qk≤q:=hqk ▸ Nat.div_le_self _ _
    rw [hqk] at hs
    refine wp_seq (wp_reg ?_)
    refine s_q hs (c_lssI (hs.ev rfl) (hs.ev rfl)) rfl fun ac hs=>?_
    refine s_end (then_n (wp_seq ?_))
    refine s_cond hs rfl (fun hc=>?_) (fun hc=>?_)
    · try simp only [z1,z2,z3,z4,z5,z6,z7] at hc
      have hkn:k < m:=by omega
      have hcl:=chunk_l hwl hkn
      obtain ⟨pb,po,pT,pf,pall,rfl,hpb,hps⟩:=Rd.bytes_at hqw hwl (by omega)
      refine wp_skip (then_n (wp_seq (wp_block (wp_seq (wp_reg ?_)))))
      refine zM hs fun ac hs=>?_
      refine s_q hs (c_idxS (j:=k) un39 ty36 (hs.ev rfl) (hs.ev rfl) (by omega) (by omega)) rfl fun ac hs=>?_
      refine s_q hs (c_loadA ty36 rfl (hs.ev rfl) (hs.old hpb id) (rdpiece hps hwl hkn) (by rw [List.length_map,hcl])) rfl fun ac hs=>?_
      refine s_alloc hs ty36 rfl fun ac ww g13 hs=>?_
      refine zA hs fun ac hs=>?_
      refine s_storeW (i:=0) hs ty36 rfl rfl rfl (by rw [List.length_map,hcl]) (all_map_B _) rfl fun ww hs=>?_
      refine s_end (then_n (wp_seq ?_))
      refine wp_region_rgX (J:=[1]) pmix 4 (by kernel_rfl) (by kernel_rfl) rfl rfl hs ?_
      simp only [List.take_succ_cons,List.take_zero]
      refine rg_q (fun ac ww h=>c_loadW ty36 rfl (h.ev rfl) (h.blk (hs.seg (i:=2) rfl)) (by rw [List.length_map,hrl])) rfl ?_
      refine rg_q (fun ac ww h=>c_loadW ty36 rfl (h.ev rfl) (h.blk (hs.seg (i:=0) rfl)) (by rw [List.length_map,hcl])) rfl ?_
      refine rg_alloc ty36 rfl ?_
      refine rg_alloc ty36 rfl ?_
      refine rg_nil fun ac ww L' hf hfe hs hlk=>?_
      simp only [List.drop_succ_cons,List.drop_zero]
      obtain ⟨v15,L15,M15,h15,e15,⟨v14,L14,M14,h14,e14,rfl,rfl⟩,rfl⟩:=hfe
      replace hs:=hs.add h15
      replace hs:=hs.add h14
      obtain ⟨g15,rfl,rfl⟩:=e15
      obtain ⟨g14,rfl,rfl⟩:=e14
      refine sk_storeW (i:=1) hs ty36 rfl rfl rfl (by rw [List.length_map,hrl]) (all_map_B _) rfl (fun ww hs=>late_read rfl rfl (hs.know.at_ 39 _ rfl) (c_loadW ty36 rfl (hs.ev rfl) (hs.seg (i:=2) rfl) (by rw [List.length_map,hcl])) (late_nil)) fun ww hs=>?_
      refine s_storeW (i:=0) hs ty36 rfl rfl rfl (by rw [List.length_map,hcl]) (all_map_B _) rfl fun ww hs=>?_
      refine s_end (then_n (wp_seq (wp_seq (wp_reg ?_))))
      refine zM hs fun ac hs=>?_
      refine s_q hs (c_remI (hs.ev rfl) (hs.ev rfl) (by omega) (by omega)) rfl fun ac hs=>?_
      refine s_q hs (c_eqlI (hs.ev rfl) (hs.ev rfl)) rfl fun ac hs=>?_
      refine s_end (then_n ?_)
      refine s_cond hs rfl (fun hc=>?_) (fun hc=>?_)
      · try simp only [z1,z2,z3,z4,z5,z6,z7] at hc
        have hstep:gRise d ep q l ws (k + 1)=ofT (aboveX d ep (k + 1:Nat) (chunk ws k) (gRise d ep q l ws k)):=by rw [gRise,riseN,stepX,hqk,if_pos (by omega)]; rfl
        refine wp_region_rgX (J:=[1]) pmix 2 (by kernel_rfl) (by kernel_rfl) rfl rfl hs ?_
        simp only [List.take_succ_cons,List.take_zero]
        refine rg_q (fun ac ww h=>c_loadW ty36 rfl (h.ev rfl) (h.blk (hs.seg (i:=2) rfl)) (by rw [List.length_map,hcl])) rfl ?_
        refine rg_q (fun ac ww h=>c_loadW ty36 rfl (h.ev rfl) (h.blk (hs.seg (i:=4) rfl)) (by rw [List.length_map,hrl])) rfl ?_
        refine rg_nil fun ac ww L' hf hfe hs hlk=>?_
        simp only [List.drop_succ_cons,List.drop_zero]
        obtain rfl:L'=[]:=hfe
        replace hs:=hs.toL (List.nil_append _)
        refine sk_storeW (i:=1) hs ty36 rfl rfl rfl (by rw [List.length_map,hcl]) (all_map_B _) (by rw [List.length_map,hrl]) (fun ww hs=>late_read rfl rfl (hs.know.at_ 44 _ rfl) (c_loadW ty36 rfl (hs.ev rfl) (hs.seg (i:=4) rfl) (by rw [List.length_map,hrl])) (late_nil)) fun ww hs=>?_
        refine s_storeW (i:=0) hs ty36 rfl rfl rfl (by rw [List.length_map,hrl]) (all_map_B _) (by rw [List.length_map,hcl]) fun ww hs=>?_
        refine s_end (then_n (wp_seq (wp_reg ?_)))
        refine zM hs fun ac hs=>?_
        refine zM hs fun ac hs=>?_
        refine zM hs fun ac hs=>?_
        refine s_q hs (c_to (c_addI (hs.ev rfl) (hs.ev rfl) (by omega) (by omega)) ((congrArg I (show ((k:Int) + 1=((k + 1:Nat):Int)) by omega)))) rfl fun ac hs=>?_
        refine s_q hs (c_loadW ty36 rfl (hs.ev rfl) (hs.seg (i:=1) rfl) (by rw [List.length_map,hcl])) rfl fun ac hs=>?_
        refine s_q hs (c_loadW ty36 rfl (hs.ev rfl) (hs.seg (i:=0) rfl) (by rw [List.length_map,hrl])) rfl fun ac hs=>?_
        refine s_call hs fu135 (.cons (hs.ev rfl) (.cons (hs.ev rfl) (.cons (hs.ev rfl) (.cons (hs.ev rfl) (.cons (hs.ev rfl) .nil))))) (grove_Above d ep (k + 1:Nat) (chunk ws k) (gRise d ep q l ws k) hcl hrl _) rfl fun ac ww v51 hf hp hs=>?_
        obtain rfl:=hp
        replace hs:=hs [] (.nil _ _)
        refine s_storeW (i:=4) hs ty36 rfl rfl rfl (by simp) (all_map_B _) (by rw [List.length_map,hrl]) fun ww hs=>?_
        refine s_end (then_n (wp_reg ?_))
        refine zM hs fun ac hs=>?_
        refine s_q hs (c_quoI (hs.ev rfl) (hs.ev rfl) (by omega) (by omega) (by omega)) rfl fun ac hs=>?_
        refine zA hs fun ac hs=>?_
        refine s_end (blk_n (then_n (wp_reg ?_)))
        refine s_q hs (c_addI (hs.ev rfl) (hs.ev rfl) (by omega) (by omega)) rfl fun ac hs=>?_
        refine zM hs fun ac hs=>?_
        refine s_end (then_n ?_)
        replace hs:=hs.pick (L':=[_,_]) (.cons _ (.cons _ (.cons _ (.refl _))))
        exact ⟨m - (k + 1),by omega,k + 1,⟨by omega,rfl⟩,St.next hs ⟨(congrArg (fun z=>some (I z)) (by rw [half_pow,hqk]; omega)),rfl,rfl,rfl,rfl,rfl,rfl,rfl,rfl,trivial⟩ (by rw [hstep]; try rfl)⟩
      · try simp only [z1,z2,z3,z4,z5,z6,z7] at hc
        have hstep:gRise d ep q l ws (k + 1)=ofT (aboveX d ep (k + 1:Nat) (gRise d ep q l ws k) (chunk ws k)):=by rw [gRise,riseN,stepX,hqk,if_neg (by omega)]; rfl
        refine wp_skip (then_n (wp_seq (wp_reg ?_)))
        refine zM hs fun ac hs=>?_
        refine zM hs fun ac hs=>?_
        refine zM hs fun ac hs=>?_
        refine s_q hs (c_to (c_addI (hs.ev rfl) (hs.ev rfl) (by omega) (by omega)) ((congrArg I (show ((k:Int) + 1=((k + 1:Nat):Int)) by omega)))) rfl fun ac hs=>?_
        refine s_q hs (c_loadW ty36 rfl (hs.ev rfl) (hs.seg (i:=1) rfl) (by rw [List.length_map,hrl])) rfl fun ac hs=>?_
        refine s_q hs (c_loadW ty36 rfl (hs.ev rfl) (hs.seg (i:=0) rfl) (by rw [List.length_map,hcl])) rfl fun ac hs=>?_
        refine s_call hs fu135 (.cons (hs.ev rfl) (.cons (hs.ev rfl) (.cons (hs.ev rfl) (.cons (hs.ev rfl) (.cons (hs.ev rfl) .nil))))) (grove_Above d ep (k + 1:Nat) (gRise d ep q l ws k) (chunk ws k) hrl hcl _) rfl fun ac ww v51 hf hp hs=>?_
        obtain rfl:=hp
        replace hs:=hs [] (.nil _ _)
        refine s_storeW (i:=4) hs ty36 rfl rfl rfl (by simp) (all_map_B _) (by rw [List.length_map,hrl]) fun ww hs=>?_
        refine s_end (then_n (wp_reg ?_))
        refine zM hs fun ac hs=>?_
        refine s_q hs (c_quoI (hs.ev rfl) (hs.ev rfl) (by omega) (by omega) (by omega)) rfl fun ac hs=>?_
        refine zA hs fun ac hs=>?_
        refine s_end (blk_n (then_n (wp_reg ?_)))
        refine s_q hs (c_addI (hs.ev rfl) (hs.ev rfl) (by omega) (by omega)) rfl fun ac hs=>?_
        refine zM hs fun ac hs=>?_
        refine s_end (then_n ?_)
        replace hs:=hs.pick (L':=[_,_]) (.cons _ (.cons _ (.cons _ (.refl _))))
        exact ⟨m - (k + 1),by omega,k + 1,⟨by omega,rfl⟩,St.next hs ⟨(congrArg (fun z=>some (I z)) (by rw [half_pow,hqk]; omega)),rfl,rfl,rfl,rfl,rfl,rfl,rfl,rfl,trivial⟩ (by rw [hstep]; try rfl)⟩
    · try simp only [z1,z2,z3,z4,z5,z6,z7] at hc
      obtain rfl:m=k:=by omega
      refine wp_exit (then_e (then_e (blk_hit (then_n (wp_seq (wp_reg ?_))))))
      refine s_q hs (c_loadW ty36 rfl (hs.ev rfl) (hs.seg (i:=1) rfl) (by rw [List.length_map,hrl])) rfl fun ac hs=>?_
      refine s_storeW (i:=0) hs ty36 rfl rfl rfl (by rw [List.length_map,hrl]) (all_map_B _) rfl fun ww hs=>?_
      refine zA hs fun ac hs=>?_
      refine s_end ?_
      replace hs:=hs.sub (F':=[(10,_),(11,_)]) ⟨rfl,rfl,trivial⟩
      refine then_n (wp_ret ?_)
      refine s_ret hs rfl (.cell (hs.tmp rfl) (run_loadA ty36 rfl (hs.seg (i:=0) rfl) (List.take_of_length_le (show (List.map B (gRise d ep q l ws m)).length≤16 by rw [List.length_map,hrl]; exact Nat.le_refl _)) (show (List.map B (gRise d ep q l ws m)).length=16 by rw [List.length_map,hrl])) (.tmp (hs.tmp rfl) .nil)) rfl ⟨_,rfl,hs.fr,?_⟩
      show Value.tuple _=Value.tuple _
      rw [foldB,foldE,if_pos hok1,if_pos hok1]
      rfl
theorem grove_Check (hh:Int) (rt:List UInt8) (hrt:rt.length=16) (d:Int) (ep:UInt32) (i:Int) (m:Nat) (l ws:List UInt8) (wv:Value) (hll:l.length=16) (hwl:ws.length=m * 16) (w:World) (hqw:Rd w wv m (ws.map B)):Ctr Tryz.prog 85 [I d,U ep,I hh,.agg (rt.map B).toArray,I i,.agg (l.map B).toArray,wv] w (fun _=>False) (fun v _=>v=.bool (chkB d ep hh rt i l ws m)):=by
  have hml:=hqw.le
  obtain ⟨wad,wcap,rfl,hwc,hwm⟩:=Rd.sl hqw
  refine fn_start (N:=37) Tryz.func85 rfl rfl rfl fun ac hk=>?_
  have hs:=St.start hk w
  refine wp_seq (wp_reg ?_)
  refine s_box hs rfl rfl rfl fun ac ww g10 hs=>?_
  refine s_box hs rfl rfl rfl fun ac ww g12 hs=>?_
  refine zA hs fun ac hs=>?_
  refine s_end ?_
  replace hs:=hs.sub (F':=[(0,_),(1,_),(2,_),(4,_),(6,_),(10,_),(12,_),(14,_)]) ⟨rfl,rfl,rfl,rfl,rfl,rfl,rfl,rfl,trivial⟩
  refine then_n (wp_seq (wp_seq (wp_reg ?_)))
  refine zM hs fun ac hs=>?_
  refine s_q hs (c_lenS un39 (hs.ev rfl)) rfl fun ac hs=>?_
  refine zM hs fun ac hs=>?_
  refine s_q hs (c_neqI (hs.ev rfl) (hs.ev rfl)) rfl fun ac hs=>?_
  refine s_end ?_
  replace hs:=hs.sub (F':=[(0,_),(1,_),(4,_),(6,_),(10,_),(12,_),(14,_),(20,_)]) ⟨rfl,rfl,rfl,rfl,rfl,rfl,rfl,rfl,trivial⟩
  refine then_n ?_
  refine s_cond hs rfl (fun hc=>?_) (fun hc=>?_)
  · try simp only [z1,z2,z3,z4,z5,z6,z7] at hc
    have hne:¬ ((m:Int)=hh):=hc
    refine wp_seq (wp_reg ?_)
    refine zA hs fun ac hs=>?_
    refine s_end ?_
    replace hs:=hs.sub (F':=[(0,_),(1,_),(4,_),(6,_),(10,_),(12,_),(14,_)]) ⟨rfl,rfl,rfl,rfl,rfl,rfl,rfl,trivial⟩
    refine then_n (wp_ret (then_r ?_))
    refine s_ret hs rfl (.tmp (hs.tmp rfl) .nil) rfl ⟨_,rfl,hs.fr,?_⟩
    show Value.bool _=Value.bool _
    rw [chkB,decide_eq_false hne]; rfl
  · try simp only [z1,z2,z3,z4,z5,z6,z7] at hc
    have heq:(m:Int)=hh:=by omega
    refine wp_skip (then_n (wp_seq (wp_reg ?_)))
    refine zM hs fun ac hs=>?_
    refine zM hs fun ac hs=>?_
    refine zM hs fun ac hs=>?_
    refine s_q hs (c_loadW ty36 rfl (hs.ev rfl) (hs.seg (i:=0) rfl) (by rw [List.length_map,hll])) rfl fun ac hs=>?_
    refine zM hs fun ac hs=>?_
    refine s_call hs fu119 (.cons (hs.ev rfl) (.cons (hs.ev rfl) (.cons (hs.ev rfl) (.cons (hs.ev rfl) (.cons (hs.ev rfl) .nil))))) (grove_Fold d ep i m l ws _ hll hwl _ (hqw.fr0 hs.fr)) rfl fun ac ww v27 hf hp hs=>?_
    obtain rfl:=hp
    replace hs:=hs [] (.nil _ _)
    refine zM hs fun ac hs=>?_
    refine s_q hs (c_extract (hs.ev rfl) rfl) rfl fun ac hs=>?_
    refine s_q hs (c_extract (hs.ev rfl) rfl) rfl fun ac hs=>?_
    refine s_alloc hs ty36 rfl fun ac ww g15 hs=>?_
    refine s_storeW (i:=0) hs ty36 rfl rfl rfl (by rw [List.length_map,(foldB_length hll)]) (all_map_B _) rfl fun ww hs=>?_
    refine zA hs fun ac hs=>?_
    refine s_end ?_
    replace hs:=hs.sub (F':=[(10,_),(14,_),(15,_),(16,_)]) ⟨rfl,rfl,rfl,rfl,trivial⟩
    refine then_n (wp_seq (wp_reg ?_))
    refine zM hs fun ac hs=>?_
    refine s_q hs (c_eqlI (hs.ev rfl) (hs.ev rfl)) rfl fun ac hs=>?_
    refine zM hs fun ac hs=>?_
    refine s_g hs rfl rfl (fun hg=>c_loadW ty36 rfl (hs.ev rfl) (hs.seg (i:=0) rfl) (by rw [List.length_map,(foldB_length hll)])) rfl fun ac hs=>?_
    refine s_g hs rfl rfl (fun hg=>c_loadW ty36 rfl (hs.ev rfl) (hs.seg (i:=2) rfl) (by rw [List.length_map,hrt])) rfl fun ac hs=>?_
    refine s_gcall hs rfl rfl fu93 (fun hg=>(.cons (gev (hs.ev rfl) hg) (.cons (gev (hs.ev rfl) hg) .nil))) (fun hg=>mac_Same (foldB d ep i l ws m) rt (foldB_length hll) hrt _) rfl fun ac ww hf hs=>?_
    refine s_q hs (c_and (hs.ev rfl) (hs.ev rfl)) rfl fun ac hs=>?_
    refine zA hs fun ac hs=>?_
    refine s_end ?_
    replace hs:=hs.sub (F':=[(14,_)]) ⟨rfl,trivial⟩
    refine then_n (wp_ret ?_)
    refine s_ret hs rfl (.tmp (hs.tmp rfl) .nil) rfl ⟨_,rfl,hs.fr,?_⟩
    show Value.bool _=Value.bool _
    rw [chkB,decide_eq_true heq]
    by_cases h1:foldE i m=0 <;> simp [h1]
end Go.Proofs.YtklajbdbnnceiaaGreat
end

section
/- Groves of the program. -/
namespace Go.Proofs.YtklajbdbnnceiaaGreat
open Go Go.Fw
open Sha
def gRow (d:Int) (ep:UInt32) (ls:List UInt8) (lv n:Nat):Nat × List UInt8:=(2 ^ (lv - n),rows (gNode d ep ls n) (2 ^ (lv - n)))
def groveL (d:Int) (ep:UInt32) (g:Nat) (v:Value) (ps:List (Value × Nat × List UInt8)):List Ent:=[.texts 39 (Ent.partS 36 16) v ps,.seg g [I d,U ep,v] 211]
def groveE (d:Int) (ep:UInt32) (ls:List UInt8) (lv:Nat):Value→List Ent→World→Prop:=fun pv L _ =>
  ∃ g v ps,pv=.pointer (some ⟨g,0,none⟩)∧ps.map (·.2)=(List.range (lv + 1)).map (gRow d ep ls lv)∧L=groveL d ep g v ps
def GroveAt (w:World) (pv:Value) (d:Int) (ep:UInt32) (ls:List UInt8) (lv:Nat):Prop :=
  ∃ g v ps,pv=.pointer (some ⟨g,0,none⟩)∧ps.map (·.2)=(List.range (lv + 1)).map (gRow d ep ls lv)∧Has 0 w (groveL d ep g v ps)
theorem grow_length {d:Int} {ep:UInt32} {ls:List UInt8} {n lv k:Nat} (hls16:ls.length=16 * n) (hn:n=2 ^ lv) (hk:k≤lv):∀ m,m≤2 ^ (lv - k)→(rows (gNode d ep ls k) m).length=16 * m:=fun m hm =>
  rows_length (N:=2 ^ (lv - k)) (fun q hq=>gNode_length hls16 k q (by
    have h1:(q + 1) * 2 ^ k≤2 ^ (lv - k) * 2 ^ k:=Nat.mul_le_mul_right _ (by omega)
    rw [← Nat.pow_add,show lv - k + k=lv by omega,← hn] at h1
    exact h1)) m hm
theorem gfits {n lv k q:Nat} (hn:n=2 ^ lv) (hk:k≤lv) (hq:q < 2 ^ (lv - k)):(q + 1) * 2 ^ k≤n:=by
  have h1:(q + 1) * 2 ^ k≤2 ^ (lv - k) * 2 ^ k:=Nat.mul_le_mul_right _ (by omega)
  rw [← Nat.pow_add,show lv - k + k=lv by omega,← hn] at h1
  exact h1
theorem gpiece {d:Int} {ep:UInt32} {ls:List UInt8} {n lv k i:Nat} (hls16:ls.length=16 * n) (hn:n=2 ^ lv) (hk:k≤lv) (h:i < 2 ^ (lv - k)):((rows (gNode d ep ls k) (2 ^ (lv - k))).drop (i * 16)).take 16=gNode d ep ls k i:=by
  have:=rows_chunk (f:=gNode d ep ls k) (N:=2 ^ (lv - k)) (fun c hc=>gNode_length hls16 k c (gfits hn hk hc)) (2 ^ (lv - k)) (Nat.le_refl _) i h
  rw [chunk,Nat.mul_comm] at this
  exact this
theorem rows_all (d:Int) (ep:UInt32) (ls:List UInt8):∀ k,rows (gNode d ep ls 0) k=ls.take (16 * k)
  | 0=>by simp [rows]
  | k + 1=>by rw [rows_succ,rows_all d ep ls k,take_chunk]; rfl
theorem tv_one {n sz:Nat} {v:Value} {xs:List Value} {T:TypeId} {w:World} (h:w.ownsRow 0 T sz v n xs):v.oneCell'=true:=by
  rcases h.2 with ⟨rfl,_⟩ | ⟨g,cap,cur,rfl,_⟩ <;> rfl
theorem GroveAt.look {w:World} {pv:Value} {d:Int} {ep:UInt32} {ls:List UInt8} {n lv:Nat} (h:GroveAt w pv d ep ls lv) (hls16:ls.length=16 * n) (hnk:n=2 ^ lv) :
    ∃ g og ocap ocur,pv=.pointer (some ⟨g,0,none⟩)∧w.heap[g]?=some (.cells [I d,U ep,.slice (some ⟨og,0,none⟩) (lv + 1) ocap].toArray 211 (0,0))∧w.heap[og]?=some (.cells ocur 39 (0,0))∧lv + 1≤ocap ∧
      ∀ k,k≤lv→∃ rg rcap rcur,ocur.toList[0 + k * 1]?=some (.slice (some ⟨rg,0,none⟩) (2 ^ (lv - k)) rcap)∧w.heap[rg]?=some (.cells rcur 36 (0,0))∧∀ i,i < 2 ^ (lv - k)→(rcur.toList.drop (0 + i * 16)).take 16=(gNode d ep ls k i).map B:=by
  obtain ⟨g,v,ps,h1,hps,hh⟩:=h
  have hpl:ps.length=lv + 1:=by have:=congrArg List.length hps; simpa using this
  have hT:(Ent.texts 39 (Ent.partS 36 16) v ps).holds w:=hh.holds _ (by simp [groveL])
  obtain ⟨og,ocap,ocur,rfl,hog,hon,hom,hot⟩:=texts_at hT (by omega)
  have hg:(Ent.seg g [I d,U ep,.slice (some ⟨og,0,none⟩) ps.length ocap] 211).holds w:=hh.holds _ (by simp [groveL])
  rw [hpl] at hg
  refine ⟨g,og,ocap,ocur,h1,hg,hog,by omega,fun k hk=>?_⟩
  have hz:=snd_at hps (show k < lv + 1 by omega) (.nilIface,0,[])
  have ho:w.ownsRow 0 36 16 (ps.getD k (.nilIface,0,[])).1 (ps.getD k (.nilIface,0,[])).2.1 ((ps.getD k (.nilIface,0,[])).2.2.map B):=texts_part hT (k:=k) (by omega) (.nilIface,0,[])
  rw [hz] at ho
  simp only [gRow] at ho
  obtain ⟨rg,rcap,rcur,hre,hrg,hrn,hrm,hrt⟩:=owns_at ho (pow_pos' _)
  refine ⟨rg,rcap,rcur,(outcell (.nilIface,0,[]) hot (by omega)).trans (congrArg some hre),hrg,fun i hi=>?_⟩
  exact (rowpiece hrt (by rw [grow_length hls16 hnk hk _ (Nat.le_refl _)]; omega) hi).trans (by rw [gpiece hls16 hnk hk hi])
theorem grove_New (d:Int) (ep:UInt32) (ls:List UInt8) (n lv:Nat) (av:Value) (hls:ls.length=n * 16) (hk6:lv≤6) (hnk:n=2 ^ lv) (hxl:height n=lv) (w:World) (hq:Rd w av n (ls.map B)):Ctr Tryz.prog 106 [I d,U ep,av] w (fun _=>False) (outE (tupG [] [I 0] (groveE d ep ls lv)) w):=by
  have hls16:ls.length=16 * n:=by omega
  have h64:=pow64 hk6
  obtain ⟨lad,lcap,rfl,hlc,hlm⟩:=Rd.sl hq
  refine fn_start (N:=77) Tryz.func106 rfl rfl rfl fun ac hk=>?_
  have hs:=St.start hk w
  refine wp_seq (wp_reg ?_)
  refine zA hs fun ac hs=>?_
  refine zA hs fun ac hs=>?_
  refine s_end (then_n (wp_seq (wp_seq (wp_reg ?_))))
  refine zM hs fun ac hs=>?_
  refine s_q hs (c_lenS un39 (hs.ev rfl)) rfl fun ac hs=>?_
  refine s_call hs fu134 (.cons (hs.ev rfl) .nil) ((by have h:=grove_Height (n:Int) w; rw [hxl] at h; exact h)) rfl fun ac ww v15 hf hp hs=>?_
  obtain rfl:=hp
  replace hs:=hs [] (.nil _ _)
  refine s_q hs (c_ff (c_lssI (hs.ev rfl) (hs.ev rfl)) (by simp; try omega)) rfl fun ac hs=>?_
  refine s_end ?_
  replace hs:=hs.sub (F':=[(0,_),(1,_),(2,_),(6,_),(7,_),(16,_)]) ⟨rfl,rfl,rfl,rfl,rfl,rfl,trivial⟩
  refine then_n ?_
  refine wp_cond_false (hs.ev rfl) ?_
  refine wp_skip (then_n (wp_seq (wp_reg ?_)))
  refine zM hs fun ac hs=>?_
  refine zM hs fun ac hs=>?_
  refine s_q hs (c_buildS ty211 bp211 (.cons (hs.ev rfl) (.cons (hs.ev rfl) .nil)) ⟨rfl,rfl,trivial⟩ (by simp [flatCells,Value.cells]) rfl) rfl fun ac hs=>?_
  refine s_box hs rfl (show _=[I d,U ep,.slice none 0 0].toArray from rfl) rfl fun ac ww g20 hs=>?_
  refine zA hs fun ac hs=>?_
  refine s_end ?_
  replace hs:=hs.sub (F':=[(0,_),(1,_),(2,_),(6,_),(7,_),(8,_)]) ⟨rfl,rfl,rfl,rfl,rfl,rfl,trivial⟩
  refine then_n (wp_seq (wp_reg ?_))
  refine s_bslice hs un39 ty36 .nil rfl (by simp [Value.cells]) (by decide) rfl rfl fun ac ww g21 hs=>?_
  refine zM hs fun ac hs=>?_
  replace hs:=hs.segrow (i:=0) (n:=0) (sz:=16) rfl rfl (by decide)
  refine s_append (i:=0) hs un39 ty36 (by decide) rfl rfl rfl (hq.fr0 hs.fr) (by rw [List.length_map,hls]) (all_map_B _) (by unfold maxLen; omega) (by omega) rfl fun ac ww v23 hf hnil hs=>?_
  rw [Nat.zero_add,List.nil_append] at hs
  have ho0:ww.ownsRow 0 36 16 v23 n (ls.map B):=hs.get (i:=0) rfl
  obtain ⟨rg0,rcap0,rcur0,rfl,_⟩:=owns_at ho0 (by rw [hnk]; exact pow_pos' _)
  refine zA hs fun ac hs=>?_
  refine s_end ?_
  replace hs:=hs.sub (F':=[(0,_),(1,_),(6,_),(7,_),(8,_),(9,_)]) ⟨rfl,rfl,rfl,rfl,rfl,rfl,trivial⟩
  refine then_n (wp_seq (wp_reg ?_))
  refine zM hs fun ac hs=>?_
  refine zM hs fun ac hs=>?_
  refine s_q hs (c_nil (hs.ev rfl)) rfl fun ac hs=>?_
  refine s_q hs (c_fld fl211_2 (hs.ev rfl)) rfl fun ac hs=>?_
  refine s_q hs (c_loadS un209 rfl (hs.ev rfl) (hs.seg (i:=1) rfl) rfl) rfl fun ac hs=>?_
  refine zM hs fun ac hs=>?_
  refine s_bslice hs un209 ty39 (.cons (hs.ev rfl) .nil) rfl (by simp [Value.cells]) (by decide) rfl rfl fun ac ww g30 hs=>?_
  replace hs:=hs.texts0 39 (Ent.partS 36 16)
  refine s_appP (i:=0) (j:=2) (pt:=Ent.partS 36 16) (z:=(n,ls)) hs un209 ty39 rfl rfl rfl rfl rfl (hs.seg (i:=1) rfl) (tv_one (hs.get (i:=2) rfl)) (by simp) rfl fun ac ww v31 hs=>?_
  obtain ⟨og31,oc31,_,hv31,_⟩:=texts_at (hs.get (i:=0) rfl) (by simp)
  subst hv31
  refine s_q hs (c_nil (hs.ev rfl)) rfl fun ac hs=>?_
  refine s_q hs (c_fld fl211_2 (hs.ev rfl)) rfl fun ac hs=>?_
  refine s_store (i:=3) hs ty209 rfl rfl rfl rfl (by rfl) (by rfl) (by simp) rfl fun ww hs=>?_
  refine s_end ?_
  replace hs:=hs.pick (L':=[_,_]) (.cons_cons _ (.cons _ (.cons _ (.cons_cons _ (List.nil_sublist _)))))
  replace hs:=hs.sub (F':=[(0,_),(1,_),(6,_),(7,_),(8,_),(9,_)]) ⟨rfl,rfl,rfl,rfl,rfl,rfl,trivial⟩
  refine then_n (wp_seq (wp_seq (wp_reg ?_)))
  refine zA hs fun ac hs=>?_
  refine s_end (then_n (wp_block ?_))
  refine s_loop hs (X:=Nat × Nat × Value × Value × List (Value × Nat × List UInt8)) (fun x=>[(9,x.2.2.1),(10,I ((x.1 + 1:Nat):Int))]) [(0,_),(1,_),(6,_),(7,_),(8,_)] (fun x=>[.texts 39 (Ent.partS 36 16) x.2.2.2.1 x.2.2.2.2,.seg g20 [I d,U ep,x.2.2.2.1] 211]) (fun j x=>x.1≤lv∧j=lv - x.1∧x.2.1=2 ^ (lv - x.1)∧x.2.2.2.2.map (·.2)=(List.range (x.1 + 1)).map (gRow d ep ls lv)∧(x.2.2.2.2.getD x.1 (.nilIface,0,[])).1=x.2.2.1) (_) ((0,n,_,_,[(_,n,ls)])) (⟨Nat.zero_le _,rfl,hnk,by simp [gRow,rows_all,← hnk,← hls16],rfl⟩) ⟨rfl,rfl,rfl,rfl,rfl,rfl,rfl,trivial⟩ rfl ?_
  rintro n ⟨k,m,rv,ov,ps⟩ ac ww hok hs
  simp only [List.cons_append,List.nil_append] at hs
  obtain ⟨hn,rfl,hm,hps,hrv⟩:=hok
  simp only at hn hm hps hrv hs
  have hpl:ps.length=k + 1:=by have:=congrArg List.length hps; simpa using this
  have hz:=snd_at hps (Nat.lt_succ_self k) (.nilIface,0,[])
  have ho:ww.ownsRow 0 36 16 (ps.getD k (.nilIface,0,[])).1 (ps.getD k (.nilIface,0,[])).2.1 ((ps.getD k (.nilIface,0,[])).2.2.map B):=texts_part (hs.get (i:=0) rfl) (k:=k) (by omega) (.nilIface,0,[])
  rw [hrv,hz] at ho
  simp only [gRow,← hm] at ho
  have hmp:0 < m:=by rw [hm]; exact pow_pos' _
  have hm64:m≤64:=by rw [hm]; exact pow64 (by omega)
  obtain ⟨rg,rcap,rcur,rfl,hrg,hrn,hrm,hrt⟩:=owns_at ho hmp
  refine wp_seq (wp_seq (wp_reg ?_))
  refine zM hs fun ac hs=>?_
  refine s_q hs (c_lenS un39 (hs.ev rfl)) rfl fun ac hs=>?_
  refine s_q hs (c_gtrI (hs.ev rfl) (hs.ev rfl)) rfl fun ac hs=>?_
  refine s_end (then_n ?_)
  refine s_cond hs rfl (fun hc=>?_) (fun hc=>?_)
  · try simp only [z1,z2,z3,z4,z5,z6,z7] at hc
    have hkl:k < lv:=by have:=pow_more (k:=lv - k) (by rw [← hm]; omega); omega
    obtain ⟨h,hh,hh2⟩:∃ h,m=2 * h∧h=2 ^ (lv - (k + 1)):=⟨_,by rw [hm,show lv - k=lv - (k + 1) + 1 from by omega,Nat.pow_succ]; omega,rfl⟩
    refine wp_skip (then_n (wp_seq (wp_block (wp_seq (wp_reg ?_)))))
    refine zM hs fun ac hs=>?_
    refine s_q hs (c_lenS un39 (hs.ev rfl)) rfl fun ac hs=>?_
    refine s_q hs (c_quoI (hs.ev rfl) (hs.ev rfl) (by omega) (by omega) (by omega)) rfl fun ac hs=>?_
    refine s_makeC (m:=h) hs un39 ty36 rfl rfl rfl (by omega) (by omega) (by unfold maxLen; omega) rfl fun ac ww g42 hs=>?_
    refine zA hs fun ac hs=>?_
    refine s_end (then_n (wp_seq (wp_seq (wp_reg ?_))))
    refine zA hs fun ac hs=>?_
    refine s_end (then_n (wp_block ?_))
    refine s_loop hs (X:=Nat × Value) (fun x=>[(11,x.2),(12,I ((2 * x.1:Nat):Int))]) [(0,_),(1,_),(6,_),(7,_),(8,_),(9,_),(10,_),(34,_),(35,_),(36,_),(39,_),(40,_),(41,_),(42,_)] (fun x=>[.row x.2 x.1 ((rows (gNode d ep ls (k + 1)) x.1).map B) 36 16,_,_]) (fun j x=>x.1≤h∧j=h - x.1) (_) ((0,_)) (⟨Nat.zero_le _,rfl⟩) ⟨rfl,rfl,rfl,rfl,rfl,rfl,rfl,rfl,rfl,rfl,rfl,rfl,rfl,rfl,rfl,rfl,trivial⟩ rfl ?_
    rintro n ⟨q,uv⟩ ac ww hok hs
    simp only [List.cons_append,List.nil_append] at hs
    obtain ⟨hq2,rfl⟩:=hok
    simp only at hq2 hs
    have ho2:ww.ownsRow 0 36 16 (ps.getD k (.nilIface,0,[])).1 (ps.getD k (.nilIface,0,[])).2.1 ((ps.getD k (.nilIface,0,[])).2.2.map B):=texts_part (hs.get (i:=1) rfl) (k:=k) (by omega) (.nilIface,0,[])
    rw [hrv,hz] at ho2
    simp only [gRow,← hm] at ho2
    obtain ⟨rg2,rcap2,rcur2,hre,hrg2,_,_,hrt2⟩:=owns_at ho2 hmp
    cases hre
    have hrl:=grow_length (d:=d) (ep:=ep) hls16 hnk (k:=k + 1) (by omega) q (by rw [← hh2]; omega)
    refine wp_seq (wp_seq (wp_reg ?_))
    refine zM hs fun ac hs=>?_
    refine zM hs fun ac hs=>?_
    refine s_q hs (c_lenS un39 (hs.ev rfl)) rfl fun ac hs=>?_
    refine s_q hs (c_lssI (hs.ev rfl) (hs.ev rfl)) rfl fun ac hs=>?_
    refine s_end (then_n ?_)
    refine s_cond hs rfl (fun hc=>?_) (fun hc=>?_)
    · try simp only [z1,z2,z3,z4,z5,z6,z7] at hc
      have hqh:q < h:=by omega
      refine wp_skip (then_n (wp_seq (wp_block ?_)))
      refine wp_region_rg pmix 15 (by kernel_rfl) rfl hs ?_
      simp only [List.take_succ_cons,List.take_zero]
      refine rg_q (fun ac ww h=>c_move (h.ev rfl)) rfl ?_
      refine rg_q (fun ac ww h=>c_move (h.ev rfl)) rfl ?_
      refine rg_q (fun ac ww h=>c_move (h.ev rfl)) rfl ?_
      refine rg_q (fun ac ww h=>c_move (h.ev rfl)) rfl ?_
      refine rg_q (fun ac ww h=>c_move (h.ev rfl)) rfl ?_
      refine rg_q (fun ac ww h=>c_move (h.ev rfl)) rfl ?_
      refine rg_q (fun ac ww h=>c_idxS (j:=2 * q) un39 ty36 (h.ev rfl) (h.ev rfl) (by omega) (by omega)) rfl ?_
      refine rg_q (fun ac ww h=>c_loadA ty36 rfl (h.ev rfl) (h.blk hrg2) ((rowpiece hrt2 (by rw [hm,grow_length hls16 hnk (by omega) _ (Nat.le_refl _)]; omega) (show 2 * q < m by omega)).trans (by rw [hm,gpiece hls16 hnk (by omega) (show 2 * q < 2 ^ (lv - k) by rw [← hm]; omega)])) (by rw [List.length_map]; exact (gNode_length hls16 k (2 * q) (gfits hnk (by omega) (show 2 * q < 2 ^ (lv - k) by rw [← hm]; omega))))) rfl ?_
      refine rg_q (fun ac ww h=>c_move (h.ev rfl)) rfl ?_
      refine rg_q (fun ac ww h=>c_move (h.ev rfl)) rfl ?_
      refine rg_q (fun ac ww h=>c_addI (h.ev rfl) (h.ev rfl) (by omega) (by omega)) rfl ?_
      refine rg_q (fun ac ww h=>c_idxS (j:=2 * q + 1) un39 ty36 (h.ev rfl) (h.ev rfl) (by omega) (by omega)) rfl ?_
      refine rg_q (fun ac ww h=>c_loadA ty36 rfl (h.ev rfl) (h.blk hrg2) ((rowpiece hrt2 (by rw [hm,grow_length hls16 hnk (by omega) _ (Nat.le_refl _)]; omega) (show 2 * q + 1 < m by omega)).trans (by rw [hm,gpiece hls16 hnk (by omega) (show 2 * q + 1 < 2 ^ (lv - k) by rw [← hm]; omega)])) (by rw [List.length_map]; exact (gNode_length hls16 k (2 * q + 1) (gfits hnk (by omega) (show 2 * q + 1 < 2 ^ (lv - k) by rw [← hm]; omega))))) rfl ?_
      refine rg_call fu135 (fun ac ww h=>(.cons (h.ev rfl) (.cons (h.ev rfl) (.cons (h.ev rfl) (.cons (h.ev rfl) (.cons (h.ev rfl) .nil)))))) (fun ww hf=>grove_Above d ep (k + 1:Nat) (gNode d ep ls k (2 * q)) (gNode d ep ls k (2 * q + 1)) (gNode_length hls16 k (2 * q) (gfits hnk (by omega) (show 2 * q < 2 ^ (lv - k) by rw [← hm]; omega))) (gNode_length hls16 k (2 * q + 1) (gfits hnk (by omega) (show 2 * q + 1 < 2 ^ (lv - k) by rw [← hm]; omega))) ww) rfl ?_
      refine rg_bslice un39 ty36 (fun ac ww h=>(.cons (h.ev rfl) .nil)) rfl (by intro v hv; simp only [List.mem_singleton] at hv; subst hv; simp [Value.cells]) (by decide) (show _=(ofT (aboveX d ep (k + 1:Nat) (gNode d ep ls k (2 * q)) (gNode d ep ls k (2 * q + 1)))).map B by simp [flatCells,Value.cells]) rfl ?_
      refine rg_nil fun ac ww L' hf hfe hs=>?_
      simp only [List.drop_succ_cons,List.drop_zero]
      obtain ⟨v63,L63,M63,h63,e63,rfl,rfl⟩:=hfe
      replace hs:=hs.add h63
      obtain ⟨g63,rfl,rfl⟩:=e63
      refine s_append (i:=1) hs un39 ty36 (by decide) rfl rfl rfl (Rd.of_seg (n:=1) (hs.seg (i:=0) rfl) (Nat.le_refl _) (by decide) (List.take_of_length_le (by simp))) (by simp) (all_map_B _) (by unfold maxLen; omega) (by omega) rfl fun ac ww v64 hf hnil hs=>?_
      refine zA hs fun ac hs=>?_
      refine s_end (blk_n (then_n (wp_reg ?_)))
      refine zM hs fun ac hs=>?_
      refine s_q hs (c_addI (hs.ev rfl) (hs.ev rfl) (by omega) (by omega)) rfl fun ac hs=>?_
      refine zA hs fun ac hs=>?_
      refine s_end (then_n ?_)
      replace hs:=hs.pick (L':=[_,_,_]) (.cons _ (.refl _))
      exact ⟨h - (q + 1),by (try simp only); omega,(q + 1,_),⟨by (try simp only); omega,rfl⟩,St.next hs ⟨rfl,(congrArg (fun z=>some (I z)) (by omega)),rfl,rfl,rfl,rfl,rfl,rfl,rfl,rfl,rfl,rfl,rfl,rfl,rfl,rfl,trivial⟩ (by rw [rows_succ,List.map_append]; rfl)⟩
    · try simp only [z1,z2,z3,z4,z5,z6,z7] at hc
      obtain rfl:q=h:=by omega
      have ho3:ww.ownsRow 0 36 16 uv q ((rows (gNode d ep ls (k + 1)) q).map B):=hs.get (i:=0) rfl
      obtain ⟨ug,ucap,ucur,rfl,_⟩:=owns_at ho3 (by omega)
      refine wp_exit (then_e (then_e (blk_hit (then_n (wp_reg ?_)))))
      refine zM hs fun ac hs=>?_
      refine zM hs fun ac hs=>?_
      refine s_q hs (c_nil (hs.ev rfl)) rfl fun ac hs=>?_
      refine s_q hs (c_fld fl211_2 (hs.ev rfl)) rfl fun ac hs=>?_
      refine s_q hs (c_loadS un209 rfl (hs.ev rfl) (hs.seg (i:=2) rfl) rfl) rfl fun ac hs=>?_
      refine zM hs fun ac hs=>?_
      refine s_bslice hs un209 ty39 (.cons (hs.ev rfl) .nil) rfl (by simp [Value.cells]) (by decide) rfl rfl fun ac ww g71 hs=>?_
      refine s_appP (i:=2) (j:=1) (pt:=Ent.partS 36 16) (z:=(q,rows (gNode d ep ls (k + 1)) q)) hs un209 ty39 rfl rfl rfl rfl rfl (hs.seg (i:=0) rfl) (tv_one (hs.get (i:=1) rfl)) (by omega) rfl fun ac ww v72 hs=>?_
      obtain ⟨og72,oc72,_,hv72,_⟩:=texts_at (hs.get (i:=2) rfl) (by simp)
      subst hv72
      refine zM hs fun ac hs=>?_
      refine s_q hs (c_nil (hs.ev rfl)) rfl fun ac hs=>?_
      refine s_q hs (c_fld fl211_2 (hs.ev rfl)) rfl fun ac hs=>?_
      refine s_store (i:=3) hs ty209 rfl rfl rfl rfl (by rfl) (by rfl) (by simp) rfl fun ww hs=>?_
      refine zA hs fun ac hs=>?_
      refine s_end ?_
      replace hs:=hs.pick (L':=[_,_]) (.cons _ (.cons _ (.refl _)))
      refine blk_n (then_n (wp_reg ?_))
      refine zM hs fun ac hs=>?_
      refine s_q hs (c_addI (hs.ev rfl) (hs.ev rfl) (by omega) (by omega)) rfl fun ac hs=>?_
      refine zA hs fun ac hs=>?_
      refine s_end (then_n ?_)
      exact ⟨lv - (k + 1),by (try simp only); omega,(k + 1,q,.slice (some ⟨ug,0,none⟩) q ucap,_,ps++[(.slice (some ⟨ug,0,none⟩) q ucap,q,rows (gNode d ep ls (k + 1)) q)]),⟨by (try simp only); omega,rfl,hh2,by simp only [List.map_append]; rw [hps,List.range_succ (n:=k + 1),List.map_append]; simp only [List.map_cons,List.map_nil,gRow,← hh2],by simp only; rw [List.getD,List.getElem?_append_right (by omega),show k + 1 - ps.length=0 from by omega]; rfl⟩,St.next hs ⟨rfl,rfl,rfl,rfl,rfl,rfl,rfl,trivial⟩ rfl⟩
  · try simp only [z1,z2,z3,z4,z5,z6,z7] at hc
    have hkl:lv - k=0:=pow_one (by rw [← hm]; omega)
    have hkl2:k=lv:=by omega
    refine wp_exit (then_e (then_e (blk_hit (then_n (wp_seq (wp_reg ?_))))))
    refine zM hs fun ac hs=>?_
    refine zA hs fun ac hs=>?_
    refine zA hs fun ac hs=>?_
    refine s_end ?_
    replace hs:=hs.sub (F':=[(6,_),(7,_)]) ⟨rfl,rfl,trivial⟩
    refine then_n (wp_ret ?_)
    refine s_ret hs rfl (.tmp (hs.tmp rfl) (.tmp (hs.tmp rfl) .nil)) rfl ⟨_,rfl,hs.fr,?_⟩
    have hmd:=hs.made
    subst hkl2
    exact ⟨_,⟨_,rfl,g20,_,ps,rfl,hps,rfl⟩,hmd⟩
end Go.Proofs.YtklajbdbnnceiaaGreat
end

section
/- Leaves,paths,roots of groves. -/
namespace Go.Proofs.YtklajbdbnnceiaaGreat
open Go Go.Fw
open Sha
def lfOk (n:Nat) (i:Int):Bool:=decide (0≤i) && decide (i < (n:Int))
def lfB (ls:List UInt8) (n:Nat) (i:Int):List UInt8:=if lfOk n i=true then chunk ls i.toNat else List.replicate 16 0
def lfE (n:Nat) (i:Int):Int:=if lfOk n i=true then 0 else 1
theorem lf_bad {n:Nat} {i:Int} (h:¬ (0≤i∧i < (n:Int))):¬ lfOk n i=true:=by
  intro h2
  unfold lfOk at h2
  simp only [Bool.and_eq_true,decide_eq_true_eq] at h2
  exact h h2
theorem lf_good {n:Nat} {i:Int} (h1:0≤i) (h2:i < (n:Int)):lfOk n i=true:=by simp [lfOk,h1,h2]
theorem lf_spec {n:Nat} {i:Int} (h:lfOk n i=true):∃ q:Nat,i=q∧q < n:=by
  unfold lfOk at h
  simp only [Bool.and_eq_true,decide_eq_true_eq] at h
  exact ⟨i.toNat,by omega,by omega⟩
theorem lfB_length {ls:List UInt8} {n:Nat} {i:Int} (hls:ls.length=n * 16):(lfB ls n i).length=16:=by
  unfold lfB
  split
  · rename_i h
    obtain ⟨q,rfl,hq⟩:=lf_spec h
    rw [Int.toNat_natCast]
    exact chunk_l hls hq
  · simp
def pN (n lv:Nat) (i:Int):Nat:=if lfOk n i=true then lv else 0
def pW (d:Int) (ep:UInt32) (ls:List UInt8) (n lv:Nat) (i:Int):List UInt8:=if lfOk n i=true then gPath d ep ls i.toNat lv else []
theorem gWay_length {d:Int} {ep:UInt32} {ls:List UInt8} {n lv k q:Nat} (hls16:ls.length=16 * n) (hnk:n=2 ^ lv) (hq:q < n) (hk:k < lv):(gNode d ep ls k (besideI (q / 2 ^ k))).length=16:=gNode_length hls16 k _ (by rw [hnk]; exact beside_fit (by omega) hk)
theorem beside_row {lv k q:Nat} (h:q < 2 ^ lv) (hk:k < lv):besideI (q / 2 ^ k) < 2 ^ (lv - k):=by
  obtain ⟨m,rfl⟩:∃ m,lv=k + (m + 1):=⟨lv - k - 1,by omega⟩
  have h1:q / 2 ^ k < 2 ^ (m + 1):=by
    rw [Nat.div_lt_iff_lt_mul (Nat.two_pow_pos k),← Nat.pow_add,Nat.add_comm (m + 1) k]
    exact h
  rw [show k + (m + 1) - k=m + 1 by omega]
  rw [Nat.pow_succ] at h1 ⊢
  generalize q / 2 ^ k=z at h1 ⊢
  unfold besideI
  split <;> omega
theorem grove_Leaf (d:Int) (ep:UInt32) (ls:List UInt8) (n lv:Nat) (pv:Value) (hls:ls.length=n * 16) (hk6:lv≤6) (hnk:n=2 ^ lv) (i:Int) (w:World) (hg:GroveAt w pv d ep ls lv):Ctr Tryz.prog 107 [pv,I i] w (fun _=>False) (fun v _=>v=.tuple #[.agg ((lfB ls n i).map B).toArray,I (lfE n i)]):=by
  have hls16:ls.length=16 * n:=by omega
  have h64:=pow64 hk6
  obtain ⟨g,og,ocap,ocur,rfl,hgb,hog,hocap,hrows⟩:=hg.look hls16 hnk
  obtain ⟨rg0,rcap0,rcur0,hre0,hrg0,hrt0⟩:=hrows 0 (by omega)
  refine fn_start (N:=34) Tryz.func107 rfl rfl rfl fun ac hk=>?_
  have hs:=St.start hk w
  refine wp_seq (wp_reg ?_)
  refine s_alloc hs ty36 rfl fun ac ww g4 hs=>?_
  refine zA hs fun ac hs=>?_
  refine s_end (then_n (wp_seq (wp_block (wp_seq (wp_reg ?_)))))
  refine zM hs fun ac hs=>?_
  refine s_q hs (c_eqlNil un144 (hs.ev rfl) (hs.ev rfl)) rfl fun ac hs=>?_
  refine zA hs fun ac hs=>?_
  refine s_end ?_
  replace hs:=hs.sub (F':=[(0,_),(1,_),(4,_),(5,_),(6,_)]) ⟨rfl,rfl,rfl,rfl,rfl,trivial⟩
  refine then_n ?_
  refine wp_cond_false (hs.ev rfl) ?_
  refine wp_seq (wp_reg ?_)
  refine zM hs fun ac hs=>?_
  refine s_q hs (c_lssI (hs.ev rfl) (hs.ev rfl)) rfl fun ac hs=>?_
  refine zM hs fun ac hs=>?_
  refine s_g hs rfl rfl (fun hg=>c_move (hs.ev rfl)) rfl fun ac hs=>?_
  refine s_g hs rfl rfl (fun hg=>c_move (hs.ev rfl)) rfl fun ac hs=>?_
  refine s_g hs rfl rfl (fun hg=>c_nil (gev (hs.ev rfl) hg)) rfl fun ac hs=>?_
  refine s_g hs rfl rfl (fun hg=>c_fld fl211_2 (gev (hs.ev rfl) hg)) rfl fun ac hs=>?_
  refine s_g hs rfl rfl (fun hg=>c_loadS un209 rfl (gev (hs.ev rfl) hg) (hs.old hgb id) rfl) rfl fun ac hs=>?_
  refine s_g hs rfl rfl (fun hg=>c_idxS (j:=0) un209 ty39 (gev (hs.ev rfl) hg) (hs.ev rfl) (by omega) (by omega)) rfl fun ac hs=>?_
  refine s_g hs rfl rfl (fun hg=>c_loadS un39 rfl (gev (hs.ev rfl) hg) (hs.old hog id) hre0) rfl fun ac hs=>?_
  refine s_g hs rfl rfl (fun hg=>c_lenS un39 (gev (hs.ev rfl) hg)) rfl fun ac hs=>?_
  refine s_g hs rfl rfl (fun hg=>c_geqI (gev (hs.ev rfl) hg) (gev (hs.ev rfl) hg)) rfl fun ac hs=>?_
  refine s_q hs (c_or (hs.ev rfl) (hs.ev rfl)) rfl fun ac hs=>?_
  refine zA hs fun ac hs=>?_
  refine s_end ?_
  replace hs:=hs.sub (F':=[(0,_),(1,_),(4,_),(5,_),(10,_)]) ⟨rfl,rfl,rfl,rfl,rfl,trivial⟩
  refine then_n ?_
  refine s_cond hs rfl (fun hc=>?_) (fun hc=>?_)
  · try simp only [z1,z2,z3,z4,z5,z6,z7] at hc
    have hno:¬ lfOk n i=true:=lf_bad (by rw [Nat.sub_zero,← hnk] at hc; omega)
    refine wp_seq (wp_reg ?_)
    refine s_q hs (c_buildA ty36 un36 ty5 (zc:=(List.replicate 16 (0:UInt8)).map B) (vs:=[]) .nil (by simp) (by simp [flatCells]) rfl) rfl fun ac hs=>?_
    refine s_storeW (i:=0) hs ty36 rfl rfl rfl (by simp) (all_map_B _) rfl fun ww hs=>?_
    refine zA hs fun ac hs=>?_
    refine s_end ?_
    replace hs:=hs.sub (F':=[(0,_),(1,_),(4,_),(5,_)]) ⟨rfl,rfl,rfl,rfl,trivial⟩
    refine then_n (wp_ret (blk_r (then_r ?_)))
    refine s_ret hs rfl (.cell (hs.tmp rfl) (run_loadA ty36 rfl (hs.seg (i:=0) rfl) (List.take_of_length_le (by simp)) (by simp)) (.tmp (hs.tmp rfl) .nil)) rfl ⟨_,rfl,hs.fr,?_⟩
    show Value.tuple _=Value.tuple _
    rw [lfB,lfE,if_neg hno,if_neg hno]
    rfl
  · try simp only [z1,z2,z3,z4,z5,z6,z7] at hc
    rw [Nat.sub_zero,← hnk] at hc
    have hok1:lfOk n i=true:=lf_good (by omega) (by omega)
    obtain ⟨q,rfl,hqn⟩:=lf_spec hok1
    have hcl:=chunk_l hls hqn
    refine wp_skip (blk_n (then_n (wp_seq (wp_reg ?_))))
    refine zM hs fun ac hs=>?_
    refine s_q hs (c_nil (hs.ev rfl)) rfl fun ac hs=>?_
    refine s_q hs (c_fld fl211_2 (hs.ev rfl)) rfl fun ac hs=>?_
    refine s_q hs (c_loadS un209 rfl (hs.ev rfl) (hs.old hgb id) rfl) rfl fun ac hs=>?_
    refine s_q hs (c_idxS (j:=0) un209 ty39 (hs.ev rfl) (hs.ev rfl) (by omega) (by omega)) rfl fun ac hs=>?_
    refine s_q hs (c_loadS un39 rfl (hs.ev rfl) (hs.old hog id) hre0) rfl fun ac hs=>?_
    refine zM hs fun ac hs=>?_
    refine s_q hs (c_idxS (j:=q) un39 ty36 (hs.ev rfl) (hs.ev rfl) (by omega) (show q < 2 ^ (lv - 0) by rw [Nat.sub_zero,← hnk]; omega)) rfl fun ac hs=>?_
    refine s_q hs (c_loadA ty36 rfl (hs.ev rfl) (hs.old hrg0 id) (hrt0 q (show q < 2 ^ (lv - 0) by rw [Nat.sub_zero,← hnk]; omega)) (by rw [List.length_map]; exact hcl)) rfl fun ac hs=>?_
    refine s_storeW (i:=0) hs ty36 rfl rfl rfl (by rw [List.length_map]; exact hcl) (all_map_B _) rfl fun ww hs=>?_
    refine zA hs fun ac hs=>?_
    refine s_end ?_
    replace hs:=hs.sub (F':=[(4,_),(5,_)]) ⟨rfl,rfl,trivial⟩
    refine then_n (wp_ret ?_)
    refine s_ret hs rfl (.cell (hs.tmp rfl) (run_loadA ty36 rfl (hs.seg (i:=0) rfl) (List.take_of_length_le (show (List.map B (gNode d ep ls 0 q)).length≤16 by rw [List.length_map,show (gNode d ep ls 0 q).length=16 from hcl]; exact Nat.le_refl _)) (show (List.map B (gNode d ep ls 0 q)).length=16 by rw [List.length_map,show (gNode d ep ls 0 q).length=16 from hcl])) (.tmp (hs.tmp rfl) .nil)) rfl ⟨_,rfl,hs.fr,?_⟩
    show Value.tuple _=Value.tuple _
    rw [lfB,lfE,if_pos hok1,if_pos hok1]
    rfl
theorem grove_Root (d:Int) (ep:UInt32) (ls:List UInt8) (n lv:Nat) (pv:Value) (hls:ls.length=n * 16) (hk6:lv≤6) (hnk:n=2 ^ lv) (w:World) (hg:GroveAt w pv d ep ls lv):Ctr Tryz.prog 67 [pv] w (fun _=>False) (fun v _=>v=.agg ((gNode d ep ls lv 0).map B).toArray):=by
  have hls16:ls.length=16 * n:=by omega
  have h64:=pow64 hk6
  obtain ⟨g,og,ocap,ocur,rfl,hgb,hog,hocap,hrows⟩:=hg.look hls16 hnk
  obtain ⟨rg1,rcap1,rcur1,hre1,hrg1,hrt1⟩:=hrows lv (by omega)
  have hrl:(gNode d ep ls lv 0).length=16:=gNode_length hls16 lv 0 (by rw [hnk]; omega)
  refine fn_start (N:=20) Tryz.func67 rfl rfl rfl fun ac hk=>?_
  have hs:=St.start hk w
  refine wp_seq (wp_reg ?_)
  refine s_alloc hs ty36 rfl fun ac ww g2 hs=>?_
  refine s_end (then_n (wp_seq (wp_seq (wp_reg ?_))))
  refine zM hs fun ac hs=>?_
  refine s_q hs (c_eqlNil un144 (hs.ev rfl) (hs.ev rfl)) rfl fun ac hs=>?_
  refine s_end ?_
  replace hs:=hs.sub (F':=[(0,_),(2,_),(4,_)]) ⟨rfl,rfl,rfl,trivial⟩
  refine then_n ?_
  refine wp_cond_false (hs.ev rfl) ?_
  refine wp_skip (then_n (wp_seq ?_))
  refine wp_region_rg pmix 10 (by kernel_rfl) rfl hs ?_
  simp only [List.take_succ_cons,List.take_zero]
  refine rg_q (fun ac ww h=>c_move (h.ev rfl)) rfl ?_
  refine rg_q (fun ac ww h=>c_nil (h.ev rfl)) rfl ?_
  refine rg_q (fun ac ww h=>c_fld fl211_2 (h.ev rfl)) rfl ?_
  refine rg_q (fun ac ww h=>c_loadS un209 rfl (h.ev rfl) (h.blk (hs.old hgb id)) rfl) rfl ?_
  refine rg_q (fun ac ww h=>c_move (h.ev rfl)) rfl ?_
  refine rg_q (fun ac ww h=>c_nil (h.ev rfl)) rfl ?_
  refine rg_q (fun ac ww h=>c_fld fl211_2 (h.ev rfl)) rfl ?_
  refine rg_q (fun ac ww h=>c_loadS un209 rfl (h.ev rfl) (h.blk (hs.old hgb id)) rfl) rfl ?_
  refine rg_q (fun ac ww h=>c_lenS un209 (h.ev rfl)) rfl ?_
  refine rg_q (fun ac ww h=>c_to (c_subI (h.ev rfl) (h.ev rfl) (by omega) (by omega)) ((congrArg I (show (((lv + 1:Nat):Int) - 1=(lv:Int)) by omega)))) rfl ?_
  refine rg_nil fun ac ww L' hf hfe hs=>?_
  simp only [List.drop_succ_cons,List.drop_zero]
  obtain rfl:L'=[]:=hfe
  replace hs:=hs.toL (List.nil_append _)
  refine s_q hs (c_idxS (j:=lv) un209 ty39 (hs.ev rfl) (hs.ev rfl) (by omega) (by omega)) rfl fun ac hs=>?_
  refine s_q hs (c_loadS un39 rfl (hs.ev rfl) (hs.old hog id) hre1) rfl fun ac hs=>?_
  refine s_q hs (c_idxS (j:=0) un39 ty36 (hs.ev rfl) (hs.ev rfl) (by omega) (show 0 < 2 ^ (lv - lv) from pow_pos' _)) rfl fun ac hs=>?_
  refine s_q hs (c_loadA ty36 rfl (hs.ev rfl) (hs.old hrg1 id) (hrt1 0 (pow_pos' _)) (by rw [List.length_map]; exact hrl)) rfl fun ac hs=>?_
  refine s_storeW (i:=0) hs ty36 rfl rfl rfl (by rw [List.length_map]; exact hrl) (all_map_B _) rfl fun ww hs=>?_
  refine s_end ?_
  replace hs:=hs.sub (F':=[(2,_)]) ⟨rfl,trivial⟩
  refine then_n (wp_ret ?_)
  refine s_ret hs rfl (.cell (hs.tmp rfl) (run_loadA ty36 rfl (hs.seg (i:=0) rfl) (List.take_of_length_le (show (List.map B (gNode d ep ls lv 0)).length≤16 by rw [List.length_map,hrl]; exact Nat.le_refl _)) (show (List.map B (gNode d ep ls lv 0)).length=16 by rw [List.length_map,hrl])) .nil) rfl ⟨_,rfl,hs.fr,?_⟩
  rfl
theorem grove_Path (d:Int) (ep:UInt32) (ls:List UInt8) (n lv:Nat) (pv:Value) (hls:ls.length=n * 16) (hk6:lv≤6) (hnk:n=2 ^ lv) (i:Int) (w:World) (hg:GroveAt w pv d ep ls lv):Ctr Tryz.prog 66 [pv,I i] w (fun _=>False) (outE (tupG [] [I (lfE n i)] (rowS (pN n lv i) (pW d ep ls n lv i))) w):=by
  have hls16:ls.length=16 * n:=by omega
  have h64:=pow64 hk6
  obtain ⟨g,og,ocap,ocur,rfl,hgb,hog,hocap,hrows⟩:=hg.look hls16 hnk
  refine fn_start (N:=56) Tryz.func66 rfl rfl rfl fun ac hk=>?_
  have hs:=St.start hk w
  refine wp_seq (wp_reg ?_)
  refine zA hs fun ac hs=>?_
  refine zA hs fun ac hs=>?_
  refine s_end (then_n (wp_seq (wp_seq (wp_reg ?_))))
  refine zM hs fun ac hs=>?_
  refine zM hs fun ac hs=>?_
  refine s_call hs fu107 (.cons (hs.ev rfl) (.cons (hs.ev rfl) .nil)) (grove_Leaf d ep ls n lv _ hls hk6 hnk i _ hg) rfl fun ac ww v15 hf hp hs=>?_
  obtain rfl:=hp
  replace hs:=hs [] (.nil _ _)
  refine zM hs fun ac hs=>?_
  refine s_q hs (c_extract (hs.ev rfl) rfl) rfl fun ac hs=>?_
  refine s_q hs (c_extract (hs.ev rfl) rfl) rfl fun ac hs=>?_
  refine s_alloc hs ty36 rfl fun ac ww g6 hs=>?_
  refine s_storeW (i:=0) hs ty36 rfl rfl rfl (by rw [List.length_map,lfB_length hls]) (all_map_B _) rfl fun ww hs=>?_
  refine zA hs fun ac hs=>?_
  refine s_end ?_
  replace hs:=hs.sub (F':=[(0,_),(1,_),(4,_),(5,_),(7,_)]) ⟨rfl,rfl,rfl,rfl,rfl,trivial⟩
  refine then_n (wp_seq (wp_reg ?_))
  refine zM hs fun ac hs=>?_
  refine s_q hs (c_neqI (hs.ev rfl) (hs.ev rfl)) rfl fun ac hs=>?_
  refine s_end ?_
  replace hs:=hs.sub (F':=[(0,_),(1,_),(4,_),(5,_),(7,_),(19,_)]) ⟨rfl,rfl,rfl,rfl,rfl,rfl,trivial⟩
  refine then_n ?_
  refine s_cond hs rfl (fun hc=>?_) (fun hc=>?_)
  · try simp only [z1,z2,z3,z4,z5,z6,z7] at hc
    have hno:¬ lfOk n i=true:=fun h=>hc (if_pos h)
    refine wp_seq (wp_reg ?_)
    refine zM hs fun ac hs=>?_
    refine zA hs fun ac hs=>?_
    refine zA hs fun ac hs=>?_
    refine s_end ?_
    replace hs:=hs.sub (F':=[(0,_),(1,_),(4,_),(5,_)]) ⟨rfl,rfl,rfl,rfl,trivial⟩
    refine then_n (wp_ret (then_r ?_))
    refine s_ret hs rfl (.tmp (hs.tmp rfl) (.tmp (hs.tmp rfl) .nil)) rfl ⟨_,rfl,hs.fr,?_⟩
    rw [pN,pW,lfE,if_neg hno,if_neg hno,if_neg hno]
    exact ⟨_,⟨_,rfl,rfl⟩,((hs.nilrow 36 16).pick (L':=[_]) (.cons_cons _ (List.nil_sublist _))).made⟩
  · try simp only [z1,z2,z3,z4,z5,z6,z7] at hc
    have hok1:lfOk n i=true:=Classical.byContradiction fun h=>by rw [lfE,if_neg h] at hc; exact absurd hc (by decide)
    obtain ⟨q,rfl,hqn⟩:=lf_spec hok1
    refine wp_skip (then_n (wp_seq (wp_reg ?_)))
    refine s_bslice hs un39 ty36 .nil rfl (by simp [Value.cells]) (by decide) rfl rfl fun ac ww g21 hs=>?_
    refine zA hs fun ac hs=>?_
    refine s_end ?_
    replace hs:=hs.segrow (i:=0) (n:=0) (sz:=16) rfl rfl (by decide)
    replace hs:=hs.sub (F':=[(0,_),(1,_),(4,_),(5,_),(8,_)]) ⟨rfl,rfl,rfl,rfl,rfl,trivial⟩
    refine then_n (wp_seq (wp_seq ?_))
    refine wp_region_rg pmix 13 (by kernel_rfl) rfl hs ?_
    simp only [List.take_succ_cons,List.take_zero]
    refine rg_q (fun ac ww h=>c_move (h.ev rfl)) rfl ?_
    refine rg_q (fun ac ww h=>c_nil (h.ev rfl)) rfl ?_
    refine rg_q (fun ac ww h=>c_fld fl211_2 (h.ev rfl)) rfl ?_
    refine rg_q (fun ac ww h=>c_loadS un209 rfl (h.ev rfl) (h.blk (hs.old hgb id)) rfl) rfl ?_
    refine rg_q (fun ac ww h=>c_move (h.ev rfl)) rfl ?_
    refine rg_q (fun ac ww h=>c_nil (h.ev rfl)) rfl ?_
    refine rg_q (fun ac ww h=>c_fld fl211_2 (h.ev rfl)) rfl ?_
    refine rg_q (fun ac ww h=>c_loadS un209 rfl (h.ev rfl) (h.blk (hs.old hgb id)) rfl) rfl ?_
    refine rg_q (fun ac ww h=>c_lenS un209 (h.ev rfl)) rfl ?_
    refine rg_q (fun ac ww h=>c_to (c_subI (h.ev rfl) (h.ev rfl) (by omega) (by omega)) ((congrArg I (show (((lv + 1:Nat):Int) - 1=(lv:Int)) by omega)))) rfl ?_
    refine rg_q (fun ac ww h=>c_to (c_sliceH (j:=lv) un209 ty39 (h.ev rfl) (h.ev rfl) (by omega) (by omega)) ((show Value.slice _ lv ocap=Value.slice (some ⟨og,0,none⟩) lv ocap from by rw [if_neg (by omega)]; simp [Addr.add]))) rfl ?_
    refine rg_q (fun ac ww h=>c_lenS un209 (h.ev rfl)) rfl ?_
    refine rg_q (fun ac ww h=>c_move (h.ev rfl)) rfl ?_
    refine rg_nil fun ac ww L' hf hfe hs=>?_
    simp only [List.drop_succ_cons,List.drop_zero]
    obtain rfl:L'=[]:=hfe
    replace hs:=hs.toL (List.nil_append _)
    refine s_end ?_
    replace hs:=hs.sub (F':=[(1,_),(4,_),(5,_),(8,_),(32,_),(33,_),(34,_)]) ⟨rfl,rfl,rfl,rfl,rfl,rfl,rfl,trivial⟩
    refine then_n (wp_block ?_)
    refine s_loop hs (X:=Nat × Value) (fun x=>[(1,I (q / 2 ^ x.1:Nat)),(8,x.2),(34,I x.1)]) [(4,_),(5,_),(32,_),(33,_)] (fun x=>[.row x.2 x.1 ((gPath d ep ls q x.1).map B) 36 16,_]) (fun j x=>x.1≤lv∧j=lv - x.1) (_) ((0,_)) (⟨Nat.zero_le _,rfl⟩) ⟨(congrArg (fun z:Nat=>some (I z)) (by simp)),rfl,rfl,rfl,rfl,rfl,rfl,trivial⟩ rfl ?_
    rintro n ⟨k,v⟩ ac ww hok hs
    simp only [List.cons_append,List.nil_append] at hs
    obtain ⟨hk,rfl⟩:=hok
    simp only at hk hs
    obtain ⟨qk,hqk⟩:∃ qk:Nat,q / 2 ^ k=qk:=⟨_,rfl⟩
    have hqle:qk≤q:=hqk ▸ Nat.div_le_self _ _
    rw [hqk] at hs
    have hsl:=gPath_length (d:=d) (ep:=ep) (ls:=ls) (q:=q) (lv:=lv) (by omega) (by omega) k hk
    refine wp_seq (wp_reg ?_)
    refine s_q hs (c_lssI (hs.ev rfl) (hs.ev rfl)) rfl fun ac hs=>?_
    refine s_end (then_n (wp_seq ?_))
    refine s_cond hs rfl (fun hc=>?_) (fun hc=>?_)
    · try simp only [z1,z2,z3,z4,z5,z6,z7] at hc
      have hkl:k < lv:=by omega
      obtain ⟨rgk,rcapk,rcurk,hrek,hrgk,hrtk⟩:=hrows k (by omega)
      have hbl:=beside_row (by rw [← hnk]; exact hqn) hkl
      have hwl:=gWay_length (d:=d) (ep:=ep) hls16 hnk hqn hkl
      rw [hqk] at hbl hwl
      refine wp_skip (then_n (wp_seq (wp_block (wp_seq (wp_reg ?_)))))
      refine s_q hs (c_idxS (j:=k) un209 ty39 (hs.ev rfl) (hs.ev rfl) (by omega) (by omega)) rfl fun ac hs=>?_
      refine s_q hs (c_loadS un39 rfl (hs.ev rfl) (hs.old hog id) hrek) rfl fun ac hs=>?_
      refine zA hs fun ac hs=>?_
      refine s_end (then_n (wp_seq (wp_reg ?_)))
      refine zM hs fun ac hs=>?_
      refine s_q hs (c_addI (hs.ev rfl) (hs.ev rfl) (by omega) (by omega)) rfl fun ac hs=>?_
      refine zA hs fun ac hs=>?_
      refine s_end (then_n (wp_seq (wp_seq (wp_reg ?_))))
      refine zM hs fun ac hs=>?_
      refine s_q hs (c_remI (hs.ev rfl) (hs.ev rfl) (by omega) (by omega)) rfl fun ac hs=>?_
      refine s_q hs (c_eqlI (hs.ev rfl) (hs.ev rfl)) rfl fun ac hs=>?_
      refine s_end (then_n ?_)
      refine s_cond hs rfl (fun hc=>?_) (fun hc=>?_)
      · try simp only [z1,z2,z3,z4,z5,z6,z7] at hc
        refine wp_reg ?_
        refine zM hs fun ac hs=>?_
        refine s_q hs (c_subI (hs.ev rfl) (hs.ev rfl) (by omega) (by omega)) rfl fun ac hs=>?_
        refine zA hs fun ac hs=>?_
        refine s_end ?_
        have hbe:((qk:Int) - 1)=((besideI qk:Nat):Int):=by unfold besideI; rw [if_pos (by omega)]; omega
        rw [hbe] at hs
        refine then_n (wp_seq (wp_reg ?_))
        refine zM hs fun ac hs=>?_
        refine zM hs fun ac hs=>?_
        refine zM hs fun ac hs=>?_
        refine s_q hs (c_idxS (j:=besideI qk) un39 ty36 (hs.ev rfl) (hs.ev rfl) (by omega) hbl) rfl fun ac hs=>?_
        refine s_q hs (c_loadA ty36 rfl (hs.ev rfl) (hs.old hrgk id) (hrtk (besideI qk) hbl) (by rw [List.length_map]; exact hwl)) rfl fun ac hs=>?_
        refine s_bslice hs un39 ty36 (.cons (hs.ev rfl) .nil) rfl (by intro v hv; simp only [List.mem_singleton] at hv; subst hv; simp [Value.cells,hwl]) (by decide) (show _=(gNode d ep ls k (besideI qk)).map B by simp [flatCells,Value.cells]) rfl fun ac ww g50 hs=>?_
        refine s_append (i:=1) hs un39 ty36 (by decide) rfl rfl rfl (Rd.of_seg (n:=1) (hs.seg (i:=0) rfl) (Nat.le_refl _) (by decide) (List.take_of_length_le (by simp))) (by rw [List.length_map,hwl]) (all_map_B _) (by unfold maxLen; omega) (by omega) rfl fun ac ww v51 hf hnil hs=>?_
        refine zA hs fun ac hs=>?_
        refine s_end (then_n (wp_reg ?_))
        refine zM hs fun ac hs=>?_
        refine s_q hs (c_quoI (hs.ev rfl) (hs.ev rfl) (by omega) (by omega) (by omega)) rfl fun ac hs=>?_
        refine zA hs fun ac hs=>?_
        refine s_end (blk_n (then_n (wp_reg ?_)))
        refine s_q hs (c_addI (hs.ev rfl) (hs.ev rfl) (by omega) (by omega)) rfl fun ac hs=>?_
        refine zM hs fun ac hs=>?_
        refine s_end (then_n ?_)
        replace hs:=hs.pick (L':=[_,_]) (.cons _ (.refl _))
        exact ⟨lv - (k + 1),by (try simp only); omega,(k + 1,_),⟨by (try simp only); omega,rfl⟩,St.next hs ⟨(congrArg (fun z=>some (I z)) (by rw [half_pow,hqk]; omega)),rfl,rfl,rfl,rfl,rfl,rfl,trivial⟩ (by simp only [gPath_succ,List.map_append,gWay,wayN,hqk])⟩
      · try simp only [z1,z2,z3,z4,z5,z6,z7] at hc
        have hbe:((qk:Int) + 1)=((besideI qk:Nat):Int):=by unfold besideI; rw [if_neg (by omega)]; rfl
        rw [hbe] at hs
        refine wp_skip (then_n (wp_seq (wp_reg ?_)))
        refine zM hs fun ac hs=>?_
        refine zM hs fun ac hs=>?_
        refine zM hs fun ac hs=>?_
        refine s_q hs (c_idxS (j:=besideI qk) un39 ty36 (hs.ev rfl) (hs.ev rfl) (by omega) hbl) rfl fun ac hs=>?_
        refine s_q hs (c_loadA ty36 rfl (hs.ev rfl) (hs.old hrgk id) (hrtk (besideI qk) hbl) (by rw [List.length_map]; exact hwl)) rfl fun ac hs=>?_
        refine s_bslice hs un39 ty36 (.cons (hs.ev rfl) .nil) rfl (by intro v hv; simp only [List.mem_singleton] at hv; subst hv; simp [Value.cells,hwl]) (by decide) (show _=(gNode d ep ls k (besideI qk)).map B by simp [flatCells,Value.cells]) rfl fun ac ww g50 hs=>?_
        refine s_append (i:=1) hs un39 ty36 (by decide) rfl rfl rfl (Rd.of_seg (n:=1) (hs.seg (i:=0) rfl) (Nat.le_refl _) (by decide) (List.take_of_length_le (by simp))) (by rw [List.length_map,hwl]) (all_map_B _) (by unfold maxLen; omega) (by omega) rfl fun ac ww v51 hf hnil hs=>?_
        refine zA hs fun ac hs=>?_
        refine s_end (then_n (wp_reg ?_))
        refine zM hs fun ac hs=>?_
        refine s_q hs (c_quoI (hs.ev rfl) (hs.ev rfl) (by omega) (by omega) (by omega)) rfl fun ac hs=>?_
        refine zA hs fun ac hs=>?_
        refine s_end (blk_n (then_n (wp_reg ?_)))
        refine s_q hs (c_addI (hs.ev rfl) (hs.ev rfl) (by omega) (by omega)) rfl fun ac hs=>?_
        refine zM hs fun ac hs=>?_
        refine s_end (then_n ?_)
        replace hs:=hs.pick (L':=[_,_]) (.cons _ (.refl _))
        exact ⟨lv - (k + 1),by (try simp only); omega,(k + 1,_),⟨by (try simp only); omega,rfl⟩,St.next hs ⟨(congrArg (fun z=>some (I z)) (by rw [half_pow,hqk]; omega)),rfl,rfl,rfl,rfl,rfl,rfl,trivial⟩ (by simp only [gPath_succ,List.map_append,gWay,wayN,hqk])⟩
    · try simp only [z1,z2,z3,z4,z5,z6,z7] at hc
      have hkl2:k=lv:=by omega
      refine wp_exit (then_e (then_e (blk_hit (then_n (wp_seq (wp_reg ?_))))))
      refine zM hs fun ac hs=>?_
      refine zA hs fun ac hs=>?_
      refine zA hs fun ac hs=>?_
      refine s_end ?_
      replace hs:=hs.sub (F':=[(4,_),(5,_)]) ⟨rfl,rfl,trivial⟩
      refine then_n (wp_ret ?_)
      refine s_ret hs rfl (.tmp (hs.tmp rfl) (.tmp (hs.tmp rfl) .nil)) rfl ⟨_,rfl,hs.fr,?_⟩
      have hmd:=(hs.pick (L':=[_]) (.cons_cons _ (List.nil_sublist _))).made
      subst hkl2
      rw [pN,pW,lfE,if_pos hok1,if_pos hok1,if_pos hok1,Int.toNat_natCast]
      exact ⟨_,⟨_,rfl,rfl⟩,hmd⟩
end Go.Proofs.YtklajbdbnnceiaaGreat
end

section
/- What a leaf and a way rise to. -/
namespace Go.Proofs.YtklajbdbnnceiaaGreat
open Go Go.Fw
open Sha
abbrev lRise (d:Int) (ep sq:UInt32) (r:Int) (q:Nat) (l ws:List UInt8):Nat→List UInt8:=riseN (lJ d ep sq r) q l (chunk ws)
abbrev lRiseTs (d:Int) (ep sq:UInt32) (r:Int) (q:Nat) (l ws:List UInt8):Nat→List (List UInt8):=riseTs (lJ d ep sq r) q l (chunk ws)
theorem lRise_length {d:Int} {ep sq:UInt32} {r:Int} {q:Nat} {l ws:List UInt8} (hl:l.length=16) (k:Nat):(lRise d ep sq r q l ws k).length=16:=riseN_length hl k
theorem lRiseTs_length (d:Int) (ep sq:UInt32) (r:Int) (q:Nat) (l ws:List UInt8):∀ k,(lRiseTs d ep sq r q l ws k).length=k
  | 0=>rfl
  | k + 1=>by rw [lRiseTs,riseTs,List.length_append,lRiseTs_length d ep sq r q l ws k]; rfl
def riseB (d:Int) (ep sq:UInt32) (r:Int) (q:Nat) (l ws:List UInt8) (lv n:Nat):List UInt8:=if n=lv then lRise d ep sq r q l ws n else List.replicate 16 0
def riseE (lv n:Nat):Int:=if n=lv then 0 else 22
def riseX (d:Int) (ep sq:UInt32) (r:Int) (q:Nat) (l ws:List UInt8) (lv n:Nat):List (List UInt8):=if n=lv then lRiseTs d ep sq r q l ws n else []
theorem riseB_length {d:Int} {ep sq:UInt32} {r:Int} {q:Nat} {l ws:List UInt8} (hl:l.length=16) (lv n:Nat):(riseB d ep sq r q l ws lv n).length=16:=by
  unfold riseB
  split
  · exact lRise_length hl n
  · simp
def showW (d:Int) (ep sq:UInt32) (r:Int) (e:List UInt8) (q n:Nat):List UInt8:=rows (wayN (lJ d ep sq r) (lLf d ep sq r e) q) n
theorem showW_length (d:Int) (ep sq:UInt32) (r:Int) (e:List UInt8) (q n:Nat):(showW d ep sq r e q n).length=n * 16:=by
  rw [showW,rows_length (f:=wayN (lJ d ep sq r) (lLf d ep sq r e) q) (N:=n) (fun c _=>node_length (fun _=>rfl) _ _) n (Nat.le_refl _)]; omega
theorem showW_succ (d:Int) (ep sq:UInt32) (r:Int) (e:List UInt8) (q n:Nat):showW d ep sq r e q (n + 1)=showW d ep sq r e q n++wayN (lJ d ep sq r) (lLf d ep sq r e) q n:=rows_succ _ _
theorem ladder_Rise (d:Int) (ep sq:UInt32) (r:Int) (W lv q n:Nat) (l ws:List UInt8) (wv:Value) (hr:rightB r W=true) (hW:W=2 ^ lv) (hlv:lv≤3) (hxl:levels W=lv) (hqW:q < W) (hll:l.length=16) (hwl:ws.length=n * 16) (w:World) (hqw:Rd w wv n (ws.map B)):Ctr Tryz.prog 83 [.agg #[I d,U ep,U sq],I r,I W,I q,.agg (l.map B).toArray,wv] w (fun _=>False) (fun v _=>v=.tuple #[.agg ((riseB d ep sq r q l ws lv n).map B).toArray,I (riseE lv n)]):=by
  have hW8:W≤8:=by rw [hW]; exact pow8 hlv
  have hnl:=hqw.le
  obtain ⟨wad,wcap,rfl,hwc,hwm⟩:=Rd.sl hqw
  refine fn_start (N:=61) Tryz.func83 rfl rfl rfl fun ac hk=>?_
  have hs:=St.start hk w
  refine wp_seq (wp_reg ?_)
  refine s_box hs rfl rfl rfl fun ac ww g6 hs=>?_
  refine s_box hs rfl rfl rfl fun ac ww g10 hs=>?_
  refine s_alloc hs ty36 rfl fun ac ww g12 hs=>?_
  refine zA hs fun ac hs=>?_
  refine s_end ?_
  replace hs:=hs.sub (F':=[(1,_),(2,_),(3,_),(5,_),(6,_),(10,_),(12,_),(13,_)]) ⟨rfl,rfl,rfl,rfl,rfl,rfl,rfl,rfl,trivial⟩
  refine then_n (wp_seq (wp_block (wp_seq (wp_reg ?_))))
  refine zM hs fun ac hs=>?_
  refine zM hs fun ac hs=>?_
  refine s_call hs fu114 (.cons (hs.ev rfl) (.cons (hs.ev rfl) .nil)) (ladder_right r W _) rfl fun ac ww v19 hf hp hs=>?_
  obtain rfl:=hp
  replace hs:=hs [] (.nil _ _)
  refine s_q hs (c_ff (c_not (hs.ev rfl)) (by rw [hr]; rfl)) rfl fun ac hs=>?_
  refine zM hs fun ac hs=>?_
  refine s_yes hs rfl rfl ?_
  refine zM hs fun ac hs=>?_
  refine s_yes hs rfl rfl ?_
  refine s_q hs (c_ff (c_lssI (hs.ev rfl) (hs.ev rfl)) (by simp; try omega)) rfl fun ac hs=>?_
  refine s_q hs (c_pick (hs.ev rfl) (hs.ev rfl) (hs.ev rfl)) rfl fun ac hs=>?_
  refine zM hs fun ac hs=>?_
  refine s_yes hs rfl rfl ?_
  refine zM hs fun ac hs=>?_
  refine s_yes hs rfl rfl ?_
  refine zM hs fun ac hs=>?_
  refine s_yes hs rfl rfl ?_
  refine s_q hs (c_ff (c_geqI (hs.ev rfl) (hs.ev rfl)) (by simp; try omega)) rfl fun ac hs=>?_
  refine s_q hs (c_pick (hs.ev rfl) (hs.ev rfl) (hs.ev rfl)) rfl fun ac hs=>?_
  refine zA hs fun ac hs=>?_
  refine s_end ?_
  replace hs:=hs.sub (F':=[(1,_),(2,_),(3,_),(5,_),(6,_),(10,_),(12,_),(13,_),(16,_)]) ⟨rfl,rfl,rfl,rfl,rfl,rfl,rfl,rfl,rfl,trivial⟩
  refine then_n ?_
  refine wp_cond_false (hs.ev rfl) ?_
  refine wp_seq (wp_reg ?_)
  refine zM hs fun ac hs=>?_
  refine s_q hs (c_lenS un39 (hs.ev rfl)) rfl fun ac hs=>?_
  refine zM hs fun ac hs=>?_
  refine s_call hs fu101 (.cons (hs.ev rfl) .nil) ((by have h:=ladder_Levels (W:Int) ww; rw [hxl] at h; exact h)) rfl fun ac ww v35 hf hp hs=>?_
  obtain rfl:=hp
  replace hs:=hs [] (.nil _ _)
  refine s_q hs (c_neqI (hs.ev rfl) (hs.ev rfl)) rfl fun ac hs=>?_
  refine zA hs fun ac hs=>?_
  refine s_end ?_
  replace hs:=hs.sub (F':=[(1,_),(3,_),(5,_),(6,_),(10,_),(12,_),(13,_),(31,_)]) ⟨rfl,rfl,rfl,rfl,rfl,rfl,rfl,rfl,trivial⟩
  refine then_n ?_
  refine s_cond hs rfl (fun hc=>?_) (fun hc=>?_)
  · try simp only [z1,z2,z3,z4,z5,z6,z7] at hc
    have hno:¬ n=lv:=fun e=>hc (by rw [e])
    refine wp_seq (wp_reg ?_)
    refine s_q hs (c_buildA ty36 un36 ty5 (zc:=(List.replicate 16 (0:UInt8)).map B) (vs:=[]) .nil (by simp) (by simp [flatCells]) rfl) rfl fun ac hs=>?_
    refine s_storeW (i:=0) hs ty36 rfl rfl rfl (by simp) (all_map_B _) rfl fun ww hs=>?_
    refine zA hs fun ac hs=>?_
    refine s_end ?_
    replace hs:=hs.sub (F':=[(1,_),(3,_),(5,_),(6,_),(10,_),(12,_),(13,_)]) ⟨rfl,rfl,rfl,rfl,rfl,rfl,rfl,trivial⟩
    refine then_n (wp_ret (blk_r (then_r ?_)))
    refine s_ret hs rfl (.cell (hs.tmp rfl) (run_loadA ty36 rfl (hs.seg (i:=0) rfl) (List.take_of_length_le (by simp)) (by simp)) (.tmp (hs.tmp rfl) .nil)) rfl ⟨_,rfl,hs.fr,?_⟩
    show Value.tuple _=Value.tuple _
    rw [riseB,riseE,if_neg hno,if_neg hno]
    rfl
  · try simp only [z1,z2,z3,z4,z5,z6,z7] at hc
    obtain rfl:n=lv:=by omega
    refine wp_skip (blk_n (then_n (wp_seq (wp_seq (wp_reg ?_)))))
    refine zM hs fun ac hs=>?_
    refine s_q hs (c_lenS un39 (hs.ev rfl)) rfl fun ac hs=>?_
    refine zM hs fun ac hs=>?_
    refine s_end ?_
    replace hs:=hs.sub (F':=[(1,_),(3,_),(6,_),(10,_),(12,_),(13,_),(38,_),(39,_),(40,_)]) ⟨rfl,rfl,rfl,rfl,rfl,rfl,rfl,rfl,rfl,trivial⟩
    refine then_n (wp_block ?_)
    refine s_loop hs (X:=Nat) (fun k=>[(3,I (q / 2 ^ k:Nat)),(40,I k)]) [(1,_),(6,_),(10,_),(12,_),(13,_),(38,_),(39,_)] (fun k=>[_,.seg g10 ((lRise d ep sq r q l ws k).map B) 36,_]) (fun j k=>k≤n∧j=n - k) (_) (0) (⟨Nat.zero_le _,rfl⟩) ⟨(congrArg (fun z:Nat=>some (I z)) (by simp)),rfl,rfl,rfl,rfl,rfl,rfl,rfl,rfl,trivial⟩ rfl ?_
    rintro n k ac ww hok hs
    simp only [List.cons_append,List.nil_append] at hs
    obtain ⟨hk,rfl⟩:=hok
    have hrl:=lRise_length (d:=d) (ep:=ep) (sq:=sq) (r:=r) (q:=q) (ws:=ws) hll k
    obtain ⟨qk,hqk⟩:∃ qk:Nat,q / 2 ^ k=qk:=⟨_,rfl⟩
    have hqle:qk≤q:=hqk ▸ Nat.div_le_self _ _
    rw [hqk] at hs
    refine wp_seq (wp_reg ?_)
    refine s_q hs (c_lssI (hs.ev rfl) (hs.ev rfl)) rfl fun ac hs=>?_
    refine s_end (then_n (wp_seq ?_))
    refine s_cond hs rfl (fun hc=>?_) (fun hc=>?_)
    · try simp only [z1,z2,z3,z4,z5,z6,z7] at hc
      have hkn:k < n:=by omega
      have hcl:=chunk_l hwl hkn
      obtain ⟨pb,po,pT,pf,pall,rfl,hpb,hps⟩:=Rd.bytes_at hqw hwl (by omega)
      refine wp_skip (then_n (wp_seq (wp_block (wp_seq (wp_reg ?_)))))
      refine s_q hs (c_idxS (j:=k) un39 ty36 (hs.ev rfl) (hs.ev rfl) (by omega) (by omega)) rfl fun ac hs=>?_
      refine s_q hs (c_loadA ty36 rfl (hs.ev rfl) (hs.old hpb id) (rdpiece hps hwl hkn) (by rw [List.length_map,hcl])) rfl fun ac hs=>?_
      refine s_alloc hs ty36 rfl fun ac ww g15 hs=>?_
      refine s_storeW (i:=0) hs ty36 rfl rfl rfl (by rw [List.length_map,hcl]) (all_map_B _) rfl fun ww hs=>?_
      refine s_end (then_n (wp_seq (wp_seq (wp_reg ?_))))
      refine zM hs fun ac hs=>?_
      refine s_q hs (c_remI (hs.ev rfl) (hs.ev rfl) (by omega) (by omega)) rfl fun ac hs=>?_
      refine s_q hs (c_eqlI (hs.ev rfl) (hs.ev rfl)) rfl fun ac hs=>?_
      refine s_end (then_n ?_)
      refine s_cond hs rfl (fun hc=>?_) (fun hc=>?_)
      · try simp only [z1,z2,z3,z4,z5,z6,z7] at hc
        have hstep:lRise d ep sq r q l ws (k + 1)=ofT (joinX d ep sq r (lRise d ep sq r q l ws k) (chunk ws k)):=by rw [lRise,riseN,stepX,hqk,if_neg (by omega)]; rfl
        refine wp_reg ?_
        refine s_q hs (c_loadW ty165 ag165 (hs.ev rfl) (hs.seg (i:=3) rfl) (by rfl)) rfl fun ac hs=>?_
        refine zM hs fun ac hs=>?_
        refine s_q hs (c_loadW ty36 rfl (hs.ev rfl) (hs.seg (i:=2) rfl) (by rw [List.length_map,hrl])) rfl fun ac hs=>?_
        refine s_q hs (c_loadW ty36 rfl (hs.ev rfl) (hs.seg (i:=0) rfl) (by rw [List.length_map,hcl])) rfl fun ac hs=>?_
        refine s_call hs fu117 (.cons (hs.ev rfl) (.cons (hs.ev rfl) (.cons (hs.ev rfl) (.cons (hs.ev rfl) .nil)))) (ladder_Join d ep sq r (lRise d ep sq r q l ws k) (chunk ws k) hrl hcl _) rfl fun ac ww v51 hf hp hs=>?_
        obtain rfl:=hp
        replace hs:=hs [] (.nil _ _)
        refine s_storeW (i:=2) hs ty36 rfl rfl rfl (by simp) (all_map_B _) (by rw [List.length_map,hrl]) fun ww hs=>?_
        refine s_end (then_n (wp_reg ?_))
        refine zM hs fun ac hs=>?_
        refine s_q hs (c_quoI (hs.ev rfl) (hs.ev rfl) (by omega) (by omega) (by omega)) rfl fun ac hs=>?_
        refine zA hs fun ac hs=>?_
        refine s_end (blk_n (then_n (wp_reg ?_)))
        refine s_q hs (c_addI (hs.ev rfl) (hs.ev rfl) (by omega) (by omega)) rfl fun ac hs=>?_
        refine zM hs fun ac hs=>?_
        refine s_end (then_n ?_)
        replace hs:=hs.pick (L':=[_,_,_]) (.cons _ (.refl _))
        exact ⟨n - (k + 1),by omega,k + 1,⟨by omega,rfl⟩,St.next hs ⟨(congrArg (fun z=>some (I z)) (by rw [half_pow,hqk]; omega)),rfl,rfl,rfl,rfl,rfl,rfl,rfl,rfl,trivial⟩ (by rw [hstep]; try rfl)⟩
      · try simp only [z1,z2,z3,z4,z5,z6,z7] at hc
        have hstep:lRise d ep sq r q l ws (k + 1)=ofT (joinX d ep sq r (chunk ws k) (lRise d ep sq r q l ws k)):=by rw [lRise,riseN,stepX,hqk,if_pos (by omega)]; rfl
        refine wp_reg ?_
        refine s_q hs (c_loadW ty165 ag165 (hs.ev rfl) (hs.seg (i:=3) rfl) (by rfl)) rfl fun ac hs=>?_
        refine zM hs fun ac hs=>?_
        refine s_q hs (c_loadW ty36 rfl (hs.ev rfl) (hs.seg (i:=0) rfl) (by rw [List.length_map,hcl])) rfl fun ac hs=>?_
        refine s_q hs (c_loadW ty36 rfl (hs.ev rfl) (hs.seg (i:=2) rfl) (by rw [List.length_map,hrl])) rfl fun ac hs=>?_
        refine s_call hs fu117 (.cons (hs.ev rfl) (.cons (hs.ev rfl) (.cons (hs.ev rfl) (.cons (hs.ev rfl) .nil)))) (ladder_Join d ep sq r (chunk ws k) (lRise d ep sq r q l ws k) hcl hrl _) rfl fun ac ww v56 hf hp hs=>?_
        obtain rfl:=hp
        replace hs:=hs [] (.nil _ _)
        refine s_storeW (i:=2) hs ty36 rfl rfl rfl (by simp) (all_map_B _) (by rw [List.length_map,hrl]) fun ww hs=>?_
        refine s_end (then_n (wp_reg ?_))
        refine zM hs fun ac hs=>?_
        refine s_q hs (c_quoI (hs.ev rfl) (hs.ev rfl) (by omega) (by omega) (by omega)) rfl fun ac hs=>?_
        refine zA hs fun ac hs=>?_
        refine s_end (blk_n (then_n (wp_reg ?_)))
        refine s_q hs (c_addI (hs.ev rfl) (hs.ev rfl) (by omega) (by omega)) rfl fun ac hs=>?_
        refine zM hs fun ac hs=>?_
        refine s_end (then_n ?_)
        replace hs:=hs.pick (L':=[_,_,_]) (.cons _ (.refl _))
        exact ⟨n - (k + 1),by omega,k + 1,⟨by omega,rfl⟩,St.next hs ⟨(congrArg (fun z=>some (I z)) (by rw [half_pow,hqk]; omega)),rfl,rfl,rfl,rfl,rfl,rfl,rfl,rfl,trivial⟩ (by rw [hstep]; try rfl)⟩
    · try simp only [z1,z2,z3,z4,z5,z6,z7] at hc
      obtain rfl:n=k:=by omega
      refine wp_exit (then_e (then_e (blk_hit (then_n (wp_seq (wp_reg ?_))))))
      refine s_q hs (c_loadW ty36 rfl (hs.ev rfl) (hs.seg (i:=1) rfl) (by rw [List.length_map,hrl])) rfl fun ac hs=>?_
      refine s_storeW (i:=0) hs ty36 rfl rfl rfl (by rw [List.length_map,hrl]) (all_map_B _) rfl fun ww hs=>?_
      refine zA hs fun ac hs=>?_
      refine s_end ?_
      replace hs:=hs.sub (F':=[(12,_),(13,_)]) ⟨rfl,rfl,trivial⟩
      refine then_n (wp_ret ?_)
      refine s_ret hs rfl (.cell (hs.tmp rfl) (run_loadA ty36 rfl (hs.seg (i:=0) rfl) (List.take_of_length_le (show (List.map B (lRise d ep sq r q l ws n)).length≤16 by rw [List.length_map,hrl]; exact Nat.le_refl _)) (show (List.map B (lRise d ep sq r q l ws n)).length=16 by rw [List.length_map,hrl])) (.tmp (hs.tmp rfl) .nil)) rfl ⟨_,rfl,hs.fr,?_⟩
      show Value.tuple _=Value.tuple _
      rw [riseB,riseE,if_pos rfl,if_pos rfl]
      rfl
end Go.Proofs.YtklajbdbnnceiaaGreat
end

section
/- What a leaf and a way rise to,as the document has it. -/
namespace Go.Proofs.YtklajbdbnnceiaaGreat
open Go Go.Fw
open Sha
theorem ref06_Rise (d:Int) (ep sq:UInt32) (r:Int) (W lv q n:Nat) (l ws:List UInt8) (wv:Value) (hr:rightB r W=true) (hW:W=2 ^ lv) (hlv:lv≤3) (hxl:levels W=lv) (hqW:q < W) (hll:l.length=16) (hwl:ws.length=n * 16) (hn6:n≤1000000) (w:World) (hqw:Rd w wv n (ws.map B)):Ctr Tryz.prog 90 [.agg #[I d,U ep,U sq],I r,I W,I q,.agg (l.map B).toArray,wv] w (fun _=>False) (outE (tup3E (.agg ((riseB d ep sq r q l ws lv n).map B).toArray) (I (riseE lv n)) (textsE 177 5 (riseX d ep sq r q l ws lv n))) w):=by
  have hW8:W≤8:=by rw [hW]; exact pow8 hlv
  have hnl:=hqw.le
  obtain ⟨wad,wcap,rfl,hwc,hwm⟩:=Rd.sl hqw
  refine fn_start (N:=73) Tryz.func90 rfl rfl rfl fun ac hk=>?_
  have hs:=St.start hk w
  refine wp_seq (wp_reg ?_)
  refine s_box hs rfl rfl rfl fun ac ww g6 hs=>?_
  refine s_box hs rfl rfl rfl fun ac ww g10 hs=>?_
  refine s_alloc hs ty35 rfl fun ac ww g12 hs=>?_
  refine zA hs fun ac hs=>?_
  refine zA hs fun ac hs=>?_
  refine s_end ?_
  replace hs:=hs.sub (F':=[(1,_),(2,_),(3,_),(5,_),(6,_),(10,_),(12,_),(13,_),(14,_)]) ⟨rfl,rfl,rfl,rfl,rfl,rfl,rfl,rfl,rfl,trivial⟩
  refine then_n (wp_seq (wp_seq (wp_reg ?_)))
  refine zM hs fun ac hs=>?_
  refine zM hs fun ac hs=>?_
  refine s_call hs fu116 (.cons (hs.ev rfl) (.cons (hs.ev rfl) .nil)) (ref06_Right r W _) rfl fun ac ww v20 hf hp hs=>?_
  obtain rfl:=hp
  replace hs:=hs [] (.nil _ _)
  refine s_q hs (c_ff (c_not (hs.ev rfl)) (by rw [hr]; rfl)) rfl fun ac hs=>?_
  refine zM hs fun ac hs=>?_
  refine s_yes hs rfl rfl ?_
  refine zM hs fun ac hs=>?_
  refine s_yes hs rfl rfl ?_
  refine s_q hs (c_ff (c_lssI (hs.ev rfl) (hs.ev rfl)) (by simp; try omega)) rfl fun ac hs=>?_
  refine s_q hs (c_pick (hs.ev rfl) (hs.ev rfl) (hs.ev rfl)) rfl fun ac hs=>?_
  refine zM hs fun ac hs=>?_
  refine s_yes hs rfl rfl ?_
  refine zM hs fun ac hs=>?_
  refine s_yes hs rfl rfl ?_
  refine zM hs fun ac hs=>?_
  refine s_yes hs rfl rfl ?_
  refine s_q hs (c_ff (c_geqI (hs.ev rfl) (hs.ev rfl)) (by simp; try omega)) rfl fun ac hs=>?_
  refine s_q hs (c_pick (hs.ev rfl) (hs.ev rfl) (hs.ev rfl)) rfl fun ac hs=>?_
  refine s_end ?_
  replace hs:=hs.sub (F':=[(1,_),(2,_),(3,_),(5,_),(6,_),(10,_),(12,_),(13,_),(14,_),(30,_)]) ⟨rfl,rfl,rfl,rfl,rfl,rfl,rfl,rfl,rfl,rfl,trivial⟩
  refine then_n ?_
  refine wp_cond_false (hs.ev rfl) ?_
  refine wp_skip (then_n (wp_seq (wp_seq (wp_reg ?_))))
  refine zM hs fun ac hs=>?_
  refine s_q hs (c_lenS un47 (hs.ev rfl)) rfl fun ac hs=>?_
  refine zM hs fun ac hs=>?_
  refine s_call hs fu88 (.cons (hs.ev rfl) .nil) ((by have h:=ref06_Levels (W:Int) ww; rw [hxl] at h; exact h)) rfl fun ac ww v35 hf hp hs=>?_
  obtain rfl:=hp
  replace hs:=hs [] (.nil _ _)
  refine s_q hs (c_neqI (hs.ev rfl) (hs.ev rfl)) rfl fun ac hs=>?_
  refine s_end ?_
  replace hs:=hs.sub (F':=[(1,_),(3,_),(5,_),(6,_),(10,_),(12,_),(13,_),(14,_),(36,_)]) ⟨rfl,rfl,rfl,rfl,rfl,rfl,rfl,rfl,rfl,trivial⟩
  refine then_n ?_
  refine s_cond hs rfl (fun hc=>?_) (fun hc=>?_)
  · try simp only [z1,z2,z3,z4,z5,z6,z7] at hc
    have hno:¬ n=lv:=fun e=>hc (by rw [e])
    replace hs:=hs.texts0 177 (Ent.part 5)
    refine wp_seq (wp_reg ?_)
    refine s_q hs (c_buildA ty35 un35 ty5 (zc:=(List.replicate 16 (0:UInt8)).map B) (vs:=[]) .nil (by simp) (by simp [flatCells]) rfl) rfl fun ac hs=>?_
    refine s_storeW (i:=1) hs ty35 rfl rfl rfl (by simp) (all_map_B _) rfl fun ww hs=>?_
    refine zA hs fun ac hs=>?_
    refine zA hs fun ac hs=>?_
    refine s_end ?_
    replace hs:=hs.sub (F':=[(1,_),(3,_),(5,_),(6,_),(10,_),(12,_),(13,_),(14,_)]) ⟨rfl,rfl,rfl,rfl,rfl,rfl,rfl,rfl,trivial⟩
    refine then_n (wp_ret (then_r ?_))
    refine s_ret hs rfl (.cell (hs.tmp rfl) (run_loadA ty35 rfl (hs.seg (i:=1) rfl) (List.take_of_length_le (by simp)) (by simp)) (.tmp (hs.tmp rfl) (.tmp (hs.tmp rfl) .nil))) rfl ⟨_,rfl,hs.fr,?_⟩
    rw [riseB,riseE,riseX,if_neg hno,if_neg hno,if_neg hno]
    exact ⟨_,⟨_,rfl,[],rfl,rfl⟩,(hs.pick (L':=[_]) (.cons_cons _ (List.nil_sublist _))).made⟩
  · try simp only [z1,z2,z3,z4,z5,z6,z7] at hc
    obtain rfl:n=lv:=by omega
    refine wp_skip (then_n (wp_seq (wp_reg ?_)))
    refine zA hs fun ac hs=>?_
    refine s_end ?_
    replace hs:=hs.texts0 177 (Ent.part 5)
    replace hs:=hs.sub (F':=[(1,_),(3,_),(5,_),(6,_),(10,_),(12,_),(13,_),(14,_),(15,_)]) ⟨rfl,rfl,rfl,rfl,rfl,rfl,rfl,rfl,rfl,trivial⟩
    refine then_n (wp_seq (wp_seq (wp_reg ?_)))
    refine zA hs fun ac hs=>?_
    refine s_end (then_n (wp_block ?_))
    refine s_loop hs (X:=Nat × Value × List (Value × List UInt8)) (fun x=>[(3,I (q / 2 ^ x.1:Nat)),(15,x.2.1),(16,I x.1)]) [(1,_),(5,_),(6,_),(10,_),(12,_),(13,_),(14,_)] (fun x=>[.texts 177 (Ent.part 5) x.2.1 x.2.2,_,.seg g10 ((lRise d ep sq r q l ws x.1).map B) 35,_]) (fun j x=>x.1≤n∧j=n - x.1∧x.2.2.map (·.2)=lRiseTs d ep sq r q l ws x.1) (_) ((0,_,[])) (⟨Nat.zero_le _,rfl,rfl⟩) ⟨(congrArg (fun z:Nat=>some (I z)) (by simp)),rfl,rfl,rfl,rfl,rfl,rfl,rfl,rfl,rfl,trivial⟩ rfl ?_
    rintro n ⟨k,v,ps⟩ ac ww hok hs
    simp only [List.cons_append,List.nil_append] at hs
    obtain ⟨hk,rfl,hps⟩:=hok
    simp only at hk hps hs
    have hpl:ps.length=k:=by have:=congrArg List.length hps; rwa [List.length_map,lRiseTs_length] at this
    have hrl:=lRise_length (d:=d) (ep:=ep) (sq:=sq) (r:=r) (q:=q) (ws:=ws) hll k
    obtain ⟨qk,hqk⟩:∃ qk:Nat,q / 2 ^ k=qk:=⟨_,rfl⟩
    have hqle:qk≤q:=hqk ▸ Nat.div_le_self _ _
    rw [hqk] at hs
    refine wp_seq (wp_seq (wp_reg ?_))
    refine zM hs fun ac hs=>?_
    refine zM hs fun ac hs=>?_
    refine s_q hs (c_lenS un47 (hs.ev rfl)) rfl fun ac hs=>?_
    refine s_q hs (c_lssI (hs.ev rfl) (hs.ev rfl)) rfl fun ac hs=>?_
    refine s_end (then_n ?_)
    refine s_cond hs rfl (fun hc=>?_) (fun hc=>?_)
    · try simp only [z1,z2,z3,z4,z5,z6,z7] at hc
      have hkn:k < n:=by omega
      have hcl:=chunk_l hwl hkn
      obtain ⟨pb,po,pT,pf,pall,rfl,hpb,hps2⟩:=Rd.bytes_at hqw hwl (by omega)
      refine wp_skip (then_n (wp_seq (wp_block (wp_seq ?_))))
      refine wp_region_rg pmix 7 (by kernel_rfl) rfl hs ?_
      simp only [List.take_succ_cons,List.take_zero]
      refine rg_q (fun ac ww h=>c_loadW ty157 ag157 (h.ev rfl) (h.blk (hs.seg (i:=3) rfl)) (by rfl)) rfl ?_
      refine rg_q (fun ac ww h=>c_move (h.ev rfl)) rfl ?_
      refine rg_q (fun ac ww h=>c_loadW ty35 rfl (h.ev rfl) (h.blk (hs.seg (i:=2) rfl)) (by rw [List.length_map,hrl])) rfl ?_
      refine rg_q (fun ac ww h=>c_move (h.ev rfl)) rfl ?_
      refine rg_q (fun ac ww h=>c_move (h.ev rfl)) rfl ?_
      refine rg_q (fun ac ww h=>c_idxS (j:=k) un47 ty35 (h.ev rfl) (h.ev rfl) (by omega) (by omega)) rfl ?_
      refine rg_q (fun ac ww h=>c_loadA ty35 rfl (h.ev rfl) (h.blk (hs.old hpb id)) (rdpiece hps2 hwl hkn) (by rw [List.length_map,hcl])) rfl ?_
      refine rg_nil fun ac ww L' hf hfe hs=>?_
      simp only [List.drop_succ_cons,List.drop_zero]
      obtain rfl:L'=[]:=hfe
      replace hs:=hs.toL (List.nil_append _)
      refine s_call hs fu122 (.cons (hs.ev rfl) (.cons (hs.ev rfl) (.cons (hs.ev rfl) (.cons (hs.ev rfl) .nil)))) (ref06_JoinText d ep sq r (lRise d ep sq r q l ws k) (chunk ws k) hrl hcl _) rfl fun ac ww v51 hf hp hs=>?_
      obtain ⟨L',hv,hh⟩:=hp
      subst hv
      replace hs:=hs _ hh
      obtain ⟨qad,qcap,rfl,_,_⟩:=Rd.sl (RdB.row (hs.get (i:=0) rfl))
      refine zA hs fun ac hs=>?_
      refine s_end (then_n (wp_seq (wp_seq (wp_reg ?_))))
      refine zM hs fun ac hs=>?_
      refine s_q hs (c_remI (hs.ev rfl) (hs.ev rfl) (by omega) (by omega)) rfl fun ac hs=>?_
      refine s_q hs (c_eqlI (hs.ev rfl) (hs.ev rfl)) rfl fun ac hs=>?_
      refine s_end (then_n ?_)
      refine s_cond hs rfl (fun hc=>?_) (fun hc=>?_)
      · try simp only [z1,z2,z3,z4,z5,z6,z7] at hc
        refine wp_region_rg pmix 7 (by kernel_rfl) rfl hs ?_
        simp only [List.take_succ_cons,List.take_zero]
        refine rg_q (fun ac ww h=>c_loadW ty157 ag157 (h.ev rfl) (h.blk (hs.seg (i:=4) rfl)) (by rfl)) rfl ?_
        refine rg_q (fun ac ww h=>c_move (h.ev rfl)) rfl ?_
        refine rg_q (fun ac ww h=>c_move (h.ev rfl)) rfl ?_
        refine rg_q (fun ac ww h=>c_move (h.ev rfl)) rfl ?_
        refine rg_q (fun ac ww h=>c_idxS (j:=k) un47 ty35 (h.ev rfl) (h.ev rfl) (by omega) (by omega)) rfl ?_
        refine rg_q (fun ac ww h=>c_loadA ty35 rfl (h.ev rfl) (h.blk (hs.old hpb id)) (rdpiece hps2 hwl hkn) (by rw [List.length_map,hcl])) rfl ?_
        refine rg_q (fun ac ww h=>c_loadW ty35 rfl (h.ev rfl) (h.blk (hs.seg (i:=3) rfl)) (by rw [List.length_map,hrl])) rfl ?_
        refine rg_nil fun ac ww L' hf hfe hs=>?_
        simp only [List.drop_succ_cons,List.drop_zero]
        obtain rfl:L'=[]:=hfe
        replace hs:=hs.toL (List.nil_append _)
        refine s_call hs fu122 (.cons (hs.ev rfl) (.cons (hs.ev rfl) (.cons (hs.ev rfl) (.cons (hs.ev rfl) .nil)))) (ref06_JoinText d ep sq r (chunk ws k) (lRise d ep sq r q l ws k) hcl hrl _) rfl fun ac ww v62 hf hp hs=>?_
        obtain ⟨L',hv,hh⟩:=hp
        subst hv
        replace hs:=hs _ hh
        obtain ⟨qad,qcap,rfl,_,_⟩:=Rd.sl (RdB.row (hs.get (i:=0) rfl))
        refine zA hs fun ac hs=>?_
        refine s_end ?_
        obtain ⟨body,hbody,hbl⟩:∃ body,stepX (lJ d ep sq r) k qk (lRise d ep sq r q l ws k) (chunk ws k)=74::body∧body.length≤100:=⟨_,by rw [stepX,if_pos (by omega)]; rfl,by simp [hrl,hcl]⟩
        have hst:stepX (lJ d ep sq r) k qk (lRise d ep sq r q l ws k) (chunk ws k)=joinX d ep sq r (chunk ws k) (lRise d ep sq r q l ws k):=by rw [stepX,if_pos (by omega)]; rfl
        rw [← hst] at hs
        replace hs:=hs.pick (L':=[_,_,_,_,_]) (.cons_cons _ (.cons _ (.refl _)))
        refine then_n (wp_seq (wp_reg ?_))
        refine zM hs fun ac hs=>?_
        refine zM hs fun ac hs=>?_
        refine s_bslice hs un87 ty177 (.cons (hs.ev rfl) .nil) rfl (by simp [Value.cells]) (by decide) rfl rfl fun ac ww g65 hs=>?_
        refine s_appT (i:=2) (j:=1) hs un87 ty177 rfl rfl rfl rfl rfl (hs.seg (i:=0) rfl) rfl (by omega) rfl fun ac ww v66 hs=>?_
        refine zA hs fun ac hs=>?_
        refine s_end (then_n (wp_seq (wp_reg ?_)))
        refine zM hs fun ac hs=>?_
        refine s_call hs fu86 (.cons (hs.ev rfl) .nil) (ref06_Of 74 body _ (by omega) _ (hbody ▸ ((RdP.texts (hs.get (i:=2) rfl)).2 (_,stepX (lJ d ep sq r) k qk (lRise d ep sq r q l ws k) (chunk ws k)) (by simp)))) rfl fun ac ww v68 hf hp hs=>?_
        obtain rfl:=hp
        replace hs:=hs [] (.nil _ _)
        have hof:short 74 body=ofT (stepX (lJ d ep sq r) k qk (lRise d ep sq r q l ws k) (chunk ws k)):=by rw [hbody]; rfl
        rw [hof] at hs
        have hfin:lRise d ep sq r q l ws (k + 1)=ofT (stepX (lJ d ep sq r) k qk (lRise d ep sq r q l ws k) (chunk ws k)):=by rw [lRise,riseN,hqk]
        refine s_storeW (i:=4) hs ty35 rfl rfl rfl (by simp) (all_map_B _) (by rw [List.length_map,hrl]) fun ww hs=>?_
        refine s_end (then_n (wp_reg ?_))
        refine zM hs fun ac hs=>?_
        refine s_q hs (c_quoI (hs.ev rfl) (hs.ev rfl) (by omega) (by omega) (by omega)) rfl fun ac hs=>?_
        refine zA hs fun ac hs=>?_
        refine s_end (blk_n (then_n (wp_reg ?_)))
        refine zM hs fun ac hs=>?_
        refine s_q hs (c_addI (hs.ev rfl) (hs.ev rfl) (by omega) (by omega)) rfl fun ac hs=>?_
        refine zA hs fun ac hs=>?_
        refine s_end (then_n ?_)
        replace hs:=hs.pick (L':=[_,_,_,_]) (.cons _ (.cons _ (.refl _)))
        exact ⟨n - (k + 1),by (try simp only); omega,(k + 1,_,ps++[(.slice qad (stepX (lJ d ep sq r) k qk (lRise d ep sq r q l ws k) (chunk ws k)).length qcap,stepX (lJ d ep sq r) k qk (lRise d ep sq r q l ws k) (chunk ws k))]),⟨by (try simp only); omega,rfl,by simp only [List.map_append]; rw [hps]; simp only [lRiseTs,riseTs,hqk]; rfl⟩,St.next hs ⟨(congrArg (fun z=>some (I z)) (by rw [half_pow,hqk]; omega)),rfl,rfl,rfl,rfl,rfl,rfl,rfl,rfl,rfl,trivial⟩ (by rw [hfin]; try rfl)⟩
      · try simp only [z1,z2,z3,z4,z5,z6,z7] at hc
        obtain ⟨body,hbody,hbl⟩:∃ body,stepX (lJ d ep sq r) k qk (lRise d ep sq r q l ws k) (chunk ws k)=74::body∧body.length≤100:=⟨_,by rw [stepX,if_neg (by omega)]; rfl,by simp [hrl,hcl]⟩
        have hst:stepX (lJ d ep sq r) k qk (lRise d ep sq r q l ws k) (chunk ws k)=joinX d ep sq r (lRise d ep sq r q l ws k) (chunk ws k):=by rw [stepX,if_neg (by omega)]; rfl
        rw [← hst] at hs
        refine wp_skip (then_n (wp_seq (wp_reg ?_)))
        refine zM hs fun ac hs=>?_
        refine zM hs fun ac hs=>?_
        refine s_bslice hs un87 ty177 (.cons (hs.ev rfl) .nil) rfl (by simp [Value.cells]) (by decide) rfl rfl fun ac ww g65 hs=>?_
        refine s_appT (i:=2) (j:=1) hs un87 ty177 rfl rfl rfl rfl rfl (hs.seg (i:=0) rfl) rfl (by omega) rfl fun ac ww v66 hs=>?_
        refine zA hs fun ac hs=>?_
        refine s_end (then_n (wp_seq (wp_reg ?_)))
        refine zM hs fun ac hs=>?_
        refine s_call hs fu86 (.cons (hs.ev rfl) .nil) (ref06_Of 74 body _ (by omega) _ (hbody ▸ ((RdP.texts (hs.get (i:=2) rfl)).2 (_,stepX (lJ d ep sq r) k qk (lRise d ep sq r q l ws k) (chunk ws k)) (by simp)))) rfl fun ac ww v68 hf hp hs=>?_
        obtain rfl:=hp
        replace hs:=hs [] (.nil _ _)
        have hof:short 74 body=ofT (stepX (lJ d ep sq r) k qk (lRise d ep sq r q l ws k) (chunk ws k)):=by rw [hbody]; rfl
        rw [hof] at hs
        have hfin:lRise d ep sq r q l ws (k + 1)=ofT (stepX (lJ d ep sq r) k qk (lRise d ep sq r q l ws k) (chunk ws k)):=by rw [lRise,riseN,hqk]
        refine s_storeW (i:=4) hs ty35 rfl rfl rfl (by simp) (all_map_B _) (by rw [List.length_map,hrl]) fun ww hs=>?_
        refine s_end (then_n (wp_reg ?_))
        refine zM hs fun ac hs=>?_
        refine s_q hs (c_quoI (hs.ev rfl) (hs.ev rfl) (by omega) (by omega) (by omega)) rfl fun ac hs=>?_
        refine zA hs fun ac hs=>?_
        refine s_end (blk_n (then_n (wp_reg ?_)))
        refine zM hs fun ac hs=>?_
        refine s_q hs (c_addI (hs.ev rfl) (hs.ev rfl) (by omega) (by omega)) rfl fun ac hs=>?_
        refine zA hs fun ac hs=>?_
        refine s_end (then_n ?_)
        replace hs:=hs.pick (L':=[_,_,_,_]) (.cons _ (.cons _ (.refl _)))
        exact ⟨n - (k + 1),by (try simp only); omega,(k + 1,_,ps++[(.slice qad (stepX (lJ d ep sq r) k qk (lRise d ep sq r q l ws k) (chunk ws k)).length qcap,stepX (lJ d ep sq r) k qk (lRise d ep sq r q l ws k) (chunk ws k))]),⟨by (try simp only); omega,rfl,by simp only [List.map_append]; rw [hps]; simp only [lRiseTs,riseTs,hqk]; rfl⟩,St.next hs ⟨(congrArg (fun z=>some (I z)) (by rw [half_pow,hqk]; omega)),rfl,rfl,rfl,rfl,rfl,rfl,rfl,rfl,rfl,trivial⟩ (by rw [hfin]; try rfl)⟩
    · try simp only [z1,z2,z3,z4,z5,z6,z7] at hc
      obtain rfl:n=k:=by omega
      refine wp_exit (then_e (then_e (blk_hit (then_n (wp_seq (wp_reg ?_))))))
      refine s_q hs (c_loadW ty35 rfl (hs.ev rfl) (hs.seg (i:=2) rfl) (by rw [List.length_map,hrl])) rfl fun ac hs=>?_
      refine zM hs fun ac hs=>?_
      refine s_storeW (i:=1) hs ty35 rfl rfl rfl (by rw [List.length_map,hrl]) (all_map_B _) rfl fun ww hs=>?_
      refine zA hs fun ac hs=>?_
      refine zA hs fun ac hs=>?_
      refine s_end ?_
      replace hs:=hs.sub (F':=[(12,_),(13,_),(14,_)]) ⟨rfl,rfl,rfl,trivial⟩
      refine then_n (wp_ret ?_)
      refine s_ret hs rfl (.cell (hs.tmp rfl) (run_loadA ty35 rfl (hs.seg (i:=1) rfl) (List.take_of_length_le (show (List.map B (lRise d ep sq r q l ws n)).length≤16 by rw [List.length_map,hrl]; exact Nat.le_refl _)) (show (List.map B (lRise d ep sq r q l ws n)).length=16 by rw [List.length_map,hrl])) (.tmp (hs.tmp rfl) (.tmp (hs.tmp rfl) .nil))) rfl ⟨_,rfl,hs.fr,?_⟩
      rw [riseB,riseE,riseX,if_pos rfl,if_pos rfl,if_pos rfl]
      exact ⟨_,⟨_,rfl,ps,hps,rfl⟩,(hs.pick (L':=[_]) (.cons_cons _ (List.nil_sublist _))).made⟩
end Go.Proofs.YtklajbdbnnceiaaGreat
end

section
/- Why whatever rises is what a node shows,or two unlike texts have one short sum. -/
namespace Go.Proofs.YtklajbdbnnceiaaGreat
open Go Go.Fw
open Sha
theorem way_chunk (d:Int) (ep sq:UInt32) (r:Int) (e:List UInt8) (q n k:Nat) (h:k < n):chunk (showW d ep sq r e q n) k=wayN (lJ d ep sq r) (lLf d ep sq r e) q k:=by
  have:=rows_chunk (f:=wayN (lJ d ep sq r) (lLf d ep sq r e) q) (N:=n) (fun c _=>node_length (fun _=>rfl) _ _) n (Nat.le_refl _) k h
  exact this
theorem rise_congr {J:Nat→List UInt8→List UInt8→List UInt8} {id:Nat} {l:List UInt8} {w1 w2:Nat→List UInt8}:∀ n,(∀ k,k < n→w1 k=w2 k)→riseN J id l w1 n=riseN J id l w2 n
  | 0,_=>rfl
  | n + 1,h=>by rw [riseN,riseN,rise_congr n (fun k hk=>h k (by omega)),h n (by omega)]
theorem rise_honest (d:Int) (ep sq:UInt32) (r:Int) (e:List UInt8) (q n:Nat):lRise d ep sq r q (lNode d ep sq r e 0 q) (showW d ep sq r e q n) n=lNode d ep sq r e n (q / 2 ^ n):=by
  have h1:=rise_node (J:=lJ d ep sq r) (lf:=lLf d ep sq r e) q n
  have h2:lRise d ep sq r q (lNode d ep sq r e 0 q) (showW d ep sq r e q n) n=riseN (lJ d ep sq r) q (lLf d ep sq r e q) (wayN (lJ d ep sq r) (lLf d ep sq r e) q) n:=rise_congr n fun k hk=>way_chunk d ep sq r e q n k hk
  rw [h2,h1]
theorem ladder_sound {d:Int} {ep sq:UInt32} {r:Int} {e:List UInt8} {q lv:Nat} {l ws:List UInt8} (hl:l.length=16) (hw:ws.length=lv * 16) (hq:q < 2 ^ lv) (h:lRise d ep sq r q l ws lv=lNode d ep sq r e lv 0) (hne:¬ (l=lNode d ep sq r e 0 q∧ws=showW d ep sq r e q lv)) :
    clash (lNodeTs d ep sq r e lv 0) (lRiseTs d ep sq r q l ws lv)=true:=by
  cases hc:clash (lNodeTs d ep sq r e lv 0) (lRiseTs d ep sq r q l ws lv) with
  | true=>rfl
  | false =>
    exfalso
    have hq0:q / 2 ^ lv=0:=Nat.div_eq_of_lt hq
    have hs:=rise_sound (J:=lJ d ep sq r) (lf:=lLf d ep sq r e) (lt:=lLt d ep sq r e) (id:=q) (l:=l) (way:=chunk ws) (fun _ _ _ _ _ ha hc h=>joinX_inj ha hc h) (fun _=>rfl) hl lv (fun k hk=>chunk_l hw hk) (by rw [hq0]; exact h) (by rw [hq0]; exact fun x hx y hy e=>clash_not hc hx hy e)
    refine hne ⟨hs.1,sums_same hw (showW_length d ep sq r e q lv) fun i hi=>?_⟩
    rw [hs.2 i hi,way_chunk d ep sq r e q lv i hi]
theorem lnode_good (d:Int) (ep sq:UInt32) (r:Int) (e:List UInt8) (he:e.length=16):∀ n q,∀ t∈lNodeTs d ep sq r e n q,∃ kd tx,t=kd::tx∧tx.length≤140737488355199
  | 0,q,t,ht=>by
    simp only [lNodeTs,nodeTs,lLt,List.mem_singleton] at ht
    subst ht
    exact ⟨_,_,rfl,by simp [he]⟩
  | n + 1,q,t,ht=>by
    simp only [lNodeTs,nodeTs,List.mem_append,List.mem_singleton] at ht
    rcases ht with (ht | ht) | rfl
    · exact lnode_good d ep sq r e he n _ t ht
    · exact lnode_good d ep sq r e he n _ t ht
    · exact ⟨_,_,rfl,by have h1:(node (lJ d ep sq r) (lLf d ep sq r e) n (2 * q)).length=16:=lNode_length d ep sq r e n (2 * q); have h2:(node (lJ d ep sq r) (lLf d ep sq r e) n (2 * q + 1)).length=16:=lNode_length d ep sq r e n (2 * q + 1); rw [List.length_append,List.length_append,placeB_length]; omega⟩
theorem lrise_good (d:Int) (ep sq:UInt32) (r:Int) (q:Nat) (l ws:List UInt8) (n:Nat) (hl:l.length=16) (hw:ws.length=n * 16):∀ k,k≤n→∀ t∈lRiseTs d ep sq r q l ws k,∃ kd tx,t=kd::tx∧tx.length≤140737488355199
  | 0,_,t,ht=>by simp [lRiseTs,riseTs] at ht
  | k + 1,hk,t,ht=>by
    simp only [lRiseTs,riseTs,List.mem_append,List.mem_singleton] at ht
    rcases ht with ht | rfl
    · exact lrise_good d ep sq r q l ws n hl hw k (by omega) t ht
    · have h1:(riseN (lJ d ep sq r) q l (chunk ws) k).length=16:=riseN_length hl k
      have h2:=chunk_l hw (show k < n by omega)
      unfold stepX
      split
      · exact ⟨_,_,rfl,by rw [List.length_append,List.length_append,placeB_length]; omega⟩
      · exact ⟨_,_,rfl,by rw [List.length_append,List.length_append,placeB_length]; omega⟩
end Go.Proofs.YtklajbdbnnceiaaGreat
end

section
/- Springs: what they tell,what they are in memory. -/
namespace Go.Proofs.YtklajbdbnnceiaaGreat
open Go Go.Fw
open Sha
structure Spr where
  g:Nat
  cg:Nat
  W:Int
  S:Nat
  H:Nat
  seed:List UInt8
  d:Int
  ep:UInt32
def Spr.m (p:Spr):Nat:=2 ^ p.H
structure Spr.Ok (p:Spr):Prop where
  ne:p.g ≠ p.cg
  s16:p.S≤16
  h6:p.H≤6
  seed:p.seed.length=32
theorem Spr.Ok.m64 {p:Spr} (h:p.Ok):p.m≤64:=pow64 h.h6
def elE (p:Spr) (q:Nat):List UInt8:=prf p.seed 69 [i64 p.d,p.ep.toUInt64,i64 (q:Int)]
theorem elE_length (p:Spr) (q:Nat):(elE p q).length=16:=prf_length _ _ _
def el (p:Spr) (q n:Nat):List UInt8:=climbN p.d p.ep (i32 (q:Int)) (elE p q) 0 p.W n
theorem el_length (p:Spr) (q n:Nat):(el p q n).length=16:=climbN_length (elE_length p q) n
theorem el_succ (p:Spr) (q n:Nat):el p q (n + 1)=upB p.d p.ep (i32 (q:Int)) (n:Nat) (el p q n) p.W:=by
  show climbN p.d p.ep (i32 (q:Int)) (elE p q) 0 p.W (n + 1)=_
  rw [climbN,Int.zero_add]
  rfl
def lad (p:Spr) (q n:Nat):List UInt8:=rows (el p q) n
theorem lad_succ (p:Spr) (q n:Nat):lad p q (n + 1)=lad p q n++el p q n:=rows_succ _ _
theorem lad_length (p:Spr) (q n:Nat):(lad p q n).length=16 * n:=rows_length (N:=n) (fun j _=>el_length p q j) n (Nat.le_refl _)
theorem lad_piece (p:Spr) (q:Nat) {n k:Nat} (h:k < n):((lad p q n).drop (k * 16)).take 16=el p q k:=by
  have:=rows_chunk (f:=el p q) (N:=n) (fun j _=>el_length p q j) n (Nat.le_refl _) k h
  rw [chunk,Nat.mul_comm] at this
  exact this
def ends (p:Spr) (n:Nat):List UInt8:=rows (fun q=>el p q p.S) n
theorem ends_succ (p:Spr) (n:Nat):ends p (n + 1)=ends p n++el p n p.S:=rows_succ _ _
theorem ends_length (p:Spr) (n:Nat):(ends p n).length=16 * n:=rows_length (N:=n) (fun j _=>el_length p j p.S) n (Nat.le_refl _)
theorem ends_len (p:Spr):(ends p p.m).length=p.m * 16:=by rw [ends_length]; omega
/-! in memory -/
def sprC (p:Spr) (dn lk:Int) (tv:Value) (made:Nat):List Value :=
  [I p.W,I p.S,I p.H]++(p.seed.map B++[I p.d,U p.ep,.slice (some ⟨p.cg,0,none⟩) p.m p.m,.int .u32 dn,.int .i32 lk,U 0,tv,I made])
theorem sprC_at {p:Spr} {dn lk:Int} {tv:Value} {made:Nat} (h:p.seed.length=32) (k:Nat) :
    (sprC p dn lk tv made)[35 + k]?=[I p.d,U p.ep,.slice (some ⟨p.cg,0,none⟩) p.m p.m,.int .u32 dn,.int .i32 lk,U 0,tv,I made][k]?:=by
  rw [sprC,List.getElem?_append_right (by simp; omega),List.getElem?_append_right (by simp [h]; omega)]
  congr 1
  simp [h]
  omega
theorem sprC_seed {p:Spr} {dn lk:Int} {tv:Value} {made:Nat} (h:p.seed.length=32):((sprC p dn lk tv made).drop 3).take 32=p.seed.map B:=by
  rw [sprC,List.drop_append_of_le_length (by simp),List.drop_of_length_le (by simp),List.nil_append,List.take_append_of_le_length (by simp [h]),List.take_of_length_le (by simp [h])]
theorem sprC_length {p:Spr} {dn lk:Int} {tv:Value} {made:Nat} (h:p.seed.length=32):(sprC p dn lk tv made).length=43:=by simp [sprC,h]
theorem sprC_set {p:Spr} {dn lk:Int} {tv:Value} {made:Nat} (h:p.seed.length=32) (k:Nat) (v:Value) (hk:k < 8) :
    (sprC p dn lk tv made).set (35 + k) v=[I p.W,I p.S,I p.H]++(p.seed.map B++[I p.d,U p.ep,.slice (some ⟨p.cg,0,none⟩) p.m p.m,.int .u32 dn,.int .i32 lk,U 0,tv,I made].set k v):=by
  rw [sprC,List.set_append_right _ _ (by simp; omega),List.set_append_right _ _ (by simp [h]; omega)]
  congr 3
  simp [h]
  omega
def colsF (f:Nat→List Value) (m:Nat):List Value:=(List.range m).flatMap f
def updF {α:Type} (f:Nat→α) (q:Nat) (x:α):Nat→α:=fun k=>if k=q then x else f k
@[simp] theorem updF_same {α:Type} (f:Nat→α) (q:Nat) (x:α):updF f q x q=x:=by simp [updF]
theorem updF_updF {α:Type} (f:Nat→α) (q:Nat) (x y:α):updF (updF f q x) q y=updF f q y:=by
  funext k
  unfold updF
  split <;> rfl
theorem updF_self {α:Type} (f:Nat→α) (q:Nat):updF f q (f q)=f:=by
  funext k
  unfold updF
  split
  · rename_i h; rw [h]
  · rfl
theorem colsF_succ (f:Nat→List Value) (m:Nat):colsF f (m + 1)=colsF f m++f m:=by simp [colsF,List.range_succ]
theorem colsF_length {f:Nat→List Value} (h:∀ q,(f q).length=4):∀ m,(colsF f m).length=m * 4
  | 0=>rfl
  | m + 1=>by rw [colsF_succ,List.length_append,colsF_length h m,h]; omega
theorem colsF_at {f:Nat→List Value} (h:∀ q,(f q).length=4) {q j:Nat} (hj:j < 4):∀ m,q < m→(colsF f m)[q * 4 + j]?=(f q)[j]?
  | 0,hq=>absurd hq (by omega)
  | m + 1,hq=>by
    rw [colsF_succ]
    have hl:=colsF_length h m
    by_cases e:q=m
    · subst e
      rw [List.getElem?_append_right (by omega),hl,show q * 4 + j - q * 4=j by omega]
    · rw [List.getElem?_append_left (by omega),colsF_at h hj m (by omega)]
theorem colsF_congr {f f':Nat→List Value}:∀ m,(∀ q,q < m→f q=f' q)→colsF f m=colsF f' m
  | 0,_=>rfl
  | m + 1,h=>by rw [colsF_succ,colsF_succ,colsF_congr m (fun q hq=>h q (by omega)),h m (by omega)]
theorem colsF_set {f:Nat→List Value} (h:∀ q,(f q).length=4) {q j:Nat} (v:Value) (hj:j < 4):∀ m,q < m→(colsF f m).set (q * 4 + j) v=colsF (updF f q ((f q).set j v)) m
  | 0,hq=>absurd hq (by omega)
  | m + 1,hq=>by
    rw [colsF_succ,colsF_succ]
    have hl:=colsF_length h m
    by_cases e:q=m
    · subst e
      rw [List.set_append_right _ _ (by omega),hl,show q * 4 + j - q * 4=j by omega,updF_same]
      congr 1
      exact colsF_congr q fun k hk=>by unfold updF; rw [if_neg (by omega)]
    · rw [List.set_append_left _ _ (by omega),colsF_set h v hj m (by omega)]
      congr 1
      unfold updF
      rw [if_neg (by omega)]
theorem colsF_put {f:Nat→List Value} (h:∀ q,(f q).length=4) {q j m:Nat} (v:Value) (hj:j < 4) (hq:q < m):(colsF f m).take (0 + q * 4 + j)++[v]++(colsF f m).drop (0 + q * 4 + j + 1)=colsF (updF f q ((f q).set j v)) m:=by
  rw [← colsF_set h v hj m hq,Nat.zero_add,List.set_eq_take_append_cons_drop,if_pos (by rw [colsF_length h]; omega)]
  simp
theorem updF_len {f:Nat→List Value} (h:∀ q,(f q).length=4) {q:Nat} {x:List Value} (hx:x.length=4):∀ k,(updF f q x k).length=4:=fun k=>by
  unfold updF
  split
  · exact hx
  · exact h k
def colC:Option Value→List Value
  | some v=>[.int .u32 1,.int .i32 0,U 0,v]
  | none=>[.int .u32 0,.int .i32 0,U 0,.slice none 0 0]
theorem colC_length:∀ o,(colC o).length=4
  | some _=>rfl
  | none=>rfl
abbrev SpM (p:Spr):Nat→Prop:=fun k=>k=p.g∨k=p.cg
def Col (w:World) (p:Spr) (q:Nat) (v:Value):Prop :=
  ∃ b cap cur,v=.slice (some ⟨b,0,none⟩) (p.S + 1) cap∧w.heap[b]?=some (.cells cur 36 (0,0))∧p.S + 1≤cap∧cap≤maxLen∧cur.toList.take ((p.S + 1) * 16)=(lad p q (p.S + 1)).map B∧b ≠ p.g∧b ≠ p.cg
theorem Col.fr {w w':World} {p:Spr} {q:Nat} {v:Value} (h:Col w p q v) (hf:Fr (SpM p) w w'):Col w' p q v:=by
  obtain ⟨b,cap,cur,h1,h2,h3,h4,h5,h6,h7⟩:=h
  exact ⟨b,cap,cur,h1,(hf.block b (heap_lt h2) fun h=>h.elim h6 h7).trans h2,h3,h4,h5,h6,h7⟩
def freshV (w:World) (v:Value):Prop:=∀ k,v.ownBlock=some k→w.heap.size≤k
theorem freshV.back {w w':World} {v:Value} (h:freshV w' v) (hs:w.heap.size≤w'.heap.size):freshV w v:=fun k hk=>Nat.le_trans hs (h k hk)
theorem Col.lt {w:World} {p:Spr} {q:Nat} {v:Value} (h:Col w p q v):∀ k,v.ownBlock=some k→k < w.heap.size:=by
  obtain ⟨b,cap,cur,rfl,h2,_⟩:=h
  intro k hk
  simp only [Value.ownBlock,Option.some.injEq] at hk
  subst hk
  exact heap_lt h2
theorem Col.frk {w w':World} {p:Spr} {q:Nat} {v:Value} {M:Nat→Prop} (h:Col w p q v) (hf:Fr M w w') (hm:∀ k,v.ownBlock=some k→¬ M k):Col w' p q v:=by
  obtain ⟨b,cap,cur,h1,h2,h3,h4,h5,h6,h7⟩:=h
  exact ⟨b,cap,cur,h1,(hf.block b (heap_lt h2) (hm b (by subst h1; rfl))).trans h2,h3,h4,h5,h6,h7⟩
theorem Fr.sp0 {w w':World} (p:Spr) (h:Fr0 w w'):Fr (SpM p) w w':=h.mono fun _ _=>False.elim
def TreeAt (w:World) (p:Spr) (pv:Value):Prop :=
  ∃ g v ps,pv=.pointer (some ⟨g,0,none⟩)∧ps.map (·.2)=(List.range (p.H + 1)).map (gRow p.d p.ep (ends p p.m) p.H)∧Has 0 w (groveL p.d p.ep g v ps)∧∀ e∈groveL p.d p.ep g v ps,∀ k,e.keys k→k ≠ p.g∧k ≠ p.cg
theorem TreeAt.grove {w:World} {p:Spr} {pv:Value} (h:TreeAt w p pv):GroveAt w pv p.d p.ep (ends p p.m) p.H:=by
  obtain ⟨g,v,ps,h1,h2,h3,_⟩:=h
  exact ⟨g,v,ps,h1,h2,h3⟩
theorem TreeAt.fr {w w':World} {p:Spr} {pv:Value} (h:TreeAt w p pv) (hf:Fr (SpM p) w w'):TreeAt w' p pv:=by
  obtain ⟨g,v,ps,h1,h2,h3,h4⟩:=h
  exact ⟨g,v,ps,h1,h2,h3.same hf.size fun e he k hk=>hf.block k (h3.lt e he k hk) fun h=>h.elim (h4 e he k hk).1 (h4 e he k hk).2,h4⟩
def TreeF (w0 w:World) (p:Spr) (pv:Value):Prop :=
  ∃ g v ps,pv=.pointer (some ⟨g,0,none⟩)∧ps.map (·.2)=(List.range (p.H + 1)).map (gRow p.d p.ep (ends p p.m) p.H)∧Has 0 w (groveL p.d p.ep g v ps)∧(∀ e∈groveL p.d p.ep g v ps,∀ k,e.keys k→k ≠ p.g∧k ≠ p.cg)∧∀ e∈groveL p.d p.ep g v ps,∀ k,e.keys k→w0.heap.size≤k
theorem TreeF.at {w0 w:World} {p:Spr} {pv:Value} (h:TreeF w0 w p pv):TreeAt w p pv:=by
  obtain ⟨g,v,ps,h1,h2,h3,h4,_⟩:=h
  exact ⟨g,v,ps,h1,h2,h3,h4⟩
theorem TreeF.fr {w0 w w':World} {p:Spr} {pv:Value} (h:TreeF w0 w p pv) (hf:Fr (SpM p) w w'):TreeF w0 w' p pv:=by
  obtain ⟨g,v,ps,h1,h2,h3,h4,h5⟩:=h
  exact ⟨g,v,ps,h1,h2,h3.same hf.size fun e he k hk=>hf.block k (h3.lt e he k hk) fun h=>h.elim (h4 e he k hk).1 (h4 e he k hk).2,h4,h5⟩
theorem TreeF.frk {w0 w w':World} {p:Spr} {pv:Value} {M:Nat→Prop} (h:TreeF w0 w p pv) (hf:Fr M w w') (hM:∀ k,M k→k=p.g∨k=p.cg∨k < w0.heap.size):TreeF w0 w' p pv:=by
  obtain ⟨g,v,ps,h1,h2,h3,h4,h5⟩:=h
  exact ⟨g,v,ps,h1,h2,h3.same hf.size fun e he k hk=>hf.block k (h3.lt e he k hk) fun h=>(hM k h).elim (h4 e he k hk).1 fun h=>h.elim (h4 e he k hk).2 fun h=>by have:=h5 e he k hk; omega,h4,h5⟩
theorem TreeF.back {w0 w1 w:World} {p:Spr} {pv:Value} (h:TreeF w1 w p pv) (hs:w0.heap.size≤w1.heap.size):TreeF w0 w p pv:=by
  obtain ⟨g,v,ps,h1,h2,h3,h4,h5⟩:=h
  exact ⟨g,v,ps,h1,h2,h3,h4,fun e he k hk=>Nat.le_trans hs (h5 e he k hk)⟩
def cnt (K:Nat→Option Value) (m:Nat):Nat:=((List.range m).filter fun q=>(K q).isSome).length
theorem cnt_succ (K:Nat→Option Value) (m:Nat):cnt K (m + 1)=cnt K m + if (K m).isSome then 1 else 0:=by
  rw [cnt,cnt,List.range_succ,List.filter_append,List.length_append]
  congr 1
  simp only [List.filter_cons,List.filter_nil]
  split <;> rfl
theorem cnt_le (K:Nat→Option Value):∀ m,cnt K m≤m
  | 0=>Nat.le_refl _
  | m + 1=>by have:=cnt_le K m; rw [cnt_succ]; split <;> omega
theorem cnt_congr {K K':Nat→Option Value}:∀ m,(∀ q,q < m→(K q).isSome=(K' q).isSome)→cnt K m=cnt K' m
  | 0,_=>rfl
  | m + 1,h=>by rw [cnt_succ,cnt_succ,cnt_congr m (fun q hq=>h q (by omega)),h m (by omega)]
theorem cnt_upd {K:Nat→Option Value} {q:Nat} {v:Value} (h:K q=none):∀ m,q < m→cnt (updF K q (some v)) m=cnt K m + 1
  | 0,hq=>absurd hq (by omega)
  | m + 1,hq=>by
    rw [cnt_succ,cnt_succ]
    by_cases e:q=m
    · subst e
      rw [updF_same,h,cnt_congr (K:=updF K q (some v)) (K':=K) q fun k hk=>by unfold updF; rw [if_neg (by omega)]]
      simp
    · rw [cnt_upd h m (by omega)]
      have:updF K q (some v) m=K m:=by unfold updF; rw [if_neg (by omega)]
      rw [this]
      omega
theorem cnt_none (m:Nat):cnt (fun _=>none) m=0:=by
  induction m with
  | zero=>rfl
  | succ m ih=>rw [cnt_succ,ih]; simp
def tdn:Option Value→Int
  | some _=>1
  | none=>0
def ttv:Option Value→Value
  | some v=>v
  | none=>.pointer none
structure SpAt (w:World) (p:Spr) (lk:Int) (K:Nat→Option Value) (t:Option Value):Prop where
  hg:w.heap[p.g]?=some (.cells (sprC p (tdn t) lk (ttv t) (cnt K p.m)).toArray 149 (0,0))
  hc:w.heap[p.cg]?=some (.cells (colsF (fun q=>colC (K q)) p.m).toArray 203 (0,0))
  col:∀ q,q < p.m→∀ v,K q=some v→Col w p q v
  tree:∀ v,t=some v→TreeAt w p v∧∀ q,q < p.m→(K q).isSome=true
theorem SpAt.fr0 {w w':World} {p:Spr} {lk:Int} {K:Nat→Option Value} {t:Option Value} (h:SpAt w p lk K t) (hf:Fr0 w w'):SpAt w' p lk K t :=
  ⟨(hf.block _ (heap_lt h.hg) id).trans h.hg,(hf.block _ (heap_lt h.hc) id).trans h.hc,fun q hq v hv=>(h.col q hq v hv).fr (Fr.sp0 p hf),fun v hv=>⟨(h.tree v hv).1.fr (Fr.sp0 p hf),(h.tree v hv).2⟩⟩
theorem Col.rd {w:World} {p:Spr} {q:Nat} {v:Value} (h:Col w p q v):∃ b cap cur,v=.slice (some ⟨b,0,none⟩) (p.S + 1) cap∧w.heap[b]?=some (.cells cur 36 (0,0))∧∀ k,k≤p.S→(cur.toList.drop (0 + k * 16)).take 16=(el p q k).map B:=by
  obtain ⟨b,cap,cur,h1,h2,h3,h4,h5,h6,h7⟩:=h
  refine ⟨b,cap,cur,h1,h2,fun k hk=>?_⟩
  exact (rowpiece (i:=k) h5 (by rw [lad_length]; omega) (by omega)).trans (by rw [lad_piece p q (by omega)])
end Go.Proofs.YtklajbdbnnceiaaGreat
end

section
/- Springs: climbing. -/
namespace Go.Proofs.YtklajbdbnnceiaaGreat
open Go Go.Fw
open Sha
theorem count_addC {w:World} {g o:Nat} {cs:List Value} {T:TypeId} {k:Int} (hk:0≤k∧k < 1000000) (h:w.heap[g]?=some (.cells cs.toArray T (0,0))) (hv:cs[o]?=some (I k)) :
    Ctr Tryz.prog 133 [.pointer (some ⟨g,o,none⟩),I 1] w (fun j=>j=g) fun v w'=>w'.heap[g]?=some (.cells (cs.set o (I (k + 1))).toArray T (0,0)) :=
  Ctr.of (count_add ⟨g,o,none⟩ k hk w (cell_list h hv) (thawed h)) fun e w' ⟨he,hw⟩=>⟨_,he,by rw [hw]; exact Fr.setCell _ _ _ _,by rw [hw]; exact setCell_heap _ h⟩
theorem col_put {f:Nat→List Value} (h4:∀ k,(f k).length=4) {q m:Nat} (hq:q < m) {x0 x1 x2 v v':Value}:(colsF (updF f q [x0,x1,x2,v]) m).take (0 + q * 4 + 3)++[v']++(colsF (updF f q [x0,x1,x2,v]) m).drop (0 + q * 4 + 3 + 1)=colsF (updF f q [x0,x1,x2,v']) m:=by
  rw [colsF_put (updF_len h4 rfl) v' (by decide) hq,updF_updF,updF_same]
  rfl
theorem col_put0 {f:Nat→List Value} (h4:∀ k,(f k).length=4) {q m:Nat} (hq:q < m) {x0 x1 x2 v v':Value} (hf:f q=[x0,x1,x2,v]):(colsF f m).take (0 + q * 4 + 3)++[v']++(colsF f m).drop (0 + q * 4 + 3 + 1)=colsF (updF f q [x0,x1,x2,v']) m:=by
  rw [colsF_put h4 v' (by decide) hq,hf]
  rfl
theorem col_at {f:Nat→List Value} (h4:∀ k,(f k).length=4) {q m:Nat} (hq:q < m) {x0 x1 x2 v:Value} (hf:f q=[x0,x1,x2,v]):(colsF f m).toArray.toList[0 + q * 4 + 3]?=some v:=by
  rw [Nat.zero_add]
  exact (colsF_at h4 (by decide) m hq).trans (by rw [hf]; rfl)
theorem spring_place (p:Spr) (ho:p.Ok) (dn lk:Int) (tv:Value) (made:Nat) (q:Nat) (w:World) (hg:w.heap[p.g]?=some (.cells (sprC p dn lk tv made).toArray 149 (0,0))):Ctr Tryz.prog 132 [.pointer (some ⟨p.g,0,none⟩),I q] w (fun _=>False) (fun v _=>v=.agg #[I p.d,U p.ep,U (i32 (q:Int))]):=by
  refine fn_start (N:=16) Tryz.func132 rfl rfl rfl fun ac hk=>?_
  have hs:=St.start hk w
  refine wp_seq (wp_reg ?_)
  refine s_alloc hs ty165 rfl fun ac ww g4 hs=>?_
  refine s_end (then_n (wp_seq ?_))
  refine wp_region_rg pmix 10 (by kernel_rfl) rfl hs ?_
  simp only [List.take_succ_cons,List.take_zero]
  refine rg_q (fun ac ww h=>c_move (h.ev rfl)) rfl ?_
  refine rg_q (fun ac ww h=>c_nil (h.ev rfl)) rfl ?_
  refine rg_q (fun ac ww h=>c_fld fl149_2 (h.ev rfl)) rfl ?_
  refine rg_q (fun ac ww h=>c_loadS un3 rfl (h.ev rfl) (h.blk (hs.old hg id)) ((sprC_at ho.seed 0).trans rfl)) rfl ?_
  refine rg_q (fun ac ww h=>c_move (h.ev rfl)) rfl ?_
  refine rg_q (fun ac ww h=>c_nil (h.ev rfl)) rfl ?_
  refine rg_q (fun ac ww h=>c_fld fl149_3 (h.ev rfl)) rfl ?_
  refine rg_q (fun ac ww h=>c_loadS un25 rfl (h.ev rfl) (h.blk (hs.old hg id)) ((sprC_at ho.seed 1).trans rfl)) rfl ?_
  refine rg_q (fun ac ww h=>c_move (h.ev rfl)) rfl ?_
  refine rg_q (fun ac ww h=>c_cvIU un3 un25 (h.ev rfl)) rfl ?_
  refine rg_nil fun ac ww L' hf hfe hs=>?_
  simp only [List.drop_succ_cons,List.drop_zero]
  obtain rfl:L'=[]:=hfe
  replace hs:=hs.toL (List.nil_append _)
  refine s_q hs (c_buildS ty165 bp165 (.cons (hs.ev rfl) (.cons (hs.ev rfl) (.cons (hs.ev rfl) .nil))) ⟨rfl,rfl,rfl,trivial⟩ (by simp [flatCells,Value.cells]) rfl) rfl fun ac hs=>?_
  refine s_storeW (i:=0) hs ty165 rfl rfl rfl (by rfl) (by rfl) (by simp) fun ww hs=>?_
  refine s_end ?_
  replace hs:=hs.sub (F':=[(4,_)]) ⟨rfl,trivial⟩
  refine then_n (wp_ret ?_)
  refine s_ret hs rfl (.cell (hs.tmp rfl) (run_loadA ty165 ag165 (hs.seg (i:=0) rfl) rfl (by rfl)) .nil) rfl ⟨_,rfl,hs.fr,?_⟩
  rfl
theorem spring_climb (p:Spr) (ho:p.Ok) (q:Nat) (hq:q < p.m) (f:Nat→List Value) (hf4:∀ k,(f k).length=4) (x0 x1 x2:Value) (hfq:f q=[x0,x1,x2,.slice none 0 0]) (dn lk:Int) (tv:Value) (made:Nat) (hmd:made < 1000) (w:World) (hg:w.heap[p.g]?=some (.cells (sprC p dn lk tv made).toArray 149 (0,0))) (hc:w.heap[p.cg]?=some (.cells (colsF f p.m).toArray 203 (0,0))):Ctr Tryz.prog 104 [.pointer (some ⟨p.g,0,none⟩),I q] w (SpM p) (fun v w'=>v=.tuple #[]∧∃ cv,Col w' p q cv∧freshV w cv∧w'.heap[p.g]?=some (.cells (sprC p dn lk tv (made + 1)).toArray 149 (0,0))∧w'.heap[p.cg]?=some (.cells (colsF (updF f q [x0,x1,x2,cv]) p.m).toArray 203 (0,0))):=by
  refine fn_start (N:=78) Tryz.func104 rfl rfl rfl fun ac hk=>?_
  have hs:=St.start2 hk ho.ne hg hc
  refine wp_seq ?_
  refine wp_region_rg pmix 19 (by kernel_rfl) rfl hs ?_
  simp only [List.take_succ_cons,List.take_zero]
  refine rg_q (fun ac ww h=>c_move (h.ev rfl)) rfl ?_
  refine rg_q (fun ac ww h=>c_nil (h.ev rfl)) rfl ?_
  refine rg_q (fun ac ww h=>c_fld fl149_1 (h.ev rfl)) rfl ?_
  refine rg_q (fun ac ww h=>c_loadA ty129 rfl (h.ev rfl) (h.blk (hs.seg (i:=0) rfl)) (sprC_seed ho.seed) (by rw [List.length_map,ho.seed])) rfl ?_
  refine rg_q (fun ac ww h=>c_move (h.ev rfl)) rfl ?_
  refine rg_q (fun ac ww h=>c_nil (h.ev rfl)) rfl ?_
  refine rg_q (fun ac ww h=>c_fld fl149_2 (h.ev rfl)) rfl ?_
  refine rg_q (fun ac ww h=>c_loadS un3 rfl (h.ev rfl) (h.blk (hs.seg (i:=0) rfl)) ((sprC_at ho.seed 0).trans rfl)) rfl ?_
  refine rg_q (fun ac ww h=>c_cvIV un3 un124 (h.ev rfl)) rfl ?_
  refine rg_q (fun ac ww h=>c_move (h.ev rfl)) rfl ?_
  refine rg_q (fun ac ww h=>c_nil (h.ev rfl)) rfl ?_
  refine rg_q (fun ac ww h=>c_fld fl149_3 (h.ev rfl)) rfl ?_
  refine rg_q (fun ac ww h=>c_loadS un25 rfl (h.ev rfl) (h.blk (hs.seg (i:=0) rfl)) ((sprC_at ho.seed 1).trans rfl)) rfl ?_
  refine rg_q (fun ac ww h=>c_cvUV un25 un124 (h.ev rfl)) rfl ?_
  refine rg_q (fun ac ww h=>c_move (h.ev rfl)) rfl ?_
  refine rg_q (fun ac ww h=>c_cvIV un3 un124 (h.ev rfl)) rfl ?_
  refine rg_bslice un155 ty124 (fun ac ww h=>(.cons (h.ev rfl) (.cons (h.ev rfl) (.cons (h.ev rfl) .nil)))) rfl (by simp [Value.cells]) (by decide) rfl rfl ?_
  refine rg_callV (c:=.agg ((elE p q).map B).toArray) fu131 (fun ac ww h=>?_) rfl ?_
  · obtain ⟨u23,L23,he23,hee,hh23⟩:=h.ent (n:=23) rfl rfl
    obtain ⟨g23,rfl,rfl⟩:=hee
    exact ⟨_,.cons (h.ev rfl) (.cons (RC.ev (v:=B 69) h rfl) (.cons he23 .nil)),mac_Prf p.seed 69 [i64 p.d,p.ep.toUInt64,i64 (q:Int)] _ ho.seed (by simp) ww (Rd.of_seg (n:=3) (hh23.holds _ (List.mem_singleton.2 rfl)) (by decide) (by decide) rfl)⟩
  refine rg_alloc ty36 rfl ?_
  refine rg_nil fun ac ww L' hf hfe hs=>?_
  simp only [List.drop_succ_cons,List.drop_zero]
  obtain ⟨v4,L4,M4,h4,e4,⟨v23,L23,M23,h23,e23,rfl,rfl⟩,rfl⟩:=hfe
  replace hs:=hs.add h4
  replace hs:=hs.add h23
  obtain ⟨g4,rfl,rfl⟩:=e4
  obtain ⟨g23,rfl,rfl⟩:=e23
  refine s_storeW (i:=0) hs ty36 rfl rfl rfl (by rw [List.length_map,elE_length]) (all_map_B _) rfl fun ww hs=>?_
  refine s_end ?_
  replace hs:=hs.pick (L':=[_,_,_]) (.cons_cons _ (.cons _ (.refl _)))
  replace hs:=hs.nilrow 36 16
  replace hs:=hs.sub (F':=[(0,_),(1,_),(4,_)]) ⟨rfl,rfl,rfl,trivial⟩
  refine then_n (wp_seq (wp_reg ?_))
  refine zM hs fun ac hs=>?_
  refine s_q hs (c_nil (hs.ev rfl)) rfl fun ac hs=>?_
  refine s_q hs (c_fld fl149_4 (hs.ev rfl)) rfl fun ac hs=>?_
  refine s_q hs (c_loadS un132 rfl (hs.ev rfl) (hs.seg (i:=2) rfl) ((sprC_at ho.seed 2).trans rfl)) rfl fun ac hs=>?_
  refine zM hs fun ac hs=>?_
  refine s_q hs (c_idxS (j:=q) un132 ty203 (hs.ev rfl) (hs.ev rfl) (by omega) (by omega)) rfl fun ac hs=>?_
  refine zA hs fun ac hs=>?_
  refine s_end ?_
  replace hs:=hs.sub (F':=[(0,_),(1,_),(4,_),(5,_)]) ⟨rfl,rfl,rfl,rfl,trivial⟩
  refine then_n (wp_seq ?_)
  have hcell:=col_at (m:=p.m) hf4 hq hfq
  refine wp_region_rgX (J:=[0]) pmix 7 (by kernel_rfl) (by kernel_rfl) rfl rfl hs ?_
  simp only [List.take_succ_cons,List.take_zero]
  refine rg_q (fun ac ww h=>c_move (h.ev rfl)) rfl ?_
  refine rg_q (fun ac ww h=>c_move (h.ev rfl)) rfl ?_
  refine rg_q (fun ac ww h=>c_nil (h.ev rfl)) rfl ?_
  refine rg_q (fun ac ww h=>c_fld fl203_1 (h.ev rfl)) rfl ?_
  refine rg_q (fun ac ww h=>c_loadS un39 rfl (h.ev rfl) (h.blk (hs.seg (i:=3) rfl)) hcell) rfl ?_
  refine rg_q (fun ac ww h=>c_loadW ty36 rfl (h.ev rfl) (h.blk (hs.seg (i:=1) rfl)) (by rw [List.length_map,elE_length])) rfl ?_
  refine rg_bslice un39 ty36 (fun ac ww h=>(.cons (h.ev rfl) .nil)) rfl (by intro v hv; simp only [List.mem_singleton] at hv; subst hv; simp [Value.cells,elE_length]) (by decide) (show _=(elE p q).map B by simp [flatCells,Value.cells]) rfl ?_
  refine rg_nil fun ac ww L' hf hfe hs hlk=>?_
  simp only [List.drop_succ_cons,List.drop_zero]
  obtain ⟨v37,L37,M37,h37,e37,rfl,rfl⟩:=hfe
  replace hs:=hs.add h37
  obtain ⟨g37,rfl,rfl⟩:=e37
  refine sk_append (i:=1) hs un39 ty36 (by decide) rfl rfl rfl (Rd.of_seg (n:=1) (hs.seg (i:=0) rfl) (Nat.le_refl _) (by decide) (List.take_of_length_le (by simp))) (by rw [List.length_map,elE_length]) (all_map_B _) (by decide) (by decide) rfl (fun ac ww v38 hf hnil hs=>late_turn rfl rfl (late_nil)) fun ac ww v38 hf hnil hs=>?_
  obtain ⟨rg0,rcap0,rcur0,hrv0,_⟩:=owns_at (hs.get (i:=1) rfl) (by omega)
  subst hrv0
  refine s_q hs (c_nil (hs.ev rfl)) rfl fun ac hs=>?_
  refine s_q hs (c_fld fl203_1 (hs.ev rfl)) rfl fun ac hs=>?_
  refine s_store (i:=4) hs ty39 rfl rfl rfl rfl rfl rfl (by rw [colsF_length hf4]; omega) (col_put0 hf4 hq hfq) fun ww hs=>?_
  refine s_end ?_
  replace hs:=hs.pick (L':=[_,_,_,_]) (.cons _ (.refl _))
  replace hs:=hs.sub (F':=[(0,_),(1,_),(4,_),(5,_)]) ⟨rfl,rfl,rfl,rfl,trivial⟩
  refine then_n (wp_seq (wp_seq (wp_reg ?_)))
  refine zM hs fun ac hs=>?_
  refine s_q hs (c_nil (hs.ev rfl)) rfl fun ac hs=>?_
  refine s_q hs (c_fld fl149_0 (hs.ev rfl)) rfl fun ac hs=>?_
  refine s_q hs (c_fld fl33_1 (hs.ev rfl)) rfl fun ac hs=>?_
  refine s_q hs (c_loadS un3 rfl (hs.ev rfl) (hs.seg (i:=2) rfl) rfl) rfl fun ac hs=>?_
  refine zM hs fun ac hs=>?_
  refine s_end ?_
  replace hs:=hs.sub (F':=[(0,_),(1,_),(4,_),(5,_),(45,_),(46,_)]) ⟨rfl,rfl,rfl,rfl,rfl,rfl,trivial⟩
  refine then_n (wp_block ?_)
  refine s_loop hs (X:=Nat × Value) (fun x=>[(46,I x.1)]) [(0,_),(1,_),(4,_),(5,_),(45,_)] (fun x=>[.row x.2 (x.1 + 1) ((lad p q (x.1 + 1)).map B) 36 16,.seg g4 ((el p q x.1).map B) 36,_,.seg p.cg (colsF (updF f q [x0,x1,x2,x.2]) p.m) 203]) (fun j x=>x.1≤p.S∧j=p.S - x.1) (_) ((0,_)) (⟨Nat.zero_le _,rfl⟩) ⟨rfl,rfl,rfl,rfl,rfl,rfl,trivial⟩ rfl ?_
  rintro n ⟨k,v⟩ ac ww hok hs
  simp only [List.cons_append,List.nil_append] at hs
  obtain ⟨hk,rfl⟩:=hok
  simp only at hk hs
  obtain ⟨rg,rcap,rcur,hrv,_⟩:=owns_at (hs.get (i:=0) rfl) (by omega)
  subst hrv
  have hs16:=ho.s16
  refine wp_seq (wp_reg ?_)
  refine s_q hs (c_lssI (hs.ev rfl) (hs.ev rfl)) rfl fun ac hs=>?_
  refine s_end (then_n (wp_seq ?_))
  refine s_cond hs rfl (fun hc=>?_) (fun hc=>?_)
  · try simp only [z1,z2,z3,z4,z5,z6,z7] at hc
    have hkS:k < p.S:=by omega
    refine wp_skip (then_n (wp_seq (wp_block (wp_seq (wp_reg ?_)))))
    refine zM hs fun ac hs=>?_
    refine zA hs fun ac hs=>?_
    refine s_end (then_n (wp_seq ?_))
    refine wp_region_rgX (J:=[13]) pmix 14 (by kernel_rfl) (by kernel_rfl) rfl rfl hs ?_
    simp only [List.take_succ_cons,List.take_zero]
    refine rg_q (fun ac ww h=>c_move (h.ev rfl)) rfl ?_
    refine rg_q (fun ac ww h=>c_move (h.ev rfl)) rfl ?_
    refine rg_call fu132 (fun ac ww h=>(.cons (h.ev rfl) (.cons (h.ev rfl) .nil))) (fun ww hf=>spring_place p ho dn lk tv made q ww ((hf.block _ (heap_lt (hs.seg (i:=2) rfl)) id).trans (hs.seg (i:=2) rfl))) rfl ?_
    refine rg_q (fun ac ww h=>c_move (h.ev rfl)) rfl ?_
    refine rg_q (fun ac ww h=>c_loadW ty36 rfl (h.ev rfl) (h.blk (hs.seg (i:=1) rfl)) (by rw [List.length_map,el_length p q k])) rfl ?_
    refine rg_q (fun ac ww h=>c_move (h.ev rfl)) rfl ?_
    refine rg_q (fun ac ww h=>c_nil (h.ev rfl)) rfl ?_
    refine rg_q (fun ac ww h=>c_fld fl149_0 (h.ev rfl)) rfl ?_
    refine rg_q (fun ac ww h=>c_fld fl33_0 (h.ev rfl)) rfl ?_
    refine rg_q (fun ac ww h=>c_loadS un3 rfl (h.ev rfl) (h.blk (hs.seg (i:=2) rfl)) rfl) rfl ?_
    refine rg_call fu118 (fun ac ww h=>(.cons (h.ev rfl) (.cons (h.ev rfl) (.cons (h.ev rfl) (.cons (h.ev rfl) .nil))))) (fun ww hf=>ladder_Up p.d p.ep (i32 (q:Int)) (k:Nat) (el p q k) p.W (el_length p q k) ww) rfl ?_
    refine rg_q (fun ac ww h=>c_move (h.ev rfl)) rfl ?_
    refine rg_q (fun ac ww h=>c_extract (h.ev rfl) rfl) rfl ?_
    refine rg_q (fun ac ww h=>c_extract (h.ev rfl) rfl) rfl ?_
    refine rg_nil fun ac ww L' hf hfe hs hlk=>?_
    simp only [List.drop_succ_cons,List.drop_zero]
    obtain rfl:L'=[]:=hfe
    replace hs:=hs.toL (List.nil_append _)
    refine sk_storeW (i:=1) hs ty36 rfl rfl rfl (by rw [List.length_map,upB_length]) (all_map_B _) (by rw [List.length_map,el_length p q k]) (fun ww hs=>late_turn rfl rfl (late_nil)) fun ww hs=>?_
    refine s_end ?_
    rw [← el_succ] at hs
    replace hs:=hs.sub (F':=[(0,_),(1,_),(4,_),(5,_),(6,_),(45,_),(46,_),(47,_),(48,_),(49,_),(50,_),(51,_),(52,_),(53,_),(54,_),(55,_),(56,_),(57,_),(58,_),(59,_),(60,_),(61,_)]) ⟨rfl,rfl,rfl,rfl,rfl,rfl,rfl,rfl,rfl,rfl,rfl,rfl,rfl,rfl,rfl,rfl,rfl,rfl,rfl,rfl,rfl,rfl,trivial⟩
    refine then_n ?_
    have hcell:=col_at (m:=p.m) (updF_len hf4 (q:=q) (x:=[x0,x1,x2,.slice (some ⟨rg,0,none⟩) (k + 1) rcap]) rfl) hq (updF_same _ _ _)
    refine wp_region_rgX (J:=[0]) pmix 7 (by kernel_rfl) (by kernel_rfl) rfl rfl hs ?_
    simp only [List.take_succ_cons,List.take_zero]
    refine rg_q (fun ac ww h=>c_move (h.ev rfl)) rfl ?_
    refine rg_q (fun ac ww h=>c_move (h.ev rfl)) rfl ?_
    refine rg_q (fun ac ww h=>c_nil (h.ev rfl)) rfl ?_
    refine rg_q (fun ac ww h=>c_fld fl203_1 (h.ev rfl)) rfl ?_
    refine rg_q (fun ac ww h=>c_loadS un39 rfl (h.ev rfl) (h.blk (hs.seg (i:=3) rfl)) hcell) rfl ?_
    refine rg_q (fun ac ww h=>c_loadW ty36 rfl (h.ev rfl) (h.blk (hs.seg (i:=1) rfl)) (by rw [List.length_map,el_length p q (k + 1)])) rfl ?_
    refine rg_bslice un39 ty36 (fun ac ww h=>(.cons (h.ev rfl) .nil)) rfl (by intro v hv; simp only [List.mem_singleton] at hv; subst hv; simp [Value.cells,el_length]) (by decide) (show _=(el p q (k + 1)).map B by simp [flatCells,Value.cells]) rfl ?_
    refine rg_nil fun ac ww L' hf hfe hs hlk=>?_
    simp only [List.drop_succ_cons,List.drop_zero]
    obtain ⟨v69,L69,M69,h69,e69,rfl,rfl⟩:=hfe
    replace hs:=hs.add h69
    obtain ⟨g69,rfl,rfl⟩:=e69
    refine sk_append (i:=1) hs un39 ty36 (by decide) rfl rfl rfl (Rd.of_seg (n:=1) (hs.seg (i:=0) rfl) (Nat.le_refl _) (by decide) (List.take_of_length_le (by simp))) (by rw [List.length_map,el_length p q (k + 1)]) (all_map_B _) (by unfold maxLen; omega) (by omega) rfl (fun ac ww v70 hf hnil hs=>late_turn rfl rfl (late_nil)) fun ac ww v70 hf hnil hs=>?_
    obtain ⟨rg1,rcap1,rcur1,hrv1,_⟩:=owns_at (hs.get (i:=1) rfl) (by omega)
    subst hrv1
    refine s_q hs (c_nil (hs.ev rfl)) rfl fun ac hs=>?_
    refine s_q hs (c_fld fl203_1 (hs.ev rfl)) rfl fun ac hs=>?_
    refine s_store (i:=4) hs ty39 rfl rfl rfl rfl rfl rfl (by rw [colsF_length (updF_len hf4 rfl)]; omega) (col_put hf4 hq) fun ww hs=>?_
    refine s_end (blk_n (then_n (wp_reg ?_)))
    refine s_q hs (c_addI (hs.ev rfl) (hs.ev rfl) (by omega) (by omega)) rfl fun ac hs=>?_
    refine zM hs fun ac hs=>?_
    refine s_end (then_n ?_)
    replace hs:=hs.pick (L':=[_,_,_,_]) (.cons _ (.refl _))
    exact ⟨p.S - (k + 1),by (try simp only); omega,(k + 1,_),⟨by (try simp only); omega,rfl⟩,St.next hs ⟨rfl,rfl,rfl,rfl,rfl,rfl,trivial⟩ (by rw [lad_succ p q (k + 1),List.map_append])⟩
  · try simp only [z1,z2,z3,z4,z5,z6,z7] at hc
    obtain rfl:k=p.S:=by omega
    refine wp_exit (then_e (then_e (blk_hit (then_n (wp_reg ?_)))))
    refine zM hs fun ac hs=>?_
    refine s_q hs (c_nil (hs.ev rfl)) rfl fun ac hs=>?_
    refine s_q hs (c_fld fl149_7 (hs.ev rfl)) rfl fun ac hs=>?_
    
    refine s_callM (i:=2) hs fu133 (.cons (hs.ev rfl) (.cons (hs.ev rfl) .nil)) rfl (count_addC (k:=(made:Nat)) (by omega) (hs.seg (i:=2) rfl) ((sprC_at ho.seed 7).trans rfl)) rfl fun ac ww v77 hf hp hs=>?_
    replace hs:=hs (.seg p.g (sprC p dn lk tv (made + 1)) 149) (hp.trans (by rw [show (0 + 42:Nat)=35 + 7 from rfl,sprC_set ho.seed 7 _ (by decide)]; rfl)) (fun j hj=>⟨.inl hj,by have h5:j=p.g:=hj; subst h5; exact heap_lt hp⟩)
    refine s_end ?_
    replace hs:=hs.sub (F':=[]) trivial
    refine s_ret_end hs rfl .nil rfl ⟨_,rfl,hs.fr,?_⟩
    have hr:=hs.get (i:=0) rfl
    obtain ⟨b,cap,cur,hv1,hb1,hc1,hm1,ht1⟩:=owns_at hr (by omega)
    cases hv1
    exact ⟨rfl,_,⟨rg,rcap,cur,rfl,hb1,hc1,hm1,ht1,apart_at hs.has.apart (i:=0) (j:=2) rfl rfl (by decide) rg rfl,apart_at hs.has.apart (i:=0) (j:=3) rfl rfl (by decide) rg rfl⟩,fun k hk=>(hs.own _ (List.mem_of_getElem? (i:=0) rfl) k hk).resolve_right fun hm=>hm.elim (apart_at hs.has.apart (i:=0) (j:=2) rfl rfl (by decide) k hk) (apart_at hs.has.apart (i:=0) (j:=3) rfl rfl (by decide) k hk),hs.seg (i:=2) rfl,hs.seg (i:=3) rfl⟩
end Go.Proofs.YtklajbdbnnceiaaGreat
end

section
/- Springs: columns. -/
namespace Go.Proofs.YtklajbdbnnceiaaGreat
open Go Go.Fw
open Sha
theorem has2 {w:World} {b c:Nat} {xs ys:List Value} {T U:TypeId} (hne:b ≠ c) (hb:w.heap[b]?=some (.cells xs.toArray T (0,0))) (hc:w.heap[c]?=some (.cells ys.toArray U (0,0))):Has 0 w [.seg b xs T,.seg c ys U] :=
  (St.start2 (N:=0) (F:=[]) (a:={ tmps:=#[],defers:=[] }) ⟨rfl,rfl,fun _ _ h=>by cases h⟩ hne hb hc).has
theorem own2 {p:Spr} {w0:World} {xs ys:List Value} {T U:TypeId}:∀ e∈[Ent.seg p.g xs T,Ent.seg p.cg ys U],∀ k,e.keys k→w0.heap.size≤k∨SpM p k:=by
  intro e he k hk
  simp only [List.mem_cons,List.not_mem_nil,or_false] at he
  rcases he with rfl | rfl
  · exact .inr (.inl hk)
  · exact .inr (.inr hk)
theorem SpAt.re {w w':World} {p:Spr} {lk:Int} {K:Nat→Option Value} {t:Option Value} (h:SpAt w p lk K t) (hf:Fr (SpM p) w w') {lk':Int} {K':Nat→Option Value} {t':Option Value}
    (hg:w'.heap[p.g]?=some (.cells (sprC p (tdn t') lk' (ttv t') (cnt K' p.m)).toArray 149 (0,0))) (hc:w'.heap[p.cg]?=some (.cells (colsF (fun q=>colC (K' q)) p.m).toArray 203 (0,0)))
    (hK:∀ q,q < p.m→∀ v,K' q=some v→K q=some v∨Col w' p q v) (ht:∀ v,t'=some v→(t=some v∨TreeAt w' p v)∧∀ q,q < p.m→(K' q).isSome=true):SpAt w' p lk' K' t' :=
  ⟨hg,hc,fun q hq v hv=>(hK q hq v hv).elim (fun h2=>(h.col q hq v h2).fr hf) id,fun v hv=>⟨(ht v hv).1.elim (fun h2=>(h.tree v h2).1.fr hf) id,(ht v hv).2⟩⟩
theorem spring_column1 (p:Spr) (ho:p.Ok) (q:Nat) (hq:q < p.m) (f:Nat→List Value) (hf4:∀ k,(f k).length=4) (x0 x1 x2:Value) (hfq:f q=[x0,x1,x2,.slice none 0 0]) (dn lk:Int) (tv:Value) (made:Nat) (hmd:made < 1000) (b2 b3:Nat) (w:World) (hg:w.heap[p.g]?=some (.cells (sprC p dn lk tv made).toArray 149 (0,0))) (hc:w.heap[p.cg]?=some (.cells (colsF f p.m).toArray 203 (0,0))) (h2:w.heap[b2]?=some (.cells #[.pointer (some ⟨p.g,0,none⟩)] 29 (0,0))) (h3:w.heap[b3]?=some (.cells #[I q] 3 (0,0))):Ctr Tryz.prog 103 [.pointer (some ⟨b2,0,none⟩),.pointer (some ⟨b3,0,none⟩)] w (SpM p) (fun v w'=>v=.tuple #[]∧∃ cv,Col w' p q cv∧freshV w cv∧w'.heap[p.g]?=some (.cells (sprC p dn lk tv (made + 1)).toArray 149 (0,0))∧w'.heap[p.cg]?=some (.cells (colsF (updF f q [x0,x1,x2,cv]) p.m).toArray 203 (0,0))):=by
  refine fn_start (N:=5) Tryz.func103 rfl rfl rfl fun ac hk=>?_
  have hs:=St.start2 hk ho.ne hg hc
  refine wp_reg ?_
  refine s_q hs (c_loadS un29 rfl (hs.ev rfl) h2 rfl) rfl fun ac hs=>?_
  refine s_q hs (c_loadS un3 rfl (hs.ev rfl) h3 rfl) rfl fun ac hs=>?_
  refine s_callL hs fu104 (.cons (hs.ev rfl) (.cons (hs.ev rfl) .nil)) (spring_climb p ho q hq f hf4 x0 x1 x2 hfq dn lk tv made hmd _ hg hc) (fun k _ h=>.inl h) rfl fun ac ww v4 hf hp hs=>?_
  obtain ⟨rfl,cv,hc1,hcf,hc2,hc3⟩:=hp
  replace hs:=hs [] (.nil _ _) (by simp)
  refine s_end ?_
  replace hs:=hs.sub (F':=[]) trivial
  refine s_ret_end hs rfl .nil rfl ⟨_,rfl,hs.fr,?_⟩
  exact ⟨rfl,cv,hc1,hcf,hc2,hc3⟩
theorem updF_colC (K:Nat→Option Value) (q:Nat) (o:Option Value):(fun k=>colC (updF K q o k))=updF (fun k=>colC (K k)) q (colC o):=by
  funext k
  unfold updF
  split <;> rfl
theorem col_once (p:Spr) (ho:p.Ok) (q:Nat) (hq:q < p.m) (lk:Int) (K:Nat→Option Value) (t:Option Value) (b2 b3:Nat) (w:World) (hsp:SpAt w p lk K t) (h2:w.heap[b2]?=some (.cells #[.pointer (some ⟨p.g,0,none⟩)] 29 (0,0))) (h3:w.heap[b3]?=some (.cells #[I q] 3 (0,0))) (hb2:b2 ≠ p.cg) (hb3:b3 ≠ p.cg) :
    Ctr Tryz.prog 102 [.pointer (some ⟨p.cg,0 + q * 4 + 0,none⟩),.func (.func 103) #[] #[.pointer (some ⟨b2,0,none⟩),.pointer (some ⟨b3,0,none⟩)]] w (SpM p) fun v w'=>v=.tuple #[]∧∃ cv,(∀ u,K q=some u→u=cv)∧SpAt w' p lk (updF K q (some cv)) t∧(K q=none→freshV w cv):=by
  have h4:∀ k,(colC (K k)).length=4:=fun k=>colC_length _
  have hcl:=colsF_length h4 p.m
  have at0:∀ j,j < 4→(colsF (fun k=>colC (K k)) p.m)[q * 4 + j]?=(colC (K q))[j]?:=fun j hj=>colsF_at h4 hj p.m hq
  rw [show 0 + q * 4 + 0=q * 4 by omega]
  cases hK:K q with
  | some u =>
    refine Ctr.of (once_done ⟨p.cg,q * 4,none⟩ 1 (by decide) _ w (cell_list hsp.hc ((at0 0 (by decide)).trans (by rw [hK]; rfl)))) fun e w' ⟨he,hw⟩=>?_
    subst hw
    exact ⟨_,he,.refl _ _,rfl,u,fun u' h=>by cases h; rfl,by rw [← hK,updF_self]; exact hsp,fun h=>by cases h⟩
  | none =>
    have c0:(colsF (fun k=>colC (K k)) p.m)[q * 4]?=some (.int .u32 0):=(at0 0 (by decide)).trans (by rw [hK]; rfl)
    have c1:(colsF (fun k=>colC (K k)) p.m)[q * 4 + 1]?=some (.int .i32 0):=(at0 1 (by decide)).trans (by rw [hK]; rfl)
    have hf1:=Fr.setCell w p.cg (q * 4 + 1) (.int .i32 1)
    have hc1:=setCell_heap (o:=q * 4 + 1) (.int .i32 1) hsp.hc
    rw [colsF_set h4 _ (by decide) p.m hq,hK] at hc1
    have hg1:=(setCell_heap' (o:=q * 4 + 1) (.int .i32 1) hsp.hc p.g ho.ne).trans hsp.hg
    have h21:=(setCell_heap' (o:=q * 4 + 1) (.int .i32 1) hsp.hc b2 hb2).trans h2
    have h31:=(setCell_heap' (o:=q * 4 + 1) (.int .i32 1) hsp.hc b3 hb3).trans h3
    have h41:∀ k,(updF (fun k=>colC (K k)) q [.int .u32 0,.int .i32 1,U 0,.slice none 0 0] k).length=4:=updF_len h4 rfl
    have hcm:=cnt_le K p.m
    have hm:=ho.m64
    have hcall:=spring_column1 p ho q hq (updF (fun k=>colC (K k)) q [.int .u32 0,.int .i32 1,U 0,.slice none 0 0]) h41 (.int .u32 0) (.int .i32 1) (U 0) (updF_same _ _ _) (tdn t) lk (ttv t) (cnt K p.m) (by omega) b2 b3 _ hg1 hc1 h21 h31
    refine Ctr.of (once_187 p.cg (q * 4) _ (fun w'=>Fr (SpM p) (w.setCell ⟨p.cg,q * 4 + 1,none⟩ (.int .i32 1)) w'∧∃ cv,Col w' p q cv∧freshV w cv∧w'.heap[p.g]?=some (.cells (sprC p (tdn t) lk (ttv t) (cnt K p.m + 1)).toArray 149 (0,0))∧w'.heap[p.cg]?=some (.cells (colsF (updF (fun k=>colC (K k)) q [.int .u32 0,.int .i32 1,U 0,cv]) p.m).toArray 203 (0,0))) w
      (cell_list hsp.hc c0) (cell_list hsp.hc c1) (thawed hsp.hc) (thawed hsp.hc) (Calls.mono hcall fun e w' ⟨v,he,hf,hv,cv,h5,hfv,h6,h7⟩=>⟨by rw [he,hv],hf,cv,h5,hfv.back hf1.size,h6,by rw [updF_updF] at h7; exact h7⟩) ?_) ?_
    · rintro w' ⟨_,cv,_,_,_,h7⟩
      have h4':∀ k,(updF (fun k=>colC (K k)) q [.int .u32 0,.int .i32 1,U 0,cv] k).length=4:=updF_len h4 rfl
      exact ⟨cell_list h7 ((colsF_at h4' (j:=0) (by decide) p.m hq).trans (by rw [updF_same]; rfl)),cell_list h7 ((colsF_at h4' (j:=1) (by decide) p.m hq).trans (by rw [updF_same]; rfl)),thawed h7,thawed h7⟩
    · rintro e w' ⟨he,w1,⟨hf,cv,h5,hfv,h6,h7⟩,hw⟩
      have h4':∀ k,(updF (fun k=>colC (K k)) q [.int .u32 0,.int .i32 1,U 0,cv] k).length=4:=updF_len h4 rfl
      have h7d:w1.drew.heap[p.cg]?=_:=h7
      have e1:=setCell_heap (o:=q * 4) (.int .u32 1) h7d
      have e1':∀ k,k ≠ p.cg→(w1.drew.setCell ⟨p.cg,q * 4,none⟩ (.int .u32 1)).heap[k]?=w1.heap[k]?:=setCell_heap' (o:=q * 4) (.int .u32 1) h7d
      rw [show q * 4=q * 4 + 0 from rfl,colsF_set h4' _ (by decide) p.m hq,updF_same,updF_updF] at e1
      have h4'':∀ k,(updF (fun k=>colC (K k)) q ([.int .u32 0,.int .i32 1,U 0,cv].set 0 (.int .u32 1)) k).length=4:=updF_len h4 rfl
      have e2:=setCell_heap (o:=q * 4 + 1) (.int .i32 0) e1
      have e2':=setCell_heap' (o:=q * 4 + 1) (.int .i32 0) e1
      rw [colsF_set h4'' _ (by decide) p.m hq,updF_same,updF_updF] at e2
      have hfw:Fr (SpM p) w w':=by
        rw [hw]
        refine ((hf1.mono fun k _ hk=>.inr hk).trans hf fun _ _=>id).trans (((Fr.drew w1).mono fun _ _=>False.elim).trans (((Fr.setCell _ p.cg _ _).mono fun k _ hk=>.inr hk).trans ((Fr.setCell _ p.cg _ _).mono fun k _ hk=>.inr hk) fun _ _=>id) fun _ _=>id) fun _ _=>id
      have hcw:w'.heap[p.cg]?=some (.cells (colsF (fun k=>colC (updF K q (some cv) k)) p.m).toArray 203 (0,0)):=by rw [hw,updF_colC]; exact e2
      have hgw:w'.heap[p.g]?=some (.cells (sprC p (tdn t) lk (ttv t) (cnt (updF K q (some cv)) p.m)).toArray 149 (0,0)):=by
        rw [hw,cnt_upd hK p.m hq]
        exact (e2' p.g ho.ne).trans ((e1' p.g ho.ne).trans h6)
      have hf2:Fr (SpM p) w1 w':=by
        rw [hw]
        exact ((Fr.drew w1).mono fun _ _=>False.elim).trans (((Fr.setCell _ p.cg _ _).mono fun k _ hk=>.inr hk).trans ((Fr.setCell _ p.cg _ _).mono fun k _ hk=>.inr hk) fun _ _=>id) fun _ _=>id
      refine ⟨_,he,hfw,rfl,cv,(fun u h=>by cases h),hsp.re hfw hgw hcw (fun k hk v hv=>?_) (fun v hv=>⟨.inl hv,fun k hk=>?_⟩),fun _=>hfv⟩
      · unfold updF at hv
        split at hv
        · rename_i e; cases hv; subst e; exact .inr (h5.fr hf2)
        · exact .inl hv
      · unfold updF
        split
        · rfl
        · exact (hsp.tree v hv).2 k hk
theorem spring_column (p:Spr) (ho:p.Ok) (q:Nat) (hq:q < p.m) (lk:Int) (K:Nat→Option Value) (t:Option Value) (w:World) (hsp:SpAt w p lk K t):Ctr Tryz.prog 64 [.pointer (some ⟨p.g,0,none⟩),I q] w (SpM p) (fun v w'=>(∀ u,K q=some u→u=v)∧SpAt w' p lk (updF K q (some v)) t∧(K q=none→freshV w v)):=by
  refine fn_start (N:=21) Tryz.func64 rfl rfl rfl fun ac hk=>?_
  have hs:=St.start2 hk ho.ne hsp.hg hsp.hc
  refine wp_seq (wp_reg ?_)
  refine s_box hs rfl rfl rfl fun ac ww g2 hs=>?_
  refine s_box hs rfl rfl rfl fun ac ww g3 hs=>?_
  refine zA hs fun ac hs=>?_
  refine s_end ?_
  replace hs:=hs.sub (F':=[(2,_),(3,_),(4,_)]) ⟨rfl,rfl,rfl,trivial⟩
  refine then_n (wp_seq ?_)
  refine wp_region_rg pmix 5 (by kernel_rfl) rfl hs ?_
  simp only [List.take_succ_cons,List.take_zero]
  refine rg_q (fun ac ww h=>c_loadS un29 rfl (h.ev rfl) (h.blk (hs.seg (i:=1) rfl)) rfl) rfl ?_
  refine rg_q (fun ac ww h=>c_nil (h.ev rfl)) rfl ?_
  refine rg_q (fun ac ww h=>c_fld fl149_4 (h.ev rfl)) rfl ?_
  refine rg_q (fun ac ww h=>c_loadS un132 rfl (h.ev rfl) (h.blk (hs.seg (i:=2) rfl)) ((sprC_at ho.seed 2).trans rfl)) rfl ?_
  refine rg_q (fun ac ww h=>c_loadS un3 rfl (h.ev rfl) (h.blk (hs.seg (i:=0) rfl)) rfl) rfl ?_
  refine rg_nil fun ac ww L' hf hfe hs=>?_
  simp only [List.drop_succ_cons,List.drop_zero]
  obtain rfl:L'=[]:=hfe
  replace hs:=hs.toL (List.nil_append _)
  refine s_q hs (c_idxS (j:=q) un132 ty203 (hs.ev rfl) (hs.ev rfl) (by omega) (by omega)) rfl fun ac hs=>?_
  refine zA hs fun ac hs=>?_
  refine s_end ?_
  replace hs:=hs.sub (F':=[(2,_),(3,_),(4,_),(5,_)]) ⟨rfl,rfl,rfl,rfl,trivial⟩
  refine then_n (wp_seq (wp_reg ?_))
  refine zM hs fun ac hs=>?_
  refine s_q hs (c_nil (hs.ev rfl)) rfl fun ac hs=>?_
  refine s_q hs (c_fld fl203_0 (hs.ev rfl)) rfl fun ac hs=>?_
  refine s_q hs (c_makeFunc .nil (.cons (hs.ev rfl) (.cons (hs.ev rfl) .nil))) rfl fun ac hs=>?_
  have hsz:=hs.fr.size
  refine s_callL hs fu102 (.cons (hs.ev rfl) (.cons (hs.ev rfl) .nil)) (col_once p ho q hq lk K t g2 g3 _ (hsp.re hs.fr (hs.seg (i:=2) rfl) (hs.seg (i:=3) rfl) (fun _ _ _ h=>.inl h) fun v h=>⟨.inl h,(hsp.tree v h).2⟩) (hs.seg (i:=1) rfl) (hs.seg (i:=0) rfl) (fun e=>apart_at hs.has.apart (i:=1) (j:=3) rfl rfl (by decide) g2 rfl e) (fun e=>apart_at hs.has.apart (i:=0) (j:=3) rfl rfl (by decide) g3 rfl e)) (fun k _ h=>.inl h) rfl fun ac ww v16 hf hp hs=>?_
  obtain ⟨rfl,cv,hcu,hsp2,hfv⟩:=hp
  replace hs:=hs [.seg p.g _ 149,.seg p.cg _ 203] (has2 ho.ne hsp2.hg hsp2.hc) own2
  refine s_end ?_
  replace hs:=hs.sub (F':=[(4,_),(5,_)]) ⟨rfl,rfl,trivial⟩
  refine then_n (wp_seq (wp_reg ?_))
  refine zM hs fun ac hs=>?_
  refine s_q hs (c_nil (hs.ev rfl)) rfl fun ac hs=>?_
  refine s_q hs (c_fld fl203_1 (hs.ev rfl)) rfl fun ac hs=>?_
  refine s_q hs (c_loadS un39 rfl (hs.ev rfl) (hs.seg (i:=1) rfl) (col_at (fun k=>colC_length _) hq (by rw [updF_same]; rfl))) rfl fun ac hs=>?_
  refine zA hs fun ac hs=>?_
  refine s_end ?_
  replace hs:=hs.sub (F':=[(4,_)]) ⟨rfl,trivial⟩
  refine then_n (wp_ret ?_)
  refine s_ret hs rfl (.tmp (hs.tmp rfl) .nil) rfl ⟨_,rfl,hs.fr,?_⟩
  exact ⟨hcu,hsp2,fun h=>(hfv h).back hsz⟩
end Go.Proofs.YtklajbdbnnceiaaGreat
end

section
/- Springs: the tree over all ends. -/
namespace Go.Proofs.YtklajbdbnnceiaaGreat
open Go Go.Fw
open Sha
theorem SpAt.inj {w:World} {p:Spr} {lk lk':Int} {K K':Nat→Option Value} {t t':Option Value} (h:SpAt w p lk K t) (h':SpAt w p lk' K' t') (q:Nat) (hq:q < p.m):K q=K' q:=by
  have h4:∀ k,(colC (K k)).length=4:=fun k=>colC_length _
  have h4':∀ k,(colC (K' k)).length=4:=fun k=>colC_length _
  have e:=h.hc.symm.trans h'.hc
  simp only [Option.some.injEq,Obj.cells.injEq,and_true] at e
  have e2:colsF (fun q=>colC (K q)) p.m=colsF (fun q=>colC (K' q)) p.m:=by simpa using congrArg Array.toList e
  have a0:=(colsF_at h4 (j:=0) (by decide) p.m hq).symm.trans ((congrArg (fun z:List Value=>z[q * 4 + 0]?) e2).trans (colsF_at h4' (j:=0) (by decide) p.m hq))
  have a3:=(colsF_at h4 (j:=3) (by decide) p.m hq).symm.trans ((congrArg (fun z:List Value=>z[q * 4 + 3]?) e2).trans (colsF_at h4' (j:=3) (by decide) p.m hq))
  cases h1:K q <;> cases h2:K' q <;> simp [h1,h2,colC] at a0 a3 ⊢
  exact a3
def ext (p:Spr) (K K':Nat→Option Value):Prop:=∀ q,q < p.m→∀ v,K q=some v→K' q=some v
theorem ext.trans {p:Spr} {K K' K2:Nat→Option Value} (h:ext p K K') (h':ext p K' K2):ext p K K2:=fun q hq v hv=>h' q hq v (h q hq v hv)
def SpLe (p:Spr) (a b:World):Prop:=a.heap.size≤b.heap.size∧∀ K,SpAt a p 1 K none→∃ K',SpAt b p 1 K' none∧ext p K K'∧∀ q,q < p.m→∀ v,K' q=some v→K q=some v∨freshV a v
abbrev SpFk (p:Spr):World→World→Prop:=fun a b=>Fr (SpM p) a b∧SpLe p a b
theorem spFrK {w:World} {p:Spr} {lk:Int} {K:Nat→Option Value} {t:Option Value} (h:SpAt w p lk K t):FwK.FrK (SpFk p) w.heap.size :=
  FwK.frK (fun k hk=>by rcases hk with rfl | rfl; exact heap_lt h.hg; exact heap_lt h.hc) (fun h1 h2=>⟨Nat.le_trans h1.1 h2.1,fun K hK=>by
    obtain ⟨K1,a1,b1,c1⟩:=h1.2 K hK
    obtain ⟨K2,a2,b2,c2⟩:=h2.2 K1 a1
    exact ⟨K2,a2,b1.trans b2,fun q hq v hv=>(c2 q hq v hv).elim (c1 q hq v) fun h=>.inr (h.back h1.1)⟩⟩) fun hf=>⟨hf.size,fun K hK=>⟨K,hK.fr0 hf,fun _ _ _=>id,fun _ _ _=>.inl⟩⟩
def MadeAt (p:Spr) (k:Nat) (K:Nat→Option Value) (v:Value) (w:World):Prop:=∃ K',SpAt w p 1 K' none∧K' k=some v∧ext p K K'
theorem MadeAt.st {p:Spr} {k:Nat} (hk:k < p.m) {K:Nat→Option Value} (v:Value) (w w':World) (hf:SpFk p w w') (h:MadeAt p k K v w):MadeAt p k K v w':=by
  obtain ⟨K1,h1,h2,h3⟩:=h
  obtain ⟨K2,h4,h5,_⟩:=hf.2.2 K1 h1
  exact ⟨K2,h4,h5 k hk v h2,h3.trans h5⟩
def PtrE (p:Spr) (k:Nat) (pv:Value) (w:World):Prop:=∃ b cur,pv=.pointer (some ⟨b,0 + p.S * 16,none⟩)∧w.heap[b]?=some (.cells cur 36 (0,0))∧(cur.toList.drop (0 + p.S * 16)).take 16=(el p k p.S).map B∧b ≠ p.g∧b ≠ p.cg
theorem PtrE.st {p:Spr} {k:Nat} (v:Value) (w w':World) (hf:SpFk p w w') (h:PtrE p k v w):PtrE p k v w':=by
  obtain ⟨b,cur,h1,h2,h3,h4,h5⟩:=h
  exact ⟨b,cur,h1,(hf.1.block b (heap_lt h2) fun h=>h.elim h4 h5).trans h2,h3,h4,h5⟩
theorem col_call {p:Spr} (ho:p.Ok) {k:Nat} (hk:k < p.m) {K:Nat→Option Value} {w1 w:World} (h1:SpAt w1 p 1 K none) (hf:SpFk p w1 w) :
    Calls Tryz.prog 64 [Value.pointer (some ⟨p.g,0,none⟩),I k].toArray w fun e w'=>∃ v,e=.returned v∧SpFk p w w'∧MadeAt p k K v w':=by
  obtain ⟨K1,hs1,hx1,_⟩:=hf.2.2 K h1
  refine Calls.mono (spring_column p ho k hk 1 K1 none w hs1) fun e w3 ⟨v,he,hf3,hv,hs3,hfv⟩=>⟨v,he,⟨hf3,hf3.size,fun Ka ha=>⟨_,hs3,fun q hq u hu=>?_,fun q hq u hu=>?_⟩⟩,_,hs3,updF_same _ _ _,fun q hq u hu=>?_⟩
  · have:=ha.inj hs1 q hq
    rw [hu] at this
    unfold updF
    split
    · rename_i e; subst e; rw [hv u this.symm]
    · exact this.symm
  · have:=ha.inj hs1 q hq
    unfold updF at hu
    split at hu
    · rename_i e
      subst e
      cases hu
      cases h2:K1 q with
      | none=>exact .inr (hfv h2)
      | some u2=>rw [this,h2,hv u2 h2]; exact .inl rfl
    · rw [this]; exact .inl hu
  · have:=hx1 q hq u hu
    unfold updF
    split
    · rename_i e; subst e; rw [hv u this]
    · exact this
theorem sprC_put {p:Spr} (h:p.seed.length=32) {dn lk:Int} {tv tv':Value} {made:Nat}:(sprC p dn lk tv made).take (0 + 41)++[tv']++(sprC p dn lk tv made).drop (0 + 41 + 1)=sprC p dn lk tv' made:=by
  have e:=sprC_set (dn:=dn) (lk:=lk) (tv:=tv) (made:=made) h 6 tv' (by decide)
  rw [List.set_eq_take_append_cons_drop,if_pos (by rw [sprC_length h]; decide)] at e
  simpa [sprC] using e
theorem rowkeep {w w':World} {p:Spr} {v:Value} {n sz:Nat} {xs:List Value} {T:TypeId} {ys zs:List Value} {T1 T2:TypeId} {R:List Ent} (h:Has 0 w (.row v n xs T sz::.seg p.g ys T1::.seg p.cg zs T2::R)) (hf:Fr (SpM p) w w'):Has 0 w' [.row v n xs T sz] :=
  (h.pick (.cons_cons _ (List.nil_sublist _))).same hf.size fun e he k hk=>by
    simp only [List.mem_singleton] at he
    subst he
    refine hf.block k (h.lt _ (by simp) k hk) fun hm=>hm.elim (fun e1=>?_) fun e1=>?_
    · exact apart_at h.apart (i:=0) (j:=1) rfl rfl (by decide) k hk e1
    · exact apart_at h.apart (i:=0) (j:=2) rfl rfl (by decide) k hk e1
theorem spring_whole1 (p:Spr) (ho:p.Ok) (K:Nat→Option Value) (b1:Nat) (hb1:¬ SpM p b1) (w:World) (hsp:SpAt w p 1 K none) (h1:w.heap[b1]?=some (.cells #[.pointer (some ⟨p.g,0,none⟩)] 29 (0,0))):Ctr Tryz.prog 105 [.pointer (some ⟨b1,0,none⟩)] w (SpM p) (fun v w'=>v=.tuple #[]∧∃ K' pv,(∀ q,q < p.m→(K' q).isSome=true)∧ext p K K'∧TreeF w w' p pv∧(∀ q,q < p.m→∀ v,K' q=some v→K q=some v∨freshV w v)∧(∀ q,q < p.m→∀ v,K' q=some v→Col w' p q v)∧w'.heap[p.g]?=some (.cells (sprC p 0 1 pv (cnt K' p.m)).toArray 149 (0,0))∧w'.heap[p.cg]?=some (.cells (colsF (fun q=>colC (K' q)) p.m).toArray 203 (0,0))):=by
  refine fn_start (N:=41) Tryz.func105 rfl rfl rfl fun ac hk=>?_
  have hs:=St.start2 hk ho.ne hsp.hg hsp.hc
  refine wp_seq (wp_reg ?_)
  refine zA hs fun ac hs=>?_
  refine s_end (then_n (wp_seq (wp_seq (wp_reg ?_))))
  refine s_q hs (c_loadS un29 rfl (hs.ev rfl) h1 rfl) rfl fun ac hs=>?_
  refine s_q hs (c_nil (hs.ev rfl)) rfl fun ac hs=>?_
  refine s_q hs (c_fld fl149_4 (hs.ev rfl)) rfl fun ac hs=>?_
  refine s_q hs (c_loadS un132 rfl (hs.ev rfl) (hs.seg (i:=0) rfl) ((sprC_at ho.seed 2).trans rfl)) rfl fun ac hs=>?_
  refine s_q hs (c_lenS un132 (hs.ev rfl)) rfl fun ac hs=>?_
  refine zM hs fun ac hs=>?_
  refine s_end ?_
  replace hs:=hs.nilrow 36 16
  replace hs:=hs.sub (F':=[(0,_),(1,_),(7,_),(8,_)]) ⟨rfl,rfl,rfl,rfl,trivial⟩
  refine then_n (wp_block ?_)
  refine s_loopW hs (X:=Nat × Value × (Nat→Option Value)) (fun x=>[(1,x.2.1),(8,I x.1)]) [(0,_),(7,_)] (fun x=>[.row x.2.1 x.1 ((ends p x.1).map B) 36 16,.seg p.g (sprC p (tdn none) 1 (ttv none) (cnt x.2.2 p.m)) 149,.seg p.cg (colsF (fun q=>colC (x.2.2 q)) p.m) 203]) (fun j x wc=>x.1≤p.m∧j=p.m - x.1∧(∀ q,q < x.1→(x.2.2 q).isSome=true)∧ext p K x.2.2∧(∀ q,q < p.m→∀ v,x.2.2 q=some v→Col wc p q v∧∀ kk,v.ownBlock=some kk→¬ x.2.1.ownBlock=some kk)∧∀ q,q < p.m→∀ v,x.2.2 q=some v→K q=some v∨freshV w v) (_) ((0,_,K)) (⟨Nat.zero_le _,rfl,fun _ h=>absurd h (by omega),fun _ _ _=>id,fun q hq v hv=>⟨(hsp.col q hq v hv).fr hs.fr,fun kk _ h=>by cases h⟩,fun q hq v hv=>.inl hv⟩) ⟨rfl,rfl,rfl,rfl,trivial⟩ rfl ?_
  rintro n ⟨k,v,Kx⟩ ac ww hok hs
  simp only [List.cons_append,List.nil_append] at hs
  obtain ⟨hk,rfl,hall0,hext,hcolx,hnewx⟩:=hok
  simp only at hk hall0 hext hcolx hnewx hs
  refine wp_seq (wp_reg ?_)
  refine s_q hs (c_lssI (hs.ev rfl) (hs.ev rfl)) rfl fun ac hs=>?_
  refine s_end (then_n (wp_seq ?_))
  refine s_cond hs rfl (fun hc=>?_) (fun hc=>?_)
  · try simp only [z1,z2,z3,z4,z5,z6,z7] at hc
    have hkm:k < p.m:=by omega
    have hm64:=ho.m64
    have hel:=ends_length p k
    refine wp_skip (then_n (wp_seq (wp_block (wp_seq (wp_reg ?_)))))
    refine zM hs fun ac hs=>?_
    refine zA hs fun ac hs=>?_
    refine s_end (then_n ?_)
    have hsp1:SpAt ww p 1 Kx none:=⟨hs.seg (i:=1) rfl,hs.seg (i:=2) rfl,fun q hq u hu=>(hcolx q hq u hu).1,fun v h=>by cases h⟩
    have hbw:ww.heap[b1]?=some (.cells #[.pointer (some ⟨p.g,0,none⟩)] 29 (0,0)):=hs.old h1 hb1
    have hK:=spFrK hsp1
    refine FwK.wp_region_rgK pmix hK 12 (by kernel_rfl) rfl hs.know ?_
    simp only [List.take_succ_cons,List.take_zero]
    refine FwK.rg_q hK (fun ac w2 h=>c_move (h.ev rfl)) rfl ?_
    refine FwK.rg_q hK (fun ac w2 h=>c_loadS un29 rfl (h.ev rfl) ((h.fr.1.block b1 (heap_lt hbw) hb1).trans hbw) rfl) rfl ?_
    refine FwK.rg_q hK (fun ac w2 h=>c_move (h.ev rfl)) rfl ?_
    refine FwK.rg_callK hK (MadeAt p k Kx) (MadeAt.st hkm) fu64 (fun ac w2 h=>⟨_,.cons (h.ev rfl) (.cons (h.ev rfl) .nil),col_call ho hkm hsp1 h.fr⟩) rfl ?_
    refine FwK.rg_q hK (fun ac w2 h=>c_loadS un29 rfl (h.ev rfl) ((h.fr.1.block b1 (heap_lt hbw) hb1).trans hbw) rfl) rfl ?_
    refine FwK.rg_q hK (fun ac w2 h=>c_nil (h.ev rfl)) rfl ?_
    refine FwK.rg_q hK (fun ac w2 h=>c_fld fl149_0 (h.ev rfl)) rfl ?_
    refine FwK.rg_q hK (fun ac w2 h=>c_fld fl33_1 (h.ev rfl)) rfl ?_
    refine FwK.rg_q hK (v:=I p.S) (fun ac w2 h=>by
      obtain ⟨K3,h3,_⟩:=h.fr.2.2 Kx hsp1
      exact c_loadS un3 rfl (h.ev rfl) h3.hg rfl) rfl ?_
    refine FwK.rg_e hK (fun pv L w=>PtrE p k pv w∧L=[]) (fun v L w w' hf e=>⟨PtrE.st v w w' hf e.1,e.2⟩) (fun ac w2 h=>by
      obtain ⟨v,L',hev,⟨⟨K3,h3,h4,_⟩,_⟩,_⟩:=h.ent (n:=14) rfl rfl
      obtain ⟨b,cap,cur,rfl,h5,h6,h7,h8,h9,h10⟩:=h3.col k hkm v h4
      have hpc:=(rowpiece (i:=p.S) h8 (by rw [lad_length]; omega) (by omega)).trans (by rw [lad_piece p k (by omega)])
      rw [c_idxS (j:=p.S) un39 ty36 hev (h.ev rfl) rfl (by omega)]
      exact ⟨[],⟨⟨b,cur,rfl,h5,hpc,h9,h10⟩,rfl⟩,hK.of0 (.refl _ _),.nil _ _⟩) rfl ?_
    refine FwK.rg_q hK (v:=.agg ((el p k p.S).map B).toArray) (fun ac w2 h=>by
      obtain ⟨v,L',hev,⟨⟨b,cur,rfl,h5,h6,_,_⟩,_⟩,_⟩:=h.ent (n:=20) rfl rfl
      exact c_loadA ty36 rfl hev h5 h6 (by rw [List.length_map,el_length])) rfl ?_
    refine FwK.rg_bslice hK un39 ty36 (fun ac w2 h=>.cons (h.ev rfl) .nil) rfl (by intro v hv; simp only [List.mem_singleton] at hv; subst hv; simp [Value.cells,el_length]) (by decide) (show _=(el p k p.S).map B by simp [flatCells,Value.cells]) rfl ?_
    refine FwK.rg_nil fun ac w2 L' hfk hfe hkn hhas hlk=>?_
    simp only [List.drop_succ_cons,List.drop_zero]
    obtain ⟨v22,L22,M22,h22,⟨g22,rfl,rfl⟩,hfe,rfl⟩:=hfe
    obtain ⟨v20,L20,M20,h20,⟨_,rfl⟩,hfe,rfl⟩:=hfe
    obtain ⟨v14,L14,M14,h14,⟨⟨K2,hs2,hk2,hx2⟩,rfl⟩,hfe,rfl⟩:=hfe
    obtain rfl:=(show _=([]:List Ent) from hfe)
    obtain ⟨K9,hs9,_,hx9⟩:=hfk.2.2 Kx hsp1
    have hap2:∀ q,q < p.m→∀ u,K2 q=some u→∀ kk,u.ownBlock=some kk→¬ v.ownBlock=some kk:=fun q hq u hu kk h1 h2=>by
      rcases hx9 q hq u (by rw [hs9.inj hs2 q hq]; exact hu) with h3 | h3
      · exact (hcolx q hq u h3).2 kk h1 h2
      · have a1:=h3 kk h1
        have a2:=hs.has.lt _ (List.mem_of_getElem? (i:=0) rfl) kk h2
        omega
    have hnew2:∀ q,q < p.m→∀ u,K2 q=some u→K q=some u∨freshV w u:=fun q hq u hu=>(hx9 q hq u (by rw [hs9.inj hs2 q hq]; exact hu)).elim (hnewx q hq u) fun h=>.inr (h.back hs.fr.size)
    have hcol2:∀ q,q < p.m→∀ u,K2 q=some u→Col w2 p q u:=fun q hq u hu=>hs2.col q hq u hu
    have hrow:=rowkeep hs.has hfk.1
    have hall:=Has.app hrow (has2 ho.ne hs2.hg hs2.hc) (fun e1 h1 e2 h2 kk hk1 hk2=>by
      simp only [List.mem_singleton] at h1
      subst h1
      simp only [List.mem_cons,List.not_mem_nil,or_false] at h2
      rcases h2 with rfl | rfl
      · exact apart_at hs.has.apart (i:=0) (j:=1) rfl rfl (by decide) kk hk1 hk2
      · exact apart_at hs.has.apart (i:=0) (j:=2) rfl rfl (by decide) kk hk1 hk2)
    have hlt:∀ e∈[Ent.row v k ((ends p k).map B) 36 16]++[Ent.seg p.g (sprC p (tdn none) 1 (ttv none) (cnt K2 p.m)) 149,Ent.seg p.cg (colsF (fun q=>colC (K2 q)) p.m) 203],∀ kk,e.keys kk→kk < ww.heap.size:=by
      intro e he kk hk
      simp only [List.cons_append,List.nil_append,List.mem_cons,List.not_mem_nil,or_false] at he
      rcases he with rfl | rfl | rfl
      · exact hs.has.lt _ (by simp) kk hk
      · have hk:kk=p.g:=hk
        subst hk
        exact heap_lt hsp1.hg
      · have hk:kk=p.cg:=hk
        subst hk
        exact heap_lt hsp1.hc
    have hs3:=(St.mk hkn (Has.app (hhas.mono (Nat.zero_le _)) hall fun e1 h1 e2 h2 kk hk1 hk2=>by
      have a1:=hhas.ge e1 h1 kk hk1
      have a2:=hlt e2 h2 kk hk2
      omega) (fun e he kk hk=>(List.mem_append.1 he).elim (fun h=>.inl (Nat.le_trans hs.fr.size (hhas.ge e h kk hk))) fun h=>(List.mem_append.1 h).elim (fun h=>hs.own e (by simp only [List.mem_singleton] at h; subst h; simp) kk hk) fun h=>own2 e h kk hk) (hs.fr.trans hfk.1 fun _ _=>id):St 41 _ _ (SpM p) w ac w2)
    replace hs:=hs3.add h22
    simp only [List.append_nil,List.cons_append,List.nil_append] at hs
    refine s_appendK (i:=1) hs un39 ty36 (by decide) rfl rfl rfl (Rd.of_seg (n:=1) (hs.seg (i:=0) rfl) (Nat.le_refl _) (by decide) (List.take_of_length_le (by simp))) (by rw [List.length_map,el_length]) (all_map_B _) (by unfold maxLen; omega) (by omega) rfl fun ac ww v23 hf hnil hs=>?_
    refine zA hs fun ac hs=>?_
    refine s_end (blk_n (then_n (wp_reg ?_)))
    refine s_q hs (c_addI (hs.ev rfl) (hs.ev rfl) (by omega) (by omega)) rfl fun ac hs=>?_
    refine zM hs fun ac hs=>?_
    refine s_end (then_n ?_)
    replace hs:=hs.pick (L':=[_,_,_]) (.cons _ (.refl _))
    exact ⟨p.m - (k + 1),by (try simp only); omega,(k + 1,_,K2),⟨by (try simp only); omega,rfl,fun q hq=>by
        by_cases e:q=k
        · subst e; show (K2 q).isSome=true; rw [hk2]; rfl
        · have:=hall0 q (by (try simp only at hq); omega)
          obtain ⟨u,hu⟩:=Option.isSome_iff_exists.1 this
          show (K2 q).isSome=true
          rw [hx2 q (by (try simp only at hq); omega) u hu]; rfl,hext.trans hx2,fun q hq u hu=>⟨(hcol2 q hq u hu).frk hf (hap2 q hq u hu),fun kk h1 h2=>(hnil kk h2).elim (hap2 q hq u hu kk h1) fun h3=>by have:=(hcol2 q hq u hu).lt kk h1; omega⟩,hnew2⟩,St.next hs ⟨rfl,rfl,rfl,rfl,trivial⟩ (by simp only [ends_succ,List.map_append])⟩
  · try simp only [z1,z2,z3,z4,z5,z6,z7] at hc
    have hkm2:k=p.m:=by omega
    have hm64:=ho.m64
    refine wp_exit (then_e (then_e (blk_hit (then_n ?_))))
    have hbw0:=hs.old h1 hb1
    subst hkm2
    have hxl:height (p.m:Int)=p.H:=by have:=height_pow p.H (by have:=ho.h6; omega); rw [← this]; unfold Spr.m; push_cast; rfl
    obtain ⟨v0,hv0⟩:∃ v0,v0=v:=⟨_,rfl⟩
    rw [← hv0] at hs hcolx
    have hcol6:∀ q,q < p.m→∀ v,Kx q=some v→∀ kk,v.ownBlock=some kk→¬ (Ent.grp [.row v0 p.m ((ends p p.m).map B) 36 16,.seg p.g (sprC p (tdn none) 1 (ttv none) (cnt Kx p.m)) 149,.seg p.cg (colsF (fun q=>colC (Kx q)) p.m) 203]).keys kk:=fun q hq v hv kk h1 ⟨e,he,hk⟩=>by
      simp only [List.mem_cons,List.not_mem_nil,or_false] at he
      obtain ⟨b,cap,cur,rfl,_,_,_,_,hn1,hn2⟩:=(hcolx q hq v hv).1
      simp only [Value.ownBlock,Option.some.injEq] at h1
      subst h1
      rcases he with rfl | rfl | rfl
      · exact (hcolx q hq _ hv).2 _ rfl hk
      · exact hn1 hk
      · exact hn2 hk
    have hfr0:=hs.fr
    have hown0:=hs.own
    obtain ⟨sz0,hsz0⟩:∃ s:Nat,s=ww.heap.size:=⟨_,rfl⟩
    have hsz1:w.heap.size≤sz0:=by rw [hsz0]; exact hfr0.size
    replace hs:=hs.rebase
    have hbw:ww.heap[b1]?=some (.cells #[.pointer (some ⟨p.g,0,none⟩)] 29 (0,0)):=hbw0
    refine wp_region_rgX (J:=[13]) pmix 16 (by kernel_rfl) (by kernel_rfl) rfl rfl hs ?_
    simp only [List.take_succ_cons,List.take_zero]
    refine rg_q (fun ac ww h=>c_loadS un29 rfl (h.ev rfl) (h.blk hbw) rfl) rfl ?_
    refine rg_q (fun ac ww h=>c_loadS un29 rfl (h.ev rfl) (h.blk hbw) rfl) rfl ?_
    refine rg_q (fun ac ww h=>c_nil (h.ev rfl)) rfl ?_
    refine rg_q (fun ac ww h=>c_fld fl149_2 (h.ev rfl)) rfl ?_
    refine rg_q (fun ac ww h=>c_loadS un3 rfl (h.ev rfl) (h.blk (hs.seg (i:=1) rfl)) ((sprC_at ho.seed 0).trans rfl)) rfl ?_
    refine rg_q (fun ac ww h=>c_loadS un29 rfl (h.ev rfl) (h.blk hbw) rfl) rfl ?_
    refine rg_q (fun ac ww h=>c_nil (h.ev rfl)) rfl ?_
    refine rg_q (fun ac ww h=>c_fld fl149_3 (h.ev rfl)) rfl ?_
    refine rg_q (fun ac ww h=>c_loadS un25 rfl (h.ev rfl) (h.blk (hs.seg (i:=1) rfl)) ((sprC_at ho.seed 1).trans rfl)) rfl ?_
    refine rg_q (fun ac ww h=>c_move (h.ev rfl)) rfl ?_
    refine rg_callE (tupG [] [I 0] (groveE p.d p.ep (ends p p.m) p.H)) (fun _ _ _ _ _ h=>h) fu106 (fun ac ww h=>?_) rfl ?_
    · exact ⟨_,.cons (h.ev rfl) (.cons (h.ev rfl) (.cons (h.ev rfl) (.nil))),grove_New p.d p.ep (ends p p.m) p.m p.H _ (ends_len p) ho.h6 rfl hxl _ ((Rd.of_row (hs.get (i:=0) rfl)).fr0 h.fr)⟩
    refine rg_moveG rfl rfl rfl ?_
    refine rg_extGe rfl rfl rfl rfl ?_
    refine rg_extGc rfl rfl rfl (fun _=>rfl) ?_
    refine rg_q (fun ac ww h=>c_nil (h.ev rfl)) rfl ?_
    refine rg_q (fun ac ww h=>c_fld fl149_6 (h.ev rfl)) rfl ?_
    refine rg_nil fun ac ww L' hf hfe hs hlk=>?_
    simp only [List.drop_succ_cons,List.drop_zero]
    obtain ⟨v37,L37,M37,h37,e37,⟨v25,L25,M25,h25,e25,⟨v36,L36,M36,h36,e36,rfl,rfl⟩,rfl⟩,rfl⟩:=hfe
    replace hs:=hs.add h37
    replace hs:=hs.add h25
    replace hs:=hs.add h36
    obtain ⟨tv36,rfl,e36⟩:=e36
    obtain ⟨-,rfl⟩:=e25
    obtain rfl:=lk_move (j:=11) hlk (by decide) rfl (by kernel_rfl) h25 h36
    obtain ⟨-,rfl⟩:=e37
    obtain rfl:=lk_ext (j:=12) hlk (by decide) rfl (by kernel_rfl) h37 h25 rfl
    obtain ⟨gT,vT,psT,rfl,hpsT,rfl⟩:=e36
    have hTge:∀ e∈groveL p.d p.ep gT vT psT,∀ kk,e.keys kk→sz0≤kk:=fun e he kk hkk=>(hs.own e (List.mem_append_left _ he) kk hkk).elim (fun h=>by rw [hsz0]; exact h) fun ⟨e2,he2,hk2⟩=>by
      have h5:=(List.pairwise_append.1 hs.has.apart).2.2 e he e2 he2 kk hkk
      exact (h5 hk2).elim
    refine sk_store (i:=3) hs ty144 rfl rfl rfl rfl rfl rfl (by rw [sprC_length ho.seed]; decide) (sprC_put ho.seed) (fun ww hs=>late_turn rfl rfl (late_nil)) fun ww hs=>?_
    refine s_end ?_
    replace hs:=hs.sub (F':=[]) trivial
    refine s_ret_end hs rfl .nil rfl ⟨_,rfl,(Fr.rebase hfr0 hown0 hs.fr),?_⟩
    exact ⟨rfl,Kx,_,hall0,hext,⟨gT,vT,psT,rfl,hpsT,hs.has.pick (L':=groveL p.d p.ep gT vT psT) (by simp only [groveL]; exact .cons_cons _ (.cons_cons _ (List.nil_sublist _))),fun e he kk hkk=>by
      simp only [groveL,List.mem_cons,List.not_mem_nil,or_false] at he
      rcases he with rfl | rfl
      · exact ⟨apart_at hs.has.apart (i:=0) (j:=3) rfl rfl (by decide) kk hkk,apart_at hs.has.apart (i:=0) (j:=4) rfl rfl (by decide) kk hkk⟩
      · exact ⟨apart_at hs.has.apart (i:=1) (j:=3) rfl rfl (by decide) kk hkk,apart_at hs.has.apart (i:=1) (j:=4) rfl rfl (by decide) kk hkk⟩,fun e he kk hkk=>by
      simp only [groveL,List.mem_cons,List.not_mem_nil,or_false] at he
      exact Nat.le_trans hsz1 (hTge e (by simp only [groveL,List.mem_cons,List.not_mem_nil,or_false]; exact he) kk hkk)⟩,hnewx,fun q hq v hv=>(hcolx q hq v hv).1.frk hs.fr (hcol6 q hq v hv),hs.seg (i:=3) rfl,hs.seg (i:=4) rfl⟩
end Go.Proofs.YtklajbdbnnceiaaGreat
end

section
/- Springs: the tree,made once. -/
namespace Go.Proofs.YtklajbdbnnceiaaGreat
open Go Go.Fw
open Sha
def SpTree (w:World) (p:Spr) (K:Nat→Option Value) (t:Option Value) (pv:Value) (K':Nat→Option Value):Prop:=SpAt w p 0 K' (some pv)∧(∀ q,q < p.m→(K' q).isSome=true)∧ext p K K'∧∀ u,t=some u→u=pv∧K'=K
def SpNew (w w':World) (p:Spr) (K:Nat→Option Value) (t:Option Value) (pv:Value) (K':Nat→Option Value):Prop:=(∀ q,q < p.m→∀ v,K' q=some v→K q=some v∨freshV w v)∧(t=some pv∨TreeF w w' p pv)
theorem sprC_one {p:Spr} (h:p.seed.length=32) {dn lk:Int} {tv:Value} {made:Nat} {v:Int}:(sprC p dn lk tv made).set 39 (.int .i32 v)=sprC p dn v tv made:=by
  rw [show (39:Nat)=35 + 4 from rfl,sprC_set h 4 _ (by decide)]
  rfl
theorem sprC_done {p:Spr} (h:p.seed.length=32) {dn lk:Int} {tv:Value} {made:Nat} {v:Int}:(sprC p dn lk tv made).set 38 (.int .u32 v)=sprC p v lk tv made:=by
  rw [show (38:Nat)=35 + 3 from rfl,sprC_set h 3 _ (by decide)]
  rfl
theorem tree_once (p:Spr) (ho:p.Ok) (K:Nat→Option Value) (t:Option Value) (b1:Nat) (w:World) (hsp:SpAt w p 0 K t) (h1:w.heap[b1]?=some (.cells #[.pointer (some ⟨p.g,0,none⟩)] 29 (0,0))) (hb1:¬ SpM p b1) :
    Ctr Tryz.prog 102 [.pointer (some ⟨p.g,0 + 38,none⟩),.func (.func 105) #[] #[.pointer (some ⟨b1,0,none⟩)]] w (SpM p) fun v w'=>v=.tuple #[]∧∃ K' pv,SpTree w' p K t pv K'∧SpNew w w' p K t pv K':=by
  rw [show 0 + 38=38 from rfl]
  cases ht:t with
  | some u =>
    subst ht
    refine Ctr.of (once_done ⟨p.g,38,none⟩ 1 (by decide) _ w (cell_list hsp.hg ((sprC_at ho.seed 3).trans rfl))) fun e w' ⟨he,hw⟩=>?_
    subst hw
    exact ⟨_,he,.refl _ _,rfl,K,u,⟨hsp,(hsp.tree u rfl).2,fun _ _ _=>id,fun u' h=>by cases h; exact ⟨rfl,rfl⟩⟩,fun q hq v hv=>.inl hv,.inl rfl⟩
  | none =>
    subst ht
    have hne:p.g ≠ b1:=fun e=>hb1 (.inl e.symm)
    have hg1:=setCell_heap (o:=39) (.int .i32 1) hsp.hg
    rw [sprC_one ho.seed] at hg1
    have hx:=setCell_heap' (o:=39) (.int .i32 1) hsp.hg
    have hc1:=(hx p.cg ho.ne.symm).trans hsp.hc
    have hb:=(hx b1 hne.symm).trans h1
    have hf1:=(Fr.setCell w p.g 39 (.int .i32 1)).mono (M':=SpM p) fun k _ hk=>.inl hk
    have hsp1:SpAt (w.setCell ⟨p.g,39,none⟩ (.int .i32 1)) p 1 K none:=hsp.re hf1 hg1 hc1 (fun _ _ _=>.inl) fun v h=>by cases h
    have hcall:=spring_whole1 p ho K b1 hb1 _ hsp1 hb
    refine Ctr.of (once_186 p.g 38 _ (fun w'=>Fr (SpM p) (w.setCell ⟨p.g,39,none⟩ (.int .i32 1)) w'∧∃ K' pv,(∀ q,q < p.m→(K' q).isSome=true)∧ext p K K'∧TreeF w w' p pv∧(∀ q,q < p.m→∀ v,K' q=some v→K q=some v∨freshV w v)∧(∀ q,q < p.m→∀ v,K' q=some v→Col w' p q v)∧w'.heap[p.g]?=some (.cells (sprC p 0 1 pv (cnt K' p.m)).toArray 149 (0,0))∧w'.heap[p.cg]?=some (.cells (colsF (fun q=>colC (K' q)) p.m).toArray 203 (0,0))) w
      (cell_list hsp.hg ((sprC_at ho.seed 3).trans rfl)) (cell_list hsp.hg ((sprC_at ho.seed 4).trans rfl)) (thawed hsp.hg) (thawed hsp.hg) (Calls.mono hcall fun e w' ⟨v,he,hf,hv,K',pv,h5,h6,h7,h7n,h8⟩=>⟨by rw [he,hv],hf,K',pv,h5,h6,h7.back hf1.size,fun q hq v hv=>(h7n q hq v hv).imp id fun h=>h.back hf1.size,h8⟩) ?_) ?_
    · rintro w' ⟨_,K',pv,_,_,_,_,_,h7,_⟩
      exact ⟨cell_list h7 ((sprC_at ho.seed 3).trans rfl),cell_list h7 ((sprC_at ho.seed 4).trans rfl),thawed h7,thawed h7⟩
    · rintro e w' ⟨he,w1,⟨hf,K',pv,h5,h6,h7,h7n,h8,h9,h10⟩,hw⟩
      have h9d:w1.drew.heap[p.g]?=_:=h9
      have e1:=setCell_heap (o:=38) (.int .u32 1) h9d
      have e1':=setCell_heap' (o:=38) (.int .u32 1) h9d
      rw [sprC_done ho.seed] at e1
      have e2:=setCell_heap (o:=38 + 1) (.int .i32 0) e1
      have e2':=setCell_heap' (o:=38 + 1) (.int .i32 0) e1
      rw [show 38 + 1=39 from rfl,sprC_one ho.seed] at e2
      have hf2:Fr (SpM p) w1 w':=by
        rw [hw]
        exact ((Fr.drew w1).mono fun _ _=>False.elim).trans (((Fr.setCell _ p.g _ _).mono fun k _ hk=>.inl hk).trans ((Fr.setCell _ p.g _ _).mono fun k _ hk=>.inl hk) fun _ _=>id) fun _ _=>id
      have hcw:w'.heap[p.cg]?=some (.cells (colsF (fun q=>colC (K' q)) p.m).toArray 203 (0,0)):=by
        rw [hw]
        exact (e2' p.cg ho.ne.symm).trans ((e1' p.cg ho.ne.symm).trans h10)
      have hgw:w'.heap[p.g]?=some (.cells (sprC p 1 0 pv (cnt K' p.m)).toArray 149 (0,0)):=by rw [hw]; exact e2
      exact ⟨_,he,(hf1.trans hf fun _ _=>id).trans hf2 fun _ _=>id,rfl,K',pv,⟨⟨hgw,hcw,fun q hq v hv=>(h8 q hq v hv).fr hf2,fun v hv=>by cases hv; exact ⟨h7.at.fr hf2,h5⟩⟩,h5,h6,fun u h=>by cases h⟩,h7n,.inr (h7.fr hf2)⟩
theorem spring_whole (p:Spr) (ho:p.Ok) (K:Nat→Option Value) (t:Option Value) (w:World) (hsp:SpAt w p 0 K t):Ctr Tryz.prog 65 [.pointer (some ⟨p.g,0,none⟩)] w (SpM p) (fun v w'=>∃ K',SpTree w' p K t v K'∧SpNew w w' p K t v K'):=by
  refine fn_start (N:=12) Tryz.func65 rfl rfl rfl fun ac hk=>?_
  have hs:=St.start2 hk ho.ne hsp.hg hsp.hc
  refine wp_seq (wp_reg ?_)
  refine s_box hs rfl rfl rfl fun ac ww g1 hs=>?_
  refine zA hs fun ac hs=>?_
  refine s_end ?_
  replace hs:=hs.sub (F':=[(1,_),(2,_)]) ⟨rfl,rfl,trivial⟩
  refine then_n (wp_seq (wp_reg ?_))
  refine s_q hs (c_loadS un29 rfl (hs.ev rfl) (hs.seg (i:=0) rfl) rfl) rfl fun ac hs=>?_
  refine s_q hs (c_nil (hs.ev rfl)) rfl fun ac hs=>?_
  refine s_q hs (c_fld fl149_5 (hs.ev rfl)) rfl fun ac hs=>?_
  refine s_q hs (c_makeFunc .nil (.cons (hs.ev rfl) .nil)) rfl fun ac hs=>?_
  have hsz:=hs.fr.size
  have hs1b:=hs.seg (i:=0) rfl
  have hbx:∀ w':World,Fr (SpM p) ww w'→∀ {xs ys:List Value},w'.heap[p.g]?=some (.cells xs.toArray 149 (0,0))→w'.heap[p.cg]?=some (.cells ys.toArray 203 (0,0))→Has 0 w' [.seg g1 [.pointer (some ⟨p.g,0,none⟩)] 29,.seg p.g xs 149,.seg p.cg ys 203]:=fun w' hf xs ys ha hb =>
    Has.app (L:=[_]) ((hs.has.pick (.cons_cons _ (List.nil_sublist _))).same hf.size fun e he k hk=>by
      simp only [List.mem_singleton] at he
      subst he
      exact hf.block k (hs.has.lt _ (by simp) k hk) fun hm=>hm.elim (apart_at hs.has.apart (i:=0) (j:=1) rfl rfl (by decide) k hk) (apart_at hs.has.apart (i:=0) (j:=2) rfl rfl (by decide) k hk)) (has2 ho.ne ha hb) fun e1 h1 e2 h2 kk hk1 hk2=>by
      simp only [List.mem_singleton] at h1
      subst h1
      simp only [List.mem_cons,List.not_mem_nil,or_false] at h2
      rcases h2 with rfl | rfl
      · exact apart_at hs.has.apart (i:=0) (j:=1) rfl rfl (by decide) kk hk1 hk2
      · exact apart_at hs.has.apart (i:=0) (j:=2) rfl rfl (by decide) kk hk1 hk2
  have hbo:∀ xs ys:List Value,∀ e∈[Ent.seg g1 [.pointer (some ⟨p.g,0,none⟩)] 29,.seg p.g xs 149,.seg p.cg ys 203],∀ k,e.keys k→w.heap.size≤k∨SpM p k:=fun xs ys e he k hk=>by
    rcases List.mem_cons.1 he with rfl | he
    · exact hs.own _ (by simp) k hk
    · exact own2 e he k hk
  refine s_callL hs fu102 (.cons (hs.ev rfl) (.cons (hs.ev rfl) .nil)) (tree_once p ho K t g1 _ (hsp.re hs.fr (hs.seg (i:=1) rfl) (hs.seg (i:=2) rfl) (fun _ _ _ h=>.inl h) fun v h=>⟨.inl h,(hsp.tree v h).2⟩) (hs.seg (i:=0) rfl) (fun hm=>hm.elim (fun e=>apart_at hs.has.apart (i:=0) (j:=1) rfl rfl (by decide) g1 rfl e) (fun e=>apart_at hs.has.apart (i:=0) (j:=2) rfl rfl (by decide) g1 rfl e))) (fun k _ h=>.inl h) rfl fun ac ww v7 hf hp hs=>?_
  obtain ⟨rfl,K',pv,hst,hsn⟩:=hp
  have h1b:=hs1b
  replace hs:=hs [.seg g1 [.pointer (some ⟨p.g,0,none⟩)] 29,.seg p.g _ 149,.seg p.cg _ 203] (hbx _ hf hst.1.hg hst.1.hc) (hbo _ _)
  refine s_end ?_
  replace hs:=hs.sub (F':=[(1,_),(2,_)]) ⟨rfl,rfl,trivial⟩
  refine then_n (wp_seq (wp_reg ?_))
  refine s_q hs (c_loadS un29 rfl (hs.ev rfl) (hs.seg (i:=0) rfl) rfl) rfl fun ac hs=>?_
  refine s_q hs (c_nil (hs.ev rfl)) rfl fun ac hs=>?_
  refine s_q hs (c_fld fl149_6 (hs.ev rfl)) rfl fun ac hs=>?_
  refine s_q hs (c_loadS un144 rfl (hs.ev rfl) (hs.seg (i:=1) rfl) ((sprC_at ho.seed 6).trans rfl)) rfl fun ac hs=>?_
  refine zA hs fun ac hs=>?_
  refine s_end ?_
  replace hs:=hs.sub (F':=[(2,_)]) ⟨rfl,trivial⟩
  refine then_n (wp_ret ?_)
  refine s_ret hs rfl (.tmp (hs.tmp rfl) .nil) rfl ⟨_,rfl,hs.fr,?_⟩
  exact ⟨K',hst,fun q hq v hv=>(hsn.1 q hq v hv).imp id fun h=>h.back hsz,hsn.2.imp id fun h=>h.back hsz⟩
end Go.Proofs.YtklajbdbnnceiaaGreat
end

section
/- Springs: rules,new ones. -/
namespace Go.Proofs.YtklajbdbnnceiaaGreat
open Go Go.Fw
open Sha
def spRight (W S H:Int):Bool:=decide (0≤levels W) && decide (1≤S) && decide (S≤16) && decide (0≤H) && decide (H≤6)
def spFits (W S H d:Int) (ep:UInt32):Bool:=spRight W S H && decide (0≤d) && decide (d < W) && decide (ep.toNat≤(65536:UInt32).toNat)
def spLight (W S H:Int):Bool:=spRight W S H && decide (H≤3) && decide (S≤8)
theorem spRight_iff {W S H:Int}:spRight W S H=true ↔ 0≤levels W∧1≤S∧S≤16∧0≤H∧H≤6:=by
  unfold spRight
  simp only [Bool.and_eq_true,decide_eq_true_eq]
  constructor
  · rintro ⟨⟨⟨⟨h1,h2⟩,h3⟩,h4⟩,h5⟩; exact ⟨h1,h2,h3,h4,h5⟩
  · rintro ⟨h1,h2,h3,h4,h5⟩; exact ⟨⟨⟨⟨h1,h2⟩,h3⟩,h4⟩,h5⟩
theorem spFits_iff {W S H d:Int} {ep:UInt32}:spFits W S H d ep=true ↔ spRight W S H=true∧0≤d∧d < W∧ep.toNat≤(65536:UInt32).toNat:=by
  unfold spFits
  simp only [Bool.and_eq_true,decide_eq_true_eq]
  constructor
  · rintro ⟨⟨⟨h1,h2⟩,h3⟩,h4⟩; exact ⟨h1,h2,h3,h4⟩
  · rintro ⟨h1,h2,h3,h4⟩; exact ⟨⟨⟨h1,h2⟩,h3⟩,h4⟩
structure SpIs (p:Spr) (W S H:Int) (seed:List UInt8) (d:Int) (ep:UInt32):Prop where
  ok:p.Ok
  W:p.W=W
  S:(p.S:Int)=S
  H:(p.H:Int)=H
  seed:p.seed=seed
  d:p.d=d
  ep:p.ep=ep
theorem rep_cols (m:Nat):(List.replicate m ([U 0]++[Value.int .i32 0]++[U 0]++[Value.slice none 0 0])).flatten=colsF (fun _=>colC none) m:=by
  induction m with
  | zero=>rfl
  | succ m ih=>rw [List.replicate_succ',List.flatten_append,ih,colsF_succ]; rfl
theorem spr_build {cg:Nat} {W S H d:Int} {Sn Hn:Nat} {seed:List UInt8} {ep:UInt32} (hS:S=Sn) (hH:H=Hn) (hsd:seed.length=32) :
    flatCells [.agg #[I W,I S,I H],.agg (seed.map B).toArray,I d,U ep,.slice (some ⟨cg,0,none⟩) (2 ^ Hn) (2 ^ Hn)]++(List.replicate 3 (I 0)++(List.replicate 32 (0:UInt8)).map B++[I 0]++[U 0]++[Value.slice none 0 0]++[U 0]++[Value.int .i32 0]++[U 0]++[Value.pointer none]++[I 0]).drop (flatCells [.agg #[I W,I S,I H],.agg (seed.map B).toArray,I d,U ep,.slice (some ⟨cg,0,none⟩) (2 ^ Hn) (2 ^ Hn)]).length=sprC ⟨0,cg,W,Sn,Hn,seed,d,ep⟩ 0 0 (.pointer none) 0:=by
  have hl:(flatCells [.agg #[I W,I S,I H],.agg (seed.map B).toArray,I d,U ep,.slice (some ⟨cg,0,none⟩) (2 ^ Hn) (2 ^ Hn)]).length=38:=by simp [flatCells,Value.cells,hsd]
  rw [hl,hS,hH]
  simp [flatCells,Value.cells,sprC,Spr.m]
theorem int_of {n:Int} (h:0≤n):∃ k:Nat,n=k:=⟨n.toNat,by omega⟩
theorem spring_Right (W S H:Int) (w:World) :Ctr Tryz.prog 63 [.agg #[I W,I S,I H]] w (fun _=>False) (fun v _=>v=.bool (spRight W S H)):=by
  refine fn_start (N:=27) Tryz.func63 rfl rfl rfl fun ac hk=>?_
  have hs:=St.start hk w
  refine wp_seq (wp_reg ?_)
  refine s_box hs rfl rfl rfl fun ac ww g1 hs=>?_
  refine zA hs fun ac hs=>?_
  refine s_end ?_
  replace hs:=hs.sub (F':=[(1,_),(2,_)]) ⟨rfl,rfl,trivial⟩
  refine then_n (wp_seq (wp_reg ?_))
  refine s_q hs (c_fld fl33_0 (hs.ev rfl)) rfl fun ac hs=>?_
  refine s_q hs (c_loadS un3 rfl (hs.ev rfl) (hs.seg (i:=0) rfl) rfl) rfl fun ac hs=>?_
  refine s_call hs fu101 (.cons (hs.ev rfl) .nil) (ladder_Levels W _) rfl fun ac ww v5 hf hp hs=>?_
  obtain rfl:=hp
  replace hs:=hs [] (.nil _ _)
  refine s_q hs (c_geqI (hs.ev rfl) (hs.ev rfl)) rfl fun ac hs=>?_
  refine zM hs fun ac hs=>?_
  refine s_g hs rfl rfl (fun hg=>c_fld fl33_1 (hs.ev rfl)) rfl fun ac hs=>?_
  refine s_g hs rfl rfl (fun hg=>c_loadS un3 rfl (gev (hs.ev rfl) hg) (hs.seg (i:=0) rfl) rfl) rfl fun ac hs=>?_
  refine s_g hs rfl rfl (fun hg=>c_geqI (gev (hs.ev rfl) hg) (hs.ev rfl)) rfl fun ac hs=>?_
  refine s_q hs (c_and (hs.ev rfl) (hs.ev rfl)) rfl fun ac hs=>?_
  refine zM hs fun ac hs=>?_
  refine s_g hs rfl rfl (fun hg=>c_fld fl33_1 (hs.ev rfl)) rfl fun ac hs=>?_
  refine s_g hs rfl rfl (fun hg=>c_loadS un3 rfl (gev (hs.ev rfl) hg) (hs.seg (i:=0) rfl) rfl) rfl fun ac hs=>?_
  refine s_g hs rfl rfl (fun hg=>c_leqI (gev (hs.ev rfl) hg) (hs.ev rfl)) rfl fun ac hs=>?_
  refine s_q hs (c_and (hs.ev rfl) (hs.ev rfl)) rfl fun ac hs=>?_
  refine zM hs fun ac hs=>?_
  refine s_g hs rfl rfl (fun hg=>c_fld fl33_2 (hs.ev rfl)) rfl fun ac hs=>?_
  refine s_g hs rfl rfl (fun hg=>c_loadS un3 rfl (gev (hs.ev rfl) hg) (hs.seg (i:=0) rfl) rfl) rfl fun ac hs=>?_
  refine s_g hs rfl rfl (fun hg=>c_geqI (gev (hs.ev rfl) hg) (hs.ev rfl)) rfl fun ac hs=>?_
  refine s_q hs (c_and (hs.ev rfl) (hs.ev rfl)) rfl fun ac hs=>?_
  refine zM hs fun ac hs=>?_
  refine s_g hs rfl rfl (fun hg=>c_fld fl33_2 (hs.ev rfl)) rfl fun ac hs=>?_
  refine s_g hs rfl rfl (fun hg=>c_loadS un3 rfl (gev (hs.ev rfl) hg) (hs.seg (i:=0) rfl) rfl) rfl fun ac hs=>?_
  refine s_g hs rfl rfl (fun hg=>c_leqI (gev (hs.ev rfl) hg) (hs.ev rfl)) rfl fun ac hs=>?_
  refine s_q hs (c_and (hs.ev rfl) (hs.ev rfl)) rfl fun ac hs=>?_
  refine zA hs fun ac hs=>?_
  refine s_end ?_
  replace hs:=hs.sub (F':=[(2,_)]) ⟨rfl,trivial⟩
  refine then_n (wp_ret ?_)
  refine s_ret hs rfl (.tmp (hs.tmp rfl) .nil) rfl ⟨_,rfl,hs.fr,?_⟩
  rfl
theorem ref08_Right (W S H:Int) (w:World) :Ctr Tryz.prog 61 [.agg #[I W,I S,I H]] w (fun _=>False) (fun v _=>v=.bool (spRight W S H)):=by
  refine fn_start (N:=27) Tryz.func61 rfl rfl rfl fun ac hk=>?_
  have hs:=St.start hk w
  refine wp_seq (wp_reg ?_)
  refine s_box hs rfl rfl rfl fun ac ww g1 hs=>?_
  refine zA hs fun ac hs=>?_
  refine s_end ?_
  replace hs:=hs.sub (F':=[(1,_),(2,_)]) ⟨rfl,rfl,trivial⟩
  refine then_n (wp_seq (wp_reg ?_))
  refine s_q hs (c_fld fl23_0 (hs.ev rfl)) rfl fun ac hs=>?_
  refine s_q hs (c_loadS un3 rfl (hs.ev rfl) (hs.seg (i:=0) rfl) rfl) rfl fun ac hs=>?_
  refine s_call hs fu88 (.cons (hs.ev rfl) .nil) (ref06_Levels W _) rfl fun ac ww v5 hf hp hs=>?_
  obtain rfl:=hp
  replace hs:=hs [] (.nil _ _)
  refine s_q hs (c_geqI (hs.ev rfl) (hs.ev rfl)) rfl fun ac hs=>?_
  refine zM hs fun ac hs=>?_
  refine s_g hs rfl rfl (fun hg=>c_fld fl23_1 (hs.ev rfl)) rfl fun ac hs=>?_
  refine s_g hs rfl rfl (fun hg=>c_loadS un3 rfl (gev (hs.ev rfl) hg) (hs.seg (i:=0) rfl) rfl) rfl fun ac hs=>?_
  refine s_g hs rfl rfl (fun hg=>c_geqI (gev (hs.ev rfl) hg) (hs.ev rfl)) rfl fun ac hs=>?_
  refine s_q hs (c_and (hs.ev rfl) (hs.ev rfl)) rfl fun ac hs=>?_
  refine zM hs fun ac hs=>?_
  refine s_g hs rfl rfl (fun hg=>c_fld fl23_1 (hs.ev rfl)) rfl fun ac hs=>?_
  refine s_g hs rfl rfl (fun hg=>c_loadS un3 rfl (gev (hs.ev rfl) hg) (hs.seg (i:=0) rfl) rfl) rfl fun ac hs=>?_
  refine s_g hs rfl rfl (fun hg=>c_leqI (gev (hs.ev rfl) hg) (hs.ev rfl)) rfl fun ac hs=>?_
  refine s_q hs (c_and (hs.ev rfl) (hs.ev rfl)) rfl fun ac hs=>?_
  refine zM hs fun ac hs=>?_
  refine s_g hs rfl rfl (fun hg=>c_fld fl23_2 (hs.ev rfl)) rfl fun ac hs=>?_
  refine s_g hs rfl rfl (fun hg=>c_loadS un3 rfl (gev (hs.ev rfl) hg) (hs.seg (i:=0) rfl) rfl) rfl fun ac hs=>?_
  refine s_g hs rfl rfl (fun hg=>c_geqI (gev (hs.ev rfl) hg) (hs.ev rfl)) rfl fun ac hs=>?_
  refine s_q hs (c_and (hs.ev rfl) (hs.ev rfl)) rfl fun ac hs=>?_
  refine zM hs fun ac hs=>?_
  refine s_g hs rfl rfl (fun hg=>c_fld fl23_2 (hs.ev rfl)) rfl fun ac hs=>?_
  refine s_g hs rfl rfl (fun hg=>c_loadS un3 rfl (gev (hs.ev rfl) hg) (hs.seg (i:=0) rfl) rfl) rfl fun ac hs=>?_
  refine s_g hs rfl rfl (fun hg=>c_leqI (gev (hs.ev rfl) hg) (hs.ev rfl)) rfl fun ac hs=>?_
  refine s_q hs (c_and (hs.ev rfl) (hs.ev rfl)) rfl fun ac hs=>?_
  refine zA hs fun ac hs=>?_
  refine s_end ?_
  replace hs:=hs.sub (F':=[(2,_)]) ⟨rfl,trivial⟩
  refine then_n (wp_ret ?_)
  refine s_ret hs rfl (.tmp (hs.tmp rfl) .nil) rfl ⟨_,rfl,hs.fr,?_⟩
  rfl
theorem law08_Light (W S H:Int) (w:World) :Ctr Tryz.prog 11 [.agg #[I W,I S,I H]] w (fun _=>False) (fun v _=>v=.bool (spLight W S H)):=by
  refine fn_start (N:=15) Tryz.func11 rfl rfl rfl fun ac hk=>?_
  have hs:=St.start hk w
  refine wp_seq (wp_reg ?_)
  refine s_box hs rfl rfl rfl fun ac ww g1 hs=>?_
  refine zA hs fun ac hs=>?_
  refine s_end ?_
  replace hs:=hs.sub (F':=[(1,_),(2,_)]) ⟨rfl,rfl,trivial⟩
  refine then_n (wp_seq (wp_reg ?_))
  refine s_q hs (c_loadW ty23 ag23 (hs.ev rfl) (hs.seg (i:=0) rfl) (by rfl)) rfl fun ac hs=>?_
  refine s_call hs fu61 (.cons (hs.ev rfl) .nil) (ref08_Right W S H _) rfl fun ac ww v4 hf hp hs=>?_
  obtain rfl:=hp
  replace hs:=hs [] (.nil _ _)
  refine zM hs fun ac hs=>?_
  refine s_g hs rfl rfl (fun hg=>c_fld fl23_2 (hs.ev rfl)) rfl fun ac hs=>?_
  refine s_g hs rfl rfl (fun hg=>c_loadS un3 rfl (gev (hs.ev rfl) hg) (hs.seg (i:=0) rfl) rfl) rfl fun ac hs=>?_
  refine s_g hs rfl rfl (fun hg=>c_leqI (gev (hs.ev rfl) hg) (hs.ev rfl)) rfl fun ac hs=>?_
  refine s_q hs (c_and (hs.ev rfl) (hs.ev rfl)) rfl fun ac hs=>?_
  refine zM hs fun ac hs=>?_
  refine s_g hs rfl rfl (fun hg=>c_fld fl23_1 (hs.ev rfl)) rfl fun ac hs=>?_
  refine s_g hs rfl rfl (fun hg=>c_loadS un3 rfl (gev (hs.ev rfl) hg) (hs.seg (i:=0) rfl) rfl) rfl fun ac hs=>?_
  refine s_g hs rfl rfl (fun hg=>c_leqI (gev (hs.ev rfl) hg) (hs.ev rfl)) rfl fun ac hs=>?_
  refine s_q hs (c_and (hs.ev rfl) (hs.ev rfl)) rfl fun ac hs=>?_
  refine zA hs fun ac hs=>?_
  refine s_end ?_
  replace hs:=hs.sub (F':=[(2,_)]) ⟨rfl,trivial⟩
  refine then_n (wp_ret ?_)
  refine s_ret hs rfl (.tmp (hs.tmp rfl) .nil) rfl ⟨_,rfl,hs.fr,?_⟩
  rfl
theorem law08_To (W S H:Int) (w:World) :Ctr Tryz.prog 15 [.agg #[I W,I S,I H]] w (fun _=>False) (fun v _=>v=.agg #[I W,I S,I H]):=by
  refine fn_start (N:=10) Tryz.func15 rfl rfl rfl fun ac hk=>?_
  have hs:=St.start hk w
  refine wp_seq (wp_reg ?_)
  refine s_box hs rfl rfl rfl fun ac ww g1 hs=>?_
  refine s_alloc hs ty33 rfl fun ac ww g2 hs=>?_
  refine s_end ?_
  replace hs:=hs.sub (F':=[(1,_),(2,_)]) ⟨rfl,rfl,trivial⟩
  refine then_n (wp_seq (wp_reg ?_))
  refine s_q hs (c_fld fl23_0 (hs.ev rfl)) rfl fun ac hs=>?_
  refine s_q hs (c_loadS un3 rfl (hs.ev rfl) (hs.seg (i:=1) rfl) rfl) rfl fun ac hs=>?_
  refine s_q hs (c_fld fl23_1 (hs.ev rfl)) rfl fun ac hs=>?_
  refine s_q hs (c_loadS un3 rfl (hs.ev rfl) (hs.seg (i:=1) rfl) rfl) rfl fun ac hs=>?_
  refine s_q hs (c_fld fl23_2 (hs.ev rfl)) rfl fun ac hs=>?_
  refine s_q hs (c_loadS un3 rfl (hs.ev rfl) (hs.seg (i:=1) rfl) rfl) rfl fun ac hs=>?_
  refine s_q hs (c_buildS ty33 bp33 (.cons (hs.ev rfl) (.cons (hs.ev rfl) (.cons (hs.ev rfl) .nil))) ⟨rfl,rfl,rfl,trivial⟩ (by simp [flatCells,Value.cells]) rfl) rfl fun ac hs=>?_
  refine s_storeW (i:=0) hs ty33 rfl rfl rfl (by rfl) (by rfl) (by simp) fun ww hs=>?_
  refine s_end ?_
  replace hs:=hs.sub (F':=[(2,_)]) ⟨rfl,trivial⟩
  refine then_n (wp_ret ?_)
  refine s_ret hs rfl (.cell (hs.tmp rfl) (run_loadA ty33 ag33 (hs.seg (i:=0) rfl) rfl (by rfl)) .nil) rfl ⟨_,rfl,hs.fr,?_⟩
  rfl
theorem ref08_Many (W S:Int) (Hn:Nat) (h6:Hn≤6) (w:World) :Ctr Tryz.prog 18 [.agg #[I W,I S,I Hn]] w (fun _=>False) (fun v _=>v=I (2 ^ Hn:Nat)):=by
  refine fn_start (N:=14) Tryz.func18 rfl rfl rfl fun ac hk=>?_
  have hs:=St.start hk w
  refine wp_seq (wp_reg ?_)
  refine s_box hs rfl rfl rfl fun ac ww g1 hs=>?_
  refine zA hs fun ac hs=>?_
  refine s_end ?_
  replace hs:=hs.sub (F':=[(1,_),(2,_)]) ⟨rfl,rfl,trivial⟩
  refine then_n (wp_seq (wp_reg ?_))
  refine zA hs fun ac hs=>?_
  refine s_end (then_n (wp_seq (wp_seq (wp_reg ?_))))
  refine zA hs fun ac hs=>?_
  refine s_end (then_n (wp_block ?_))
  refine s_loop hs (X:=Nat) (fun k=>[(3,I (2 ^ k:Nat)),(4,I k)]) [(1,_),(2,_)] (fun _=>[_]) (fun n k=>k≤Hn∧n=Hn - k) (_) (0) (⟨Nat.zero_le _,rfl⟩) ⟨rfl,rfl,rfl,rfl,trivial⟩ rfl ?_
  rintro n k ac ww hok hs
  simp only [List.cons_append,List.nil_append] at hs
  obtain ⟨hk,rfl⟩:=hok
  have hp8:=pow64 (lv:=k) (by omega)
  have hp9:2 ^ (k + 1)=2 ^ k * 2:=Nat.pow_succ ..
  refine wp_seq (wp_seq (wp_reg ?_))
  refine zM hs fun ac hs=>?_
  refine s_q hs (c_fld fl23_2 (hs.ev rfl)) rfl fun ac hs=>?_
  refine s_q hs (c_loadS un3 rfl (hs.ev rfl) (hs.seg (i:=0) rfl) rfl) rfl fun ac hs=>?_
  refine s_q hs (c_lssI (hs.ev rfl) (hs.ev rfl)) rfl fun ac hs=>?_
  refine s_end (then_n ?_)
  refine s_cond hs rfl (fun hc=>?_) (fun hc=>?_)
  · try simp only [z1,z2,z3,z4,z5,z6,z7] at hc
    refine wp_skip (then_n (wp_seq (wp_block (wp_reg ?_))))
    refine zM hs fun ac hs=>?_
    refine s_q hs (c_mulI (hs.ev rfl) (hs.ev rfl) (by omega) (by omega)) rfl fun ac hs=>?_
    refine zA hs fun ac hs=>?_
    refine s_end (blk_n (then_n (wp_reg ?_)))
    refine zM hs fun ac hs=>?_
    refine s_q hs (c_addI (hs.ev rfl) (hs.ev rfl) (by omega) (by omega)) rfl fun ac hs=>?_
    refine zA hs fun ac hs=>?_
    refine s_end (then_n ?_)
    exact ⟨Hn - (k + 1),by omega,k + 1,⟨by omega,rfl⟩,St.next hs ⟨(congrArg (fun z=>some (I z)) (by omega)),rfl,rfl,rfl,trivial⟩ rfl⟩
  · try simp only [z1,z2,z3,z4,z5,z6,z7] at hc
    obtain rfl:k=Hn:=by omega
    refine wp_exit (then_e (then_e (blk_hit (then_n (wp_seq (wp_reg ?_))))))
    refine zM hs fun ac hs=>?_
    refine zA hs fun ac hs=>?_
    refine s_end ?_
    replace hs:=hs.sub (F':=[(2,_)]) ⟨rfl,trivial⟩
    refine then_n (wp_ret ?_)
    refine s_ret hs rfl (.tmp (hs.tmp rfl) .nil) rfl ⟨_,rfl,hs.fr,?_⟩
    rfl
theorem spring_New (W S H d:Int) (ep:UInt32) (seed:List UInt8) (hsd:seed.length=32) (w:World) :Ctr Tryz.prog 14 [.agg #[I W,I S,I H],.agg (seed.map B).toArray,I d,U ep] w (fun _=>False) (fun v w'=>(spFits W S H d ep=false∧v=.tuple #[.pointer none,I 1])∨(spFits W S H d ep=true∧∃ p,SpIs p W S H seed d ep∧SpAt w' p 0 (fun _=>none) none∧w.heap.size≤p.g∧w.heap.size≤p.cg∧v=.tuple #[.pointer (some ⟨p.g,0,none⟩),I 0])):=by
  refine fn_start (N:=37) Tryz.func14 rfl rfl rfl fun ac hk=>?_
  have hs:=St.start hk w
  refine wp_seq (wp_reg ?_)
  refine s_box hs rfl rfl rfl fun ac ww g4 hs=>?_
  refine s_box hs rfl rfl rfl fun ac ww g5 hs=>?_
  refine zA hs fun ac hs=>?_
  refine zA hs fun ac hs=>?_
  refine s_end ?_
  replace hs:=hs.sub (F':=[(2,_),(3,_),(4,_),(5,_),(8,_),(9,_)]) ⟨rfl,rfl,rfl,rfl,rfl,rfl,trivial⟩
  refine then_n (wp_seq (wp_seq (wp_reg ?_)))
  refine s_q hs (c_loadW ty33 ag33 (hs.ev rfl) (hs.seg (i:=1) rfl) (by rfl)) rfl fun ac hs=>?_
  refine s_call hs fu63 (.cons (hs.ev rfl) .nil) (spring_Right W S H _) rfl fun ac ww v11 hf hp hs=>?_
  obtain rfl:=hp
  replace hs:=hs [] (.nil _ _)
  refine s_q hs (c_not (hs.ev rfl)) rfl fun ac hs=>?_
  refine zM hs fun ac hs=>?_
  refine s_g hs rfl rfl (fun hg=>c_move (hs.ev rfl)) rfl fun ac hs=>?_
  refine s_g hs rfl rfl (fun hg=>c_lssI (gev (hs.ev rfl) hg) (hs.ev rfl)) rfl fun ac hs=>?_
  refine s_q hs (c_or (hs.ev rfl) (hs.ev rfl)) rfl fun ac hs=>?_
  refine zM hs fun ac hs=>?_
  refine s_g hs rfl rfl (fun hg=>c_move (hs.ev rfl)) rfl fun ac hs=>?_
  refine s_g hs rfl rfl (fun hg=>c_fld fl33_0 (hs.ev rfl)) rfl fun ac hs=>?_
  refine s_g hs rfl rfl (fun hg=>c_loadS un3 rfl (gev (hs.ev rfl) hg) (hs.seg (i:=1) rfl) rfl) rfl fun ac hs=>?_
  refine s_g hs rfl rfl (fun hg=>c_geqI (gev (hs.ev rfl) hg) (gev (hs.ev rfl) hg)) rfl fun ac hs=>?_
  refine s_q hs (c_or (hs.ev rfl) (hs.ev rfl)) rfl fun ac hs=>?_
  refine zM hs fun ac hs=>?_
  refine s_g hs rfl rfl (fun hg=>c_move (hs.ev rfl)) rfl fun ac hs=>?_
  refine s_g hs rfl rfl (fun hg=>c_gtrU (gev (hs.ev rfl) hg) (St.ev (v:=U 65536) hs rfl)) rfl fun ac hs=>?_
  refine s_q hs (c_or (hs.ev rfl) (hs.ev rfl)) rfl fun ac hs=>?_
  refine s_end ?_
  replace hs:=hs.sub (F':=[(2,_),(3,_),(4,_),(5,_),(8,_),(9,_),(26,_)]) ⟨rfl,rfl,rfl,rfl,rfl,rfl,rfl,trivial⟩
  refine then_n ?_
  refine s_cond hs rfl (fun hc=>?_) (fun hc=>?_)
  · simp only [Bool.or_eq_true,decide_eq_true_eq,Bool.not_eq_true'] at hc
    have hno:spFits W S H d ep=false:=by
      rw [← Bool.not_eq_true,spFits_iff]
      rintro ⟨h1,h2,h3,h4⟩
      rcases hc with ((hc | hc) | hc) | hc
      · rw [h1] at hc; cases hc
      · omega
      · omega
      · omega
    refine wp_seq (wp_reg ?_)
    refine zA hs fun ac hs=>?_
    refine zA hs fun ac hs=>?_
    refine s_end ?_
    replace hs:=hs.sub (F':=[(2,_),(3,_),(4,_),(5,_),(8,_),(9,_)]) ⟨rfl,rfl,rfl,rfl,rfl,rfl,trivial⟩
    refine then_n (wp_ret (then_r ?_))
    refine s_ret hs rfl (.tmp (hs.tmp rfl) (.tmp (hs.tmp rfl) .nil)) rfl ⟨_,rfl,hs.fr,?_⟩
    exact .inl ⟨hno,rfl⟩
  · simp only [Bool.or_eq_false_iff,decide_eq_false_iff_not,Bool.not_eq_false'] at hc
    obtain ⟨⟨⟨hr,hd0⟩,hdW⟩,hep⟩:=hc
    have hyes:spFits W S H d ep=true:=spFits_iff.2 ⟨hr,by omega,by omega,by omega⟩
    obtain ⟨hlv,hS1,hS16,hH0,hH6⟩:=spRight_iff.1 hr
    obtain ⟨Sn,hSn⟩:=int_of (show 0≤S by omega)
    obtain ⟨Hn,hHn⟩:=int_of hH0
    subst hHn
    subst hSn
    have hp64:=pow64 (lv:=Hn) (by omega)
    have hpi:=pow_le64 Hn (by omega)
    have hpj:=pow_pos Hn
    refine wp_skip (then_n (wp_seq ?_))
    refine wp_region_rg pmix 8 (by kernel_rfl) rfl hs ?_
    simp only [List.take_succ_cons,List.take_zero]
    refine rg_q (fun ac ww h=>c_loadW ty33 ag33 (h.ev rfl) (h.blk (hs.seg (i:=1) rfl)) (by rfl)) rfl ?_
    refine rg_q (fun ac ww h=>c_loadW ty129 rfl (h.ev rfl) (h.blk (hs.seg (i:=0) rfl)) (by rw [List.length_map,hsd])) rfl ?_
    refine rg_q (fun ac ww h=>c_move (h.ev rfl)) rfl ?_
    refine rg_q (fun ac ww h=>c_move (h.ev rfl)) rfl ?_
    refine rg_q (fun ac ww h=>c_fld fl33_2 (h.ev rfl)) rfl ?_
    refine rg_q (fun ac ww h=>c_loadS un3 rfl (h.ev rfl) (h.blk (hs.seg (i:=1) rfl)) rfl) rfl ?_
    refine rg_q (fun ac ww h=>c_shlI (h.ev rfl) (h.ev rfl) (by omega) (by rw [Int.one_mul]; omega) (by rw [Int.one_mul]; omega)) rfl ?_
    refine rg_make (n:=(2 ^ Hn)) un132 ty203 rfl rfl (by push_cast; omega) (by push_cast; omega) (by omega) (by unfold maxLen; omega) (rep_cols _) rfl ?_
    refine rg_nil fun ac ww L' hf hfe hs=>?_
    simp only [List.drop_succ_cons,List.drop_zero]
    obtain ⟨v34,L34,M34,h34,e34,rfl,rfl⟩:=hfe
    replace hs:=hs.add h34
    obtain ⟨g34,rfl,rfl⟩:=e34
    refine s_q hs (c_buildS (zc:=(sprC ⟨0,g34,W,Sn,Hn,seed,d,ep⟩ 0 0 (.pointer none) 0)) ty149 bp149 (.cons (hs.ev rfl) (.cons (hs.ev rfl) (.cons (hs.ev rfl) (.cons (hs.ev rfl) (.cons (hs.ev rfl) .nil))))) ⟨rfl,(by simp [Value.cells,hsd]),(by simp [Value.cells,hsd]),(by simp [Value.cells,hsd]),(by simp [Value.cells,hsd]),trivial⟩ (by simp [flatCells,Value.cells,hsd]) (spr_build rfl rfl hsd)) rfl fun ac hs=>?_
    refine s_box hs rfl rfl rfl fun ac ww g36 hs=>?_
    refine zA hs fun ac hs=>?_
    refine zA hs fun ac hs=>?_
    refine s_end ?_
    replace hs:=hs.sub (F':=[(8,_),(9,_)]) ⟨rfl,rfl,trivial⟩
    refine then_n (wp_ret ?_)
    refine s_ret hs rfl (.tmp (hs.tmp rfl) (.tmp (hs.tmp rfl) .nil)) rfl ⟨_,rfl,hs.fr,?_⟩
    exact .inr ⟨hyes,⟨g36,g34,W,Sn,Hn,seed,d,ep⟩,⟨⟨fun e=>apart_at hs.has.apart (i:=0) (j:=1) rfl rfl (by decide) g36 rfl e,(show Sn≤16 by omega),(show Hn≤6 by omega),hsd⟩,rfl,rfl,rfl,rfl,rfl,rfl⟩,⟨(by show ww.heap[g36]?=_; rw [cnt_none]; exact hs.seg (i:=0) rfl),hs.seg (i:=1) rfl,(fun _ _ _ h=>by cases h),(fun _ h=>by cases h)⟩,(hs.own _ (List.mem_of_getElem? (i:=0) rfl) g36 rfl).resolve_right id,(hs.own _ (List.mem_of_getElem? (i:=1) rfl) g34 rfl).resolve_right id,rfl⟩
end Go.Proofs.YtklajbdbnnceiaaGreat
end

section
/- What a spring tells. -/
namespace Go.Proofs.YtklajbdbnnceiaaGreat
open Go Go.Fw
open Sha
theorem keepB {N:Nat} {F:List (Nat × Value)} {p:Spr} (ho:p.Ok) {b:Nat} {xs0:List Value} {T0:TypeId} {ys zs:List Value} {T1 T2:TypeId} {w w1 w':World} {a:Act} (hs:St N F [.seg b xs0 T0,.seg p.g ys T1,.seg p.cg zs T2] (SpM p) w a w1) (hf:Fr (SpM p) w1 w') {xs ys':List Value}
    (ha:w'.heap[p.g]?=some (.cells xs.toArray 149 (0,0))) (hb:w'.heap[p.cg]?=some (.cells ys'.toArray 203 (0,0))):Has 0 w' [.seg b xs0 T0,.seg p.g xs 149,.seg p.cg ys' 203]∧∀ e∈[Ent.seg b xs0 T0,.seg p.g xs 149,.seg p.cg ys' 203],∀ k,e.keys k→w.heap.size≤k∨SpM p k:=by
  refine ⟨Has.app (L:=[_]) ((hs.has.pick (.cons_cons _ (List.nil_sublist _))).same hf.size fun e he k hk=>?_) (has2 ho.ne ha hb) fun e1 h1 e2 h2 kk hk1 hk2=>?_,fun e he k hk=>?_⟩
  · simp only [List.mem_singleton] at he
    subst he
    exact hf.block k (hs.has.lt _ (by simp) k hk) fun hm=>hm.elim (apart_at hs.has.apart (i:=0) (j:=1) rfl rfl (by decide) k hk) (apart_at hs.has.apart (i:=0) (j:=2) rfl rfl (by decide) k hk)
  · simp only [List.mem_singleton] at h1
    subst h1
    simp only [List.mem_cons,List.not_mem_nil,or_false] at h2
    rcases h2 with rfl | rfl
    · exact apart_at hs.has.apart (i:=0) (j:=1) rfl rfl (by decide) kk hk1 hk2
    · exact apart_at hs.has.apart (i:=0) (j:=2) rfl rfl (by decide) kk hk1 hk2
  · rcases List.mem_cons.1 he with rfl | he
    · exact hs.own _ (by simp) k hk
    · exact own2 e he k hk
theorem SpTree.after {w w1 w2 w3:World} {p:Spr} {K K':Nat→Option Value} {t:Option Value} {pv:Value} {M:Nat→Prop} (hsp:SpAt w p 0 K t) (hst:SpTree w2 p K t pv K') (hsn:SpNew w1 w2 p K t pv K') (h01:w.heap.size≤w1.heap.size) (h03:Fr (SpM p) w w3) (h23:Fr M w2 w3)
    (hM:∀ k,M k→k=p.g∨k=p.cg∨w.heap.size≤k∧k < w1.heap.size) (hg3:w3.heap[p.g]?=w2.heap[p.g]?) (hc3:w3.heap[p.cg]?=w2.heap[p.cg]?):SpTree w3 p K t pv K'∧SpNew w w3 p K t pv K':=by
  have hM2:∀ k,M k→k=p.g∨k=p.cg∨k < w1.heap.size:=fun k hk=>(hM k hk).imp id fun h=>h.imp id fun h=>h.2
  refine ⟨⟨⟨hg3.trans hst.1.hg,hc3.trans hst.1.hc,fun q hq v hv=>?_,fun v hv=>?_⟩,hst.2.1,hst.2.2.1,hst.2.2.2⟩,fun q hq v hv=>(hsn.1 q hq v hv).imp id fun h=>h.back h01,hsn.2.imp id fun h=>(h.frk h23 hM2).back h01⟩
  · rcases hsn.1 q hq v hv with h | h
    · exact (hsp.col q hq v h).fr h03
    · have hc:=hst.1.col q hq v hv
      refine hc.frk h23 fun k hk hm=>?_
      have h5:=h k hk
      obtain ⟨b,cap,cur,rfl,_,_,_,_,h6,h7⟩:=hc
      simp only [Value.ownBlock,Option.some.injEq] at hk
      subst hk
      rcases hM2 _ hm with e | e | e
      · exact h6 e
      · exact h7 e
      · omega
  · cases hv
    refine ⟨?_,hst.2.1⟩
    rcases hsn.2 with h | h
    · exact (hsp.tree _ h).1.fr h03
    · exact (h.frk h23 hM2).at
def elOk (p:Spr) (q r:Int):Bool:=decide (0≤q) && decide (q < (p.m:Int)) && decide (0≤r) && decide (r≤(p.S:Int))
def elB (p:Spr) (q r:Int):List UInt8:=if elOk p q r=true then el p q.toNat r.toNat else List.replicate 16 0
def elR (p:Spr) (q r:Int):Int:=if elOk p q r=true then 0 else 1
theorem elOk_iff {p:Spr} {q r:Int}:elOk p q r=true ↔ 0≤q∧q < (p.m:Int)∧0≤r∧r≤(p.S:Int):=by
  unfold elOk
  simp only [Bool.and_eq_true,decide_eq_true_eq]
  constructor
  · rintro ⟨⟨⟨h1,h2⟩,h3⟩,h4⟩; exact ⟨h1,h2,h3,h4⟩
  · rintro ⟨h1,h2,h3,h4⟩; exact ⟨⟨⟨h1,h2⟩,h3⟩,h4⟩
def elK (p:Spr) (K:Nat→Option Value) (q r:Int) (K':Nat→Option Value):Prop:=if elOk p q r=true then ∃ v,(∀ u,K q.toNat=some u→u=v)∧K'=updF K q.toNat (some v) else K'=K
theorem spring_Rules (p:Spr) (ho:p.Ok) (lk:Int) (K:Nat→Option Value) (t:Option Value) (w:World) (hsp:SpAt w p lk K t):Ctr Tryz.prog 74 [.pointer (some ⟨p.g,0,none⟩)] w (fun _=>False) (fun v _=>v=.agg #[I p.W,I p.S,I p.H]):=by
  refine fn_start (N:=10) Tryz.func74 rfl rfl rfl fun ac hk=>?_
  have hs:=St.start hk w
  refine wp_seq (wp_reg ?_)
  refine s_alloc hs ty33 rfl fun ac ww g2 hs=>?_
  refine s_end (then_n (wp_seq (wp_seq (wp_reg ?_))))
  refine zM hs fun ac hs=>?_
  refine s_q hs (c_eqlNil un29 (hs.ev rfl) (hs.ev rfl)) rfl fun ac hs=>?_
  refine s_end ?_
  replace hs:=hs.sub (F':=[(0,_),(2,_),(4,_)]) ⟨rfl,rfl,rfl,trivial⟩
  refine then_n ?_
  refine wp_cond_false (hs.ev rfl) ?_
  refine wp_skip (then_n (wp_seq (wp_reg ?_)))
  refine zM hs fun ac hs=>?_
  refine s_q hs (c_nil (hs.ev rfl)) rfl fun ac hs=>?_
  refine s_q hs (c_fld fl149_0 (hs.ev rfl)) rfl fun ac hs=>?_
  refine s_q hs (c_loadA ty33 ag33 (hs.ev rfl) (hs.old hsp.hg id) (show ((sprC p _ _ _ _).drop 0).take 3=[I p.W,I p.S,I p.H] from rfl) rfl) rfl fun ac hs=>?_
  refine s_storeW (i:=0) hs ty33 rfl rfl rfl (by rfl) (by rfl) (by simp) fun ww hs=>?_
  refine s_end ?_
  replace hs:=hs.sub (F':=[(2,_)]) ⟨rfl,trivial⟩
  refine then_n (wp_ret ?_)
  refine s_ret hs rfl (.cell (hs.tmp rfl) (run_loadA ty33 ag33 (hs.seg (i:=0) rfl) rfl (by rfl)) .nil) rfl ⟨_,rfl,hs.fr,?_⟩
  rfl
end Go.Proofs.YtklajbdbnnceiaaGreat
end

section
/- What a spring tells: paths,elements. -/
namespace Go.Proofs.YtklajbdbnnceiaaGreat
open Go Go.Fw
open Sha
theorem SpAt.after {w w1 w2 w3:World} {p:Spr} {lk:Int} {K K':Nat→Option Value} {t:Option Value} {M:Nat→Prop} (hsp:SpAt w p lk K t) (hsp2:SpAt w2 p lk K' t) (hsn:∀ q,q < p.m→∀ v,K' q=some v→K q=some v∨freshV w1 v) (h03:Fr (SpM p) w w3) (h23:Fr M w2 w3)
    (hM:∀ k,M k→k=p.g∨k=p.cg∨w.heap.size≤k∧k < w1.heap.size) (hg3:w3.heap[p.g]?=w2.heap[p.g]?) (hc3:w3.heap[p.cg]?=w2.heap[p.cg]?):SpAt w3 p lk K' t:=by
  have hM2:∀ k,M k→k=p.g∨k=p.cg∨k < w1.heap.size:=fun k hk=>(hM k hk).imp id fun h=>h.imp id fun h=>h.2
  refine ⟨hg3.trans hsp2.hg,hc3.trans hsp2.hc,fun q hq v hv=>?_,fun v hv=>⟨(hsp.tree v hv).1.fr h03,(hsp2.tree v hv).2⟩⟩
  rcases hsn q hq v hv with h | h
  · exact (hsp.col q hq v h).fr h03
  · have hc:=hsp2.col q hq v hv
    refine hc.frk h23 fun k hk hm=>?_
    have h5:=h k hk
    obtain ⟨b,cap,cur,rfl,_,_,_,_,h6,h7⟩:=hc
    simp only [Value.ownBlock,Option.some.injEq] at hk
    subst hk
    rcases hM2 _ hm with e | e | e
    · exact h6 e
    · exact h7 e
    · omega
theorem spring_Path (p:Spr) (ho:p.Ok) (K:Nat→Option Value) (t:Option Value) (i:Int) (w:World) (hsp:SpAt w p 0 K t):Ctr Tryz.prog 17 [.pointer (some ⟨p.g,0,none⟩),I i] w (SpM p) (fun v w'=>∃ tv,v=.tuple #[tv,I (lfE p.m i)]∧Rd w' tv (pN p.m p.H i) ((pW p.d p.ep (ends p p.m) p.m p.H i).map B)∧(∀ k,tv.ownBlock=some k→w.heap.size≤k∧¬ SpM p k)∧∃ K' pv,SpTree w' p K t pv K'∧SpNew w w' p K t pv K'):=by
  have hls:=ends_len p
  have hls16:(ends p p.m).length=16 * p.m:=by omega
  refine fn_start (N:=14) Tryz.func17 rfl rfl rfl fun ac hk=>?_
  have hs:=St.start2 hk ho.ne hsp.hg hsp.hc
  refine wp_seq (wp_reg ?_)
  refine zA hs fun ac hs=>?_
  refine zA hs fun ac hs=>?_
  refine s_end (then_n (wp_seq (wp_seq (wp_reg ?_))))
  refine zM hs fun ac hs=>?_
  refine s_q hs (c_eqlNil un29 (hs.ev rfl) (hs.ev rfl)) rfl fun ac hs=>?_
  refine s_end ?_
  replace hs:=hs.sub (F':=[(0,_),(1,_),(4,_),(5,_),(7,_)]) ⟨rfl,rfl,rfl,rfl,rfl,trivial⟩
  refine then_n ?_
  refine wp_cond_false (hs.ev rfl) ?_
  refine wp_skip (then_n (wp_seq (wp_reg ?_)))
  refine zM hs fun ac hs=>?_
  have hsz1:=hs.fr.size
  refine s_callL hs fu65 (.cons (hs.ev rfl) .nil) (spring_whole p ho K t _ (hsp.re hs.fr (hs.seg (i:=0) rfl) (hs.seg (i:=1) rfl) (fun _ _ _ h=>.inl h) fun v h=>⟨.inl h,(hsp.tree v h).2⟩)) (fun k _ h=>.inl h) rfl fun ac ww v9 hf hp hs=>?_
  obtain ⟨K',hst,hsn⟩:=hp
  replace hs:=hs [.seg p.g _ 149,.seg p.cg _ 203] (has2 ho.ne hst.1.hg hst.1.hc) own2
  refine zM hs fun ac hs=>?_
  refine s_call hs fu66 (.cons (hs.ev rfl) (.cons (hs.ev rfl) .nil)) (grove_Path p.d p.ep (ends p p.m) p.m p.H _ hls ho.h6 rfl i _ (hst.1.tree _ rfl).1.grove) rfl fun ac ww v11 hf hp hs=>?_
  have hf11:=hf
  obtain ⟨L',⟨tv1,rfl,rfl⟩,hh⟩:=hp
  replace hs:=hs _ hh
  refine s_q hs (c_extract (hs.ev rfl) rfl) rfl fun ac hs=>?_
  refine s_q hs (c_extract (hs.ev rfl) rfl) rfl fun ac hs=>?_
  refine zA hs fun ac hs=>?_
  refine zA hs fun ac hs=>?_
  refine s_end ?_
  replace hs:=hs.sub (F':=[(4,_),(5,_)]) ⟨rfl,rfl,trivial⟩
  refine then_n (wp_ret ?_)
  refine s_ret hs rfl (.tmp (hs.tmp rfl) (.tmp (hs.tmp rfl) .nil)) rfl ⟨_,rfl,hs.fr,?_⟩
  have h9:=SpTree.after hsp hst hsn hsz1 hs.fr hf11 (fun k hk=>hk.elim) (hf11.block _ (heap_lt hst.1.hg) id) (hf11.block _ (heap_lt hst.1.hc) id)
  have hap:∀ k,tv1.ownBlock=some k→¬ SpM p k:=fun k hk hm=>hm.elim (apart_at hs.has.apart (i:=0) (j:=1) rfl rfl (by decide) k hk) (apart_at hs.has.apart (i:=0) (j:=2) rfl rfl (by decide) k hk)
  exact ⟨_,rfl,Rd.of_row (hs.get (i:=0) rfl),fun k hk=>⟨(hs.own _ (List.mem_of_getElem? (i:=0) rfl) k hk).resolve_right (hap k hk),hap k hk⟩,K',_,h9.1,h9.2⟩
theorem spring_Element (p:Spr) (ho:p.Ok) (K:Nat→Option Value) (t:Option Value) (q r:Int) (w:World) (hsp:SpAt w p 0 K t):Ctr Tryz.prog 16 [.pointer (some ⟨p.g,0,none⟩),I q,I r] w (SpM p) (fun v w'=>v=.tuple #[.agg ((elB p q r).map B).toArray,I (elR p q r)]∧∃ K',SpAt w' p 0 K' t∧elK p K q r K'∧∀ k,k < p.m→∀ v,K' k=some v→K k=some v∨freshV w v):=by
  refine fn_start (N:=44) Tryz.func16 rfl rfl rfl fun ac hk=>?_
  have hs:=St.start2 hk ho.ne hsp.hg hsp.hc
  refine wp_seq (wp_reg ?_)
  refine s_alloc hs ty36 rfl fun ac ww g6 hs=>?_
  refine zA hs fun ac hs=>?_
  refine s_end (then_n (wp_seq (wp_block (wp_seq (wp_reg ?_)))))
  refine zM hs fun ac hs=>?_
  refine s_q hs (c_eqlNil un29 (hs.ev rfl) (hs.ev rfl)) rfl fun ac hs=>?_
  refine zA hs fun ac hs=>?_
  refine s_end ?_
  replace hs:=hs.sub (F':=[(0,_),(1,_),(2,_),(6,_),(7,_),(8,_)]) ⟨rfl,rfl,rfl,rfl,rfl,rfl,trivial⟩
  refine then_n ?_
  refine wp_cond_false (hs.ev rfl) ?_
  refine wp_seq (wp_reg ?_)
  refine zM hs fun ac hs=>?_
  refine s_q hs (c_lssI (hs.ev rfl) (hs.ev rfl)) rfl fun ac hs=>?_
  refine zM hs fun ac hs=>?_
  refine s_g hs rfl rfl (fun hg=>c_move (hs.ev rfl)) rfl fun ac hs=>?_
  refine s_g hs rfl rfl (fun hg=>c_move (hs.ev rfl)) rfl fun ac hs=>?_
  refine s_g hs rfl rfl (fun hg=>c_nil (gev (hs.ev rfl) hg)) rfl fun ac hs=>?_
  refine s_g hs rfl rfl (fun hg=>c_fld fl149_4 (gev (hs.ev rfl) hg)) rfl fun ac hs=>?_
  refine s_g hs rfl rfl (fun hg=>c_loadS un132 rfl (gev (hs.ev rfl) hg) (hs.seg (i:=1) rfl) ((sprC_at ho.seed 2).trans rfl)) rfl fun ac hs=>?_
  refine s_g hs rfl rfl (fun hg=>c_lenS un132 (gev (hs.ev rfl) hg)) rfl fun ac hs=>?_
  refine s_g hs rfl rfl (fun hg=>c_geqI (gev (hs.ev rfl) hg) (gev (hs.ev rfl) hg)) rfl fun ac hs=>?_
  refine s_q hs (c_or (hs.ev rfl) (hs.ev rfl)) rfl fun ac hs=>?_
  refine zM hs fun ac hs=>?_
  refine s_g hs rfl rfl (fun hg=>c_move (hs.ev rfl)) rfl fun ac hs=>?_
  refine s_g hs rfl rfl (fun hg=>c_lssI (gev (hs.ev rfl) hg) (hs.ev rfl)) rfl fun ac hs=>?_
  refine s_q hs (c_or (hs.ev rfl) (hs.ev rfl)) rfl fun ac hs=>?_
  refine zM hs fun ac hs=>?_
  refine s_g hs rfl rfl (fun hg=>c_move (hs.ev rfl)) rfl fun ac hs=>?_
  refine s_g hs rfl rfl (fun hg=>c_move (hs.ev rfl)) rfl fun ac hs=>?_
  refine s_g hs rfl rfl (fun hg=>c_nil (gev (hs.ev rfl) hg)) rfl fun ac hs=>?_
  refine s_g hs rfl rfl (fun hg=>c_fld fl149_0 (gev (hs.ev rfl) hg)) rfl fun ac hs=>?_
  refine s_g hs rfl rfl (fun hg=>c_fld fl33_1 (gev (hs.ev rfl) hg)) rfl fun ac hs=>?_
  refine s_g hs rfl rfl (fun hg=>c_loadS un3 rfl (gev (hs.ev rfl) hg) (hs.seg (i:=1) rfl) rfl) rfl fun ac hs=>?_
  refine s_g hs rfl rfl (fun hg=>c_gtrI (gev (hs.ev rfl) hg) (gev (hs.ev rfl) hg)) rfl fun ac hs=>?_
  refine s_q hs (c_or (hs.ev rfl) (hs.ev rfl)) rfl fun ac hs=>?_
  refine zA hs fun ac hs=>?_
  refine s_end ?_
  replace hs:=hs.sub (F':=[(0,_),(1,_),(2,_),(6,_),(7,_),(12,_)]) ⟨rfl,rfl,rfl,rfl,rfl,rfl,trivial⟩
  refine then_n ?_
  refine s_cond hs rfl (fun hc=>?_) (fun hc=>?_)
  · simp only [Bool.or_eq_true,decide_eq_true_eq] at hc
    have hno:¬ elOk p q r=true:=fun h=>by
      rw [elOk_iff] at h
      omega
    refine wp_seq (wp_reg ?_)
    refine s_q hs (c_buildA ty36 un36 ty5 (zc:=(List.replicate 16 (0:UInt8)).map B) (vs:=[]) .nil (by simp) (by simp [flatCells]) rfl) rfl fun ac hs=>?_
    refine s_storeW (i:=0) hs ty36 rfl rfl rfl (by simp) (all_map_B _) rfl fun ww hs=>?_
    refine zA hs fun ac hs=>?_
    refine s_end ?_
    replace hs:=hs.sub (F':=[(0,_),(1,_),(2,_),(6,_),(7,_)]) ⟨rfl,rfl,rfl,rfl,rfl,trivial⟩
    refine then_n (wp_ret (blk_r (then_r ?_)))
    refine s_ret hs rfl (.cell (hs.tmp rfl) (run_loadA ty36 rfl (hs.seg (i:=0) rfl) (List.take_of_length_le (by simp)) (by simp)) (.tmp (hs.tmp rfl) .nil)) rfl ⟨_,rfl,hs.fr,?_⟩
    rw [elB,elR,if_neg hno,if_neg hno]
    exact ⟨rfl,K,hsp.re hs.fr (hs.seg (i:=1) rfl) (hs.seg (i:=2) rfl) (fun _ _ _ h=>.inl h) fun v h=>⟨.inl h,(hsp.tree v h).2⟩,(by rw [elK,if_neg hno]),fun _ _ _=>.inl⟩
  · simp only [Bool.or_eq_false_iff,decide_eq_false_iff_not] at hc
    have hyes:elOk p q r=true:=elOk_iff.2 (by omega)
    obtain ⟨qn,rfl⟩:=int_of (show 0≤q by omega)
    obtain ⟨rn,rfl⟩:=int_of (show 0≤r by omega)
    have hqm:qn < p.m:=by omega
    have hrS:rn≤p.S:=by omega
    refine wp_skip (blk_n (then_n (wp_seq (wp_reg ?_))))
    refine zM hs fun ac hs=>?_
    refine zM hs fun ac hs=>?_
    have hs1:=hs
    obtain ⟨ww1,hww1⟩:∃ z,z=ww:=⟨_,rfl⟩
    refine s_callL hs fu64 (.cons (hs.ev rfl) (.cons (hs.ev rfl) .nil)) (spring_column p ho qn hqm 0 K t _ (hsp.re hs.fr (hs.seg (i:=1) rfl) (hs.seg (i:=2) rfl) (fun _ _ _ h=>.inl h) fun v h=>⟨.inl h,(hsp.tree v h).2⟩)) (fun k _ h=>.inl h) rfl fun ac ww v40 hf hp hs=>?_
    obtain ⟨hcu,hsp2,hfv⟩:=hp
    rw [← hww1] at hfv
    obtain ⟨b,cap,cur,rfl,hb9,hpc⟩:=(hsp2.col qn hqm v40 (updF_same _ _ _)).rd
    obtain ⟨ha1,ha2⟩:=keepB ho hs1 hf hsp2.hg hsp2.hc
    replace hs:=hs [.seg g6 _ 36,.seg p.g _ 149,.seg p.cg _ 203] ha1 ha2
    have hfr0:=hs.fr
    have hown0:=hs.own
    have hg2a:=(hs1.own _ (List.mem_of_getElem? (i:=0) rfl) g6 rfl).resolve_right (fun hm=>hm.elim (apart_at hs1.has.apart (i:=0) (j:=1) rfl rfl (by decide) g6 rfl) (apart_at hs1.has.apart (i:=0) (j:=2) rfl rfl (by decide) g6 rfl))
    have hg2b:=hww1 ▸ hs1.has.lt _ (List.mem_of_getElem? (i:=0) rfl) g6 rfl
    have hsz1:=hww1 ▸ hs1.fr.size
    replace hs:=hs.rebase
    have hnew:∀ k,k < p.m→∀ v,updF K qn (some (.slice (some ⟨b,0,none⟩) (p.S + 1) cap)) k=some v→K k=some v∨freshV ww1 v:=fun k hk v hv=>by
      unfold updF at hv
      split at hv
      · rename_i e
        subst e
        cases hv
        cases h:K k with
        | none=>exact .inr (hfv h)
        | some u=>rw [hcu u h]; exact .inl rfl
      · exact .inl hv
    refine zM hs fun ac hs=>?_
    refine s_q hs (c_idxS (j:=rn) un39 ty36 (hs.ev rfl) (hs.ev rfl) (by omega) (by omega)) rfl fun ac hs=>?_
    refine s_q hs (c_loadA ty36 rfl (hs.ev rfl) hb9 (hpc rn hrS) (by rw [List.length_map,el_length])) rfl fun ac hs=>?_
    refine s_storeW (i:=0) hs ty36 rfl rfl rfl (by rw [List.length_map,el_length]) (all_map_B _) rfl fun ww hs=>?_
    refine zA hs fun ac hs=>?_
    refine s_end ?_
    replace hs:=hs.sub (F':=[(6,_),(7,_)]) ⟨rfl,rfl,trivial⟩
    refine then_n (wp_ret ?_)
    refine s_ret hs rfl (.cell (hs.tmp rfl) (run_loadA ty36 rfl (hs.seg (i:=0) rfl) (List.take_of_length_le (show (List.map B (el p qn rn)).length≤16 by rw [List.length_map,el_length]; exact Nat.le_refl _)) (show (List.map B (el p qn rn)).length=16 by rw [List.length_map,el_length])) (.tmp (hs.tmp rfl) .nil)) rfl ⟨_,rfl,(Fr.rebase hfr0 hown0 hs.fr),?_⟩
    have h9:=SpAt.after hsp hsp2 hnew (Fr.rebase hfr0 hown0 hs.fr) hs.fr (fun k ⟨e,he,hk⟩=>by
      simp only [List.mem_cons,List.not_mem_nil,or_false] at he
      rcases he with rfl | rfl | rfl
      · have hk:k=g6:=hk
        subst hk
        exact .inr (.inr ⟨hg2a,hg2b⟩)
      · exact .inl hk
      · exact .inr (.inl hk)) ((hs.seg (i:=1) rfl).trans hsp2.hg.symm) ((hs.seg (i:=2) rfl).trans hsp2.hc.symm)
    rw [elB,elR,if_pos hyes,if_pos hyes,Int.toNat_natCast,Int.toNat_natCast]
    exact ⟨rfl,_,h9,(by rw [elK,if_pos hyes,Int.toNat_natCast]; exact ⟨_,hcu,rfl⟩),fun k hk v hv=>(hnew k hk v hv).imp id fun h=>h.back hsz1⟩
end Go.Proofs.YtklajbdbnnceiaaGreat
end

section
/- Claims: whether they may be. -/
namespace Go.Proofs.YtklajbdbnnceiaaGreat
open Go Go.Fw
open Sha
def clRight (W S H d mt sn:Int) (ep sq:UInt32):Bool:=spRight W S H && decide (0≤d) && decide (d < W) && decide (0≤sn) && decide (sn < W) && decide (ep.toNat≤(65536:UInt32).toNat) && decide (sq.toNat < 2 ^ H.toNat) && decide (0≤mt) && decide (mt < S)
theorem clRight_iff {W S H d mt sn:Int} {ep sq:UInt32}:clRight W S H d mt sn ep sq=true ↔ spRight W S H=true∧0≤d∧d < W∧0≤sn∧sn < W∧ep.toNat≤(65536:UInt32).toNat∧sq.toNat < 2 ^ H.toNat∧0≤mt∧mt < S:=by
  unfold clRight
  simp only [Bool.and_eq_true,decide_eq_true_eq,and_assoc]
theorem shl1 {n:Nat} (h:n≤6):((1:UInt32) <<< UInt32.ofNat n).toNat=2 ^ n:=by
  match n,h with
  | 0,_=>rfl
  | 1,_=>rfl
  | 2,_=>rfl
  | 3,_=>rfl
  | 4,_=>rfl
  | 5,_=>rfl
  | 6,_=>rfl
theorem i64_toM {m:Nat} (h:m≤1000):(i64 (m:Int)).toNat=m:=by
  have:=i64_toNat (m:Int)
  omega
theorem law01_To (ep sq:UInt32) (mt:Int) (w:World) :Ctr Tryz.prog 78 [.agg #[U ep,U sq,I mt]] w (fun _=>False) (fun v _=>v=.agg #[U ep,U sq,I mt]):=by
  refine fn_start (N:=10) Tryz.func78 rfl rfl rfl fun ac hk=>?_
  have hs:=St.start hk w
  refine wp_seq (wp_reg ?_)
  refine s_box hs rfl rfl rfl fun ac ww g1 hs=>?_
  refine s_alloc hs ty59 rfl fun ac ww g2 hs=>?_
  refine s_end ?_
  replace hs:=hs.sub (F':=[(1,_),(2,_)]) ⟨rfl,rfl,trivial⟩
  refine then_n (wp_seq (wp_reg ?_))
  refine s_q hs (c_fld fl52_0 (hs.ev rfl)) rfl fun ac hs=>?_
  refine s_q hs (c_loadS un25 rfl (hs.ev rfl) (hs.seg (i:=1) rfl) rfl) rfl fun ac hs=>?_
  refine s_q hs (c_fld fl52_1 (hs.ev rfl)) rfl fun ac hs=>?_
  refine s_q hs (c_loadS un25 rfl (hs.ev rfl) (hs.seg (i:=1) rfl) rfl) rfl fun ac hs=>?_
  refine s_q hs (c_fld fl52_2 (hs.ev rfl)) rfl fun ac hs=>?_
  refine s_q hs (c_loadS un3 rfl (hs.ev rfl) (hs.seg (i:=1) rfl) rfl) rfl fun ac hs=>?_
  refine s_q hs (c_buildS ty59 bp59 (.cons (hs.ev rfl) (.cons (hs.ev rfl) (.cons (hs.ev rfl) .nil))) ⟨rfl,rfl,rfl,trivial⟩ (by simp [flatCells,Value.cells]) rfl) rfl fun ac hs=>?_
  refine s_storeW (i:=0) hs ty59 rfl rfl rfl (by rfl) (by rfl) (by simp) fun ww hs=>?_
  refine s_end ?_
  replace hs:=hs.sub (F':=[(2,_)]) ⟨rfl,trivial⟩
  refine then_n (wp_ret ?_)
  refine s_ret hs rfl (.cell (hs.tmp rfl) (run_loadA ty59 ag59 (hs.seg (i:=0) rfl) rfl (by rfl)) .nil) rfl ⟨_,rfl,hs.fr,?_⟩
  rfl
theorem law09_To (d mt sn:Int) (ep sq:UInt32) (w:World) :Ctr Tryz.prog 27 [.agg #[I d,U ep,U sq,I mt,I sn]] w (fun _=>False) (fun v _=>v=.agg #[I d,U ep,U sq,I mt,I sn]):=by
  refine fn_start (N:=11) Tryz.func27 rfl rfl rfl fun ac hk=>?_
  have hs:=St.start hk w
  refine wp_seq (wp_reg ?_)
  refine s_box hs rfl rfl rfl fun ac ww g1 hs=>?_
  refine s_alloc hs ty61 rfl fun ac ww g2 hs=>?_
  refine s_end ?_
  replace hs:=hs.sub (F':=[(1,_),(2,_)]) ⟨rfl,rfl,trivial⟩
  refine then_n (wp_seq ?_)
  refine wp_region_rg pmix 7 (by kernel_rfl) rfl hs ?_
  simp only [List.take_succ_cons,List.take_zero]
  refine rg_q (fun ac ww h=>c_fld fl54_0 (h.ev rfl)) rfl ?_
  refine rg_q (fun ac ww h=>c_loadS un3 rfl (h.ev rfl) (h.blk (hs.seg (i:=1) rfl)) rfl) rfl ?_
  refine rg_q (fun ac ww h=>c_fld fl54_1 (h.ev rfl)) rfl ?_
  refine rg_q (fun ac ww h=>c_loadA ty52 ag52 (h.ev rfl) (h.blk (hs.seg (i:=1) rfl)) rfl (by rfl)) rfl ?_
  refine rg_call fu78 (fun ac ww h=>(.cons (h.ev rfl) .nil)) (fun ww hf=>law01_To ep sq mt ww) rfl ?_
  refine rg_q (fun ac ww h=>c_fld fl54_2 (h.ev rfl)) rfl ?_
  refine rg_q (fun ac ww h=>c_loadS un3 rfl (h.ev rfl) (h.blk (hs.seg (i:=1) rfl)) rfl) rfl ?_
  refine rg_nil fun ac ww L' hf hfe hs=>?_
  simp only [List.drop_succ_cons,List.drop_zero]
  obtain rfl:L'=[]:=hfe
  replace hs:=hs.toL (List.nil_append _)
  refine s_q hs (c_buildS ty61 bp61 (.cons (hs.ev rfl) (.cons (hs.ev rfl) (.cons (hs.ev rfl) .nil))) ⟨rfl,rfl,rfl,trivial⟩ (by simp [flatCells,Value.cells]) rfl) rfl fun ac hs=>?_
  refine s_storeW (i:=0) hs ty61 rfl rfl rfl (by rfl) (by rfl) (by simp) fun ww hs=>?_
  refine s_end ?_
  replace hs:=hs.sub (F':=[(2,_)]) ⟨rfl,trivial⟩
  refine then_n (wp_ret ?_)
  refine s_ret hs rfl (.cell (hs.tmp rfl) (run_loadA ty61 ag61 (hs.seg (i:=0) rfl) rfl (by rfl)) .nil) rfl ⟨_,rfl,hs.fr,?_⟩
  rfl
theorem proof_place (d mt sn:Int) (ep sq:UInt32) (w:World) :Ctr Tryz.prog 77 [.agg #[I d,U ep,U sq,I mt,I sn]] w (fun _=>False) (fun v _=>v=.agg #[I d,U ep,U sq]):=by
  refine fn_start (N:=12) Tryz.func77 rfl rfl rfl fun ac hk=>?_
  have hs:=St.start hk w
  refine wp_seq (wp_reg ?_)
  refine s_box hs rfl rfl rfl fun ac ww g1 hs=>?_
  refine s_alloc hs ty165 rfl fun ac ww g2 hs=>?_
  refine s_end ?_
  replace hs:=hs.sub (F':=[(1,_),(2,_)]) ⟨rfl,rfl,trivial⟩
  refine then_n (wp_seq (wp_reg ?_))
  refine s_q hs (c_fld fl61_0 (hs.ev rfl)) rfl fun ac hs=>?_
  refine s_q hs (c_loadS un3 rfl (hs.ev rfl) (hs.seg (i:=1) rfl) rfl) rfl fun ac hs=>?_
  refine s_q hs (c_fld fl61_1 (hs.ev rfl)) rfl fun ac hs=>?_
  refine s_q hs (c_fld fl59_0 (hs.ev rfl)) rfl fun ac hs=>?_
  refine s_q hs (c_loadS un25 rfl (hs.ev rfl) (hs.seg (i:=1) rfl) rfl) rfl fun ac hs=>?_
  refine s_q hs (c_fld fl61_1 (hs.ev rfl)) rfl fun ac hs=>?_
  refine s_q hs (c_fld fl59_1 (hs.ev rfl)) rfl fun ac hs=>?_
  refine s_q hs (c_loadS un25 rfl (hs.ev rfl) (hs.seg (i:=1) rfl) rfl) rfl fun ac hs=>?_
  refine s_q hs (c_buildS ty165 bp165 (.cons (hs.ev rfl) (.cons (hs.ev rfl) (.cons (hs.ev rfl) .nil))) ⟨rfl,rfl,rfl,trivial⟩ (by simp [flatCells,Value.cells]) rfl) rfl fun ac hs=>?_
  refine s_storeW (i:=0) hs ty165 rfl rfl rfl (by rfl) (by rfl) (by simp) fun ww hs=>?_
  refine s_end ?_
  replace hs:=hs.sub (F':=[(2,_)]) ⟨rfl,trivial⟩
  refine then_n (wp_ret ?_)
  refine s_ret hs rfl (.cell (hs.tmp rfl) (run_loadA ty165 ag165 (hs.seg (i:=0) rfl) rfl (by rfl)) .nil) rfl ⟨_,rfl,hs.fr,?_⟩
  rfl
theorem proof_Right (W S H d mt sn:Int) (ep sq:UInt32) (w:World) :Ctr Tryz.prog 75 [.agg #[I W,I S,I H],.agg #[I d,U ep,U sq,I mt,I sn]] w (fun _=>False) (fun v _=>v=.bool (clRight W S H d mt sn ep sq)):=by
  refine fn_start (N:=60) Tryz.func75 rfl rfl rfl fun ac hk=>?_
  have hs:=St.start hk w
  refine wp_seq (wp_reg ?_)
  cases hR:spRight W S H
  · refine s_box hs rfl rfl rfl fun ac ww g2 hs=>?_
    refine s_box hs rfl rfl rfl fun ac ww g3 hs=>?_
    refine zA hs fun ac hs=>?_
    refine s_end ?_
    replace hs:=hs.sub (F':=[(2,_),(3,_),(4,_)]) ⟨rfl,rfl,rfl,trivial⟩
    refine then_n (wp_seq ?_)
    refine wp_region_rg pmix 53 (by kernel_rfl) rfl hs ?_
    simp only [List.take_succ_cons,List.take_zero]
    refine rg_q (fun ac ww h=>c_loadW ty33 ag33 (h.ev rfl) (h.blk (hs.seg (i:=1) rfl)) (by rfl)) rfl ?_
    refine rg_call fu63 (fun ac ww h=>(.cons (h.ev rfl) .nil)) (fun ww hf=>(hR ▸ spring_Right W S H ww)) rfl ?_
    refine rg_q (fun ac ww h=>c_move (h.ev rfl)) rfl ?_
    refine rg_no rfl rfl rfl rfl ?_
    refine rg_no rfl rfl rfl rfl ?_
    refine rg_no rfl rfl rfl rfl ?_
    refine rg_q (fun ac ww h=>c_pick (h.ev rfl) (h.ev rfl) (h.ev rfl)) rfl ?_
    refine rg_q (fun ac ww h=>c_move (h.ev rfl)) rfl ?_
    refine rg_no rfl rfl rfl rfl ?_
    refine rg_no rfl rfl rfl rfl ?_
    refine rg_no rfl rfl rfl rfl ?_
    refine rg_no rfl rfl rfl rfl ?_
    refine rg_no rfl rfl rfl rfl ?_
    refine rg_q (fun ac ww h=>c_pick (h.ev rfl) (h.ev rfl) (h.ev rfl)) rfl ?_
    refine rg_q (fun ac ww h=>c_move (h.ev rfl)) rfl ?_
    refine rg_no rfl rfl rfl rfl ?_
    refine rg_no rfl rfl rfl rfl ?_
    refine rg_no rfl rfl rfl rfl ?_
    refine rg_q (fun ac ww h=>c_pick (h.ev rfl) (h.ev rfl) (h.ev rfl)) rfl ?_
    refine rg_q (fun ac ww h=>c_move (h.ev rfl)) rfl ?_
    refine rg_no rfl rfl rfl rfl ?_
    refine rg_no rfl rfl rfl rfl ?_
    refine rg_no rfl rfl rfl rfl ?_
    refine rg_no rfl rfl rfl rfl ?_
    refine rg_no rfl rfl rfl rfl ?_
    refine rg_q (fun ac ww h=>c_pick (h.ev rfl) (h.ev rfl) (h.ev rfl)) rfl ?_
    refine rg_q (fun ac ww h=>c_move (h.ev rfl)) rfl ?_
    refine rg_no rfl rfl rfl rfl ?_
    refine rg_no rfl rfl rfl rfl ?_
    refine rg_no rfl rfl rfl rfl ?_
    refine rg_no rfl rfl rfl rfl ?_
    refine rg_q (fun ac ww h=>c_pick (h.ev rfl) (h.ev rfl) (h.ev rfl)) rfl ?_
    refine rg_q (fun ac ww h=>c_move (h.ev rfl)) rfl ?_
    refine rg_no rfl rfl rfl rfl ?_
    refine rg_no rfl rfl rfl rfl ?_
    refine rg_no rfl rfl rfl rfl ?_
    refine rg_no rfl rfl rfl rfl ?_
    refine rg_no rfl rfl rfl rfl ?_
    refine rg_no rfl rfl rfl rfl ?_
    refine rg_no rfl rfl rfl rfl ?_
    refine rg_q (fun ac ww h=>c_pick (h.ev rfl) (h.ev rfl) (h.ev rfl)) rfl ?_
    refine rg_q (fun ac ww h=>c_move (h.ev rfl)) rfl ?_
    refine rg_no rfl rfl rfl rfl ?_
    refine rg_no rfl rfl rfl rfl ?_
    refine rg_no rfl rfl rfl rfl ?_
    refine rg_no rfl rfl rfl rfl ?_
    refine rg_q (fun ac ww h=>c_pick (h.ev rfl) (h.ev rfl) (h.ev rfl)) rfl ?_
    refine rg_q (fun ac ww h=>c_move (h.ev rfl)) rfl ?_
    refine rg_no rfl rfl rfl rfl ?_
    refine rg_no rfl rfl rfl rfl ?_
    refine rg_no rfl rfl rfl rfl ?_
    refine rg_no rfl rfl rfl rfl ?_
    refine rg_no rfl rfl rfl rfl ?_
    refine rg_nil fun ac ww L' hf hfe hs=>?_
    simp only [List.drop_succ_cons,List.drop_zero]
    obtain rfl:L'=[]:=hfe
    replace hs:=hs.toL (List.nil_append _)
    refine s_no hs rfl rfl rfl rfl fun ac hs=>?_
    refine s_q hs (c_pick (hs.ev rfl) (hs.ev rfl) (hs.ev rfl)) rfl fun ac hs=>?_
    refine zA hs fun ac hs=>?_
    refine s_end ?_
    replace hs:=hs.sub (F':=[(4,_)]) ⟨rfl,trivial⟩
    refine then_n (wp_ret ?_)
    refine s_ret hs rfl (.tmp (hs.tmp rfl) .nil) rfl ⟨_,rfl,hs.fr,?_⟩
    show Value.bool _=Value.bool _
    rw [clRight,hR]
    rfl
  · refine s_box hs rfl rfl rfl fun ac ww g2 hs=>?_
    obtain ⟨hlv,hS1,hS16,hH0,hH6⟩:=spRight_iff.1 hR
    obtain ⟨Hn,hHn⟩:=int_of hH0
    subst hHn
    refine s_box hs rfl rfl rfl fun ac ww g3 hs=>?_
    refine zA hs fun ac hs=>?_
    refine s_end ?_
    replace hs:=hs.sub (F':=[(2,_),(3,_),(4,_)]) ⟨rfl,rfl,rfl,trivial⟩
    refine then_n (wp_seq ?_)
    refine wp_region_rg pmix 53 (by kernel_rfl) rfl hs ?_
    simp only [List.take_succ_cons,List.take_zero]
    refine rg_q (fun ac ww h=>c_loadW ty33 ag33 (h.ev rfl) (h.blk (hs.seg (i:=1) rfl)) (by rfl)) rfl ?_
    refine rg_call fu63 (fun ac ww h=>(.cons (h.ev rfl) .nil)) (fun ww hf=>(hR ▸ spring_Right W S Hn ww)) rfl ?_
    refine rg_q (fun ac ww h=>c_move (h.ev rfl)) rfl ?_
    refine rg_g rfl rfl (fun hg ac ww h=>c_fld fl61_0 (h.ev rfl)) rfl ?_
    refine rg_g rfl rfl (fun hg ac ww h=>c_loadS un3 rfl (gev (h.ev rfl) hg) (h.blk (hs.seg (i:=0) rfl)) rfl) rfl ?_
    refine rg_g rfl rfl (fun hg ac ww h=>c_geqI (gev (h.ev rfl) hg) (h.ev rfl)) rfl ?_
    refine rg_q (fun ac ww h=>c_and (h.ev rfl) (h.ev rfl)) rfl ?_
    refine rg_q (fun ac ww h=>c_move (h.ev rfl)) rfl ?_
    refine rg_g rfl rfl (fun hg ac ww h=>c_fld fl61_0 (h.ev rfl)) rfl ?_
    refine rg_g rfl rfl (fun hg ac ww h=>c_loadS un3 rfl (gev (h.ev rfl) hg) (h.blk (hs.seg (i:=0) rfl)) rfl) rfl ?_
    refine rg_g rfl rfl (fun hg ac ww h=>c_fld fl33_0 (h.ev rfl)) rfl ?_
    refine rg_g rfl rfl (fun hg ac ww h=>c_loadS un3 rfl (gev (h.ev rfl) hg) (h.blk (hs.seg (i:=1) rfl)) rfl) rfl ?_
    refine rg_g rfl rfl (fun hg ac ww h=>c_lssI (gev (h.ev rfl) hg) (gev (h.ev rfl) hg)) rfl ?_
    refine rg_q (fun ac ww h=>c_and (h.ev rfl) (h.ev rfl)) rfl ?_
    refine rg_q (fun ac ww h=>c_move (h.ev rfl)) rfl ?_
    refine rg_g rfl rfl (fun hg ac ww h=>c_fld fl61_2 (h.ev rfl)) rfl ?_
    refine rg_g rfl rfl (fun hg ac ww h=>c_loadS un3 rfl (gev (h.ev rfl) hg) (h.blk (hs.seg (i:=0) rfl)) rfl) rfl ?_
    refine rg_g rfl rfl (fun hg ac ww h=>c_geqI (gev (h.ev rfl) hg) (h.ev rfl)) rfl ?_
    refine rg_q (fun ac ww h=>c_and (h.ev rfl) (h.ev rfl)) rfl ?_
    refine rg_q (fun ac ww h=>c_move (h.ev rfl)) rfl ?_
    refine rg_g rfl rfl (fun hg ac ww h=>c_fld fl61_2 (h.ev rfl)) rfl ?_
    refine rg_g rfl rfl (fun hg ac ww h=>c_loadS un3 rfl (gev (h.ev rfl) hg) (h.blk (hs.seg (i:=0) rfl)) rfl) rfl ?_
    refine rg_g rfl rfl (fun hg ac ww h=>c_fld fl33_0 (h.ev rfl)) rfl ?_
    refine rg_g rfl rfl (fun hg ac ww h=>c_loadS un3 rfl (gev (h.ev rfl) hg) (h.blk (hs.seg (i:=1) rfl)) rfl) rfl ?_
    refine rg_g rfl rfl (fun hg ac ww h=>c_lssI (gev (h.ev rfl) hg) (gev (h.ev rfl) hg)) rfl ?_
    refine rg_q (fun ac ww h=>c_and (h.ev rfl) (h.ev rfl)) rfl ?_
    refine rg_q (fun ac ww h=>c_move (h.ev rfl)) rfl ?_
    refine rg_g rfl rfl (fun hg ac ww h=>c_fld fl61_1 (h.ev rfl)) rfl ?_
    refine rg_g rfl rfl (fun hg ac ww h=>c_fld fl59_0 (gev (h.ev rfl) hg)) rfl ?_
    refine rg_g rfl rfl (fun hg ac ww h=>c_loadS un25 rfl (gev (h.ev rfl) hg) (h.blk (hs.seg (i:=0) rfl)) rfl) rfl ?_
    refine rg_g rfl rfl (fun hg ac ww h=>c_leqU (gev (h.ev rfl) hg) (RC.ev (v:=U 65536) h rfl)) rfl ?_
    refine rg_q (fun ac ww h=>c_and (h.ev rfl) (h.ev rfl)) rfl ?_
    refine rg_q (fun ac ww h=>c_move (h.ev rfl)) rfl ?_
    refine rg_g rfl rfl (fun hg ac ww h=>c_fld fl61_1 (h.ev rfl)) rfl ?_
    refine rg_g rfl rfl (fun hg ac ww h=>c_fld fl59_1 (gev (h.ev rfl) hg)) rfl ?_
    refine rg_g rfl rfl (fun hg ac ww h=>c_loadS un25 rfl (gev (h.ev rfl) hg) (h.blk (hs.seg (i:=0) rfl)) rfl) rfl ?_
    refine rg_g rfl rfl (fun hg ac ww h=>c_fld fl33_2 (h.ev rfl)) rfl ?_
    refine rg_g rfl rfl (fun hg ac ww h=>c_loadS un3 rfl (gev (h.ev rfl) hg) (h.blk (hs.seg (i:=1) rfl)) rfl) rfl ?_
    refine rg_g rfl rfl (fun hg ac ww h=>c_shlU (n:=Hn) (RC.ev (v:=U 1) h rfl) (gev (h.ev rfl) hg) (by omega)) rfl ?_
    refine rg_g rfl rfl (fun hg ac ww h=>c_to (c_lssU (gev (h.ev rfl) hg) (gev (h.ev rfl) hg)) ((congrArg (fun n:Nat=>Value.bool (decide (sq.toNat < n))) (shl1 (by omega))))) rfl ?_
    refine rg_q (fun ac ww h=>c_and (h.ev rfl) (h.ev rfl)) rfl ?_
    refine rg_q (fun ac ww h=>c_move (h.ev rfl)) rfl ?_
    refine rg_g rfl rfl (fun hg ac ww h=>c_fld fl61_1 (h.ev rfl)) rfl ?_
    refine rg_g rfl rfl (fun hg ac ww h=>c_fld fl59_2 (gev (h.ev rfl) hg)) rfl ?_
    refine rg_g rfl rfl (fun hg ac ww h=>c_loadS un3 rfl (gev (h.ev rfl) hg) (h.blk (hs.seg (i:=0) rfl)) rfl) rfl ?_
    refine rg_g rfl rfl (fun hg ac ww h=>c_geqI (gev (h.ev rfl) hg) (h.ev rfl)) rfl ?_
    refine rg_q (fun ac ww h=>c_and (h.ev rfl) (h.ev rfl)) rfl ?_
    refine rg_q (fun ac ww h=>c_move (h.ev rfl)) rfl ?_
    refine rg_g rfl rfl (fun hg ac ww h=>c_fld fl61_1 (h.ev rfl)) rfl ?_
    refine rg_g rfl rfl (fun hg ac ww h=>c_fld fl59_2 (gev (h.ev rfl) hg)) rfl ?_
    refine rg_g rfl rfl (fun hg ac ww h=>c_loadS un3 rfl (gev (h.ev rfl) hg) (h.blk (hs.seg (i:=0) rfl)) rfl) rfl ?_
    refine rg_g rfl rfl (fun hg ac ww h=>c_fld fl33_1 (h.ev rfl)) rfl ?_
    refine rg_g rfl rfl (fun hg ac ww h=>c_loadS un3 rfl (gev (h.ev rfl) hg) (h.blk (hs.seg (i:=1) rfl)) rfl) rfl ?_
    refine rg_nil fun ac ww L' hf hfe hs=>?_
    simp only [List.drop_succ_cons,List.drop_zero]
    obtain rfl:L'=[]:=hfe
    replace hs:=hs.toL (List.nil_append _)
    refine s_g hs rfl rfl (fun hg=>c_lssI (gev (hs.ev rfl) hg) (gev (hs.ev rfl) hg)) rfl fun ac hs=>?_
    refine s_q hs (c_and (hs.ev rfl) (hs.ev rfl)) rfl fun ac hs=>?_
    refine zA hs fun ac hs=>?_
    refine s_end ?_
    replace hs:=hs.sub (F':=[(4,_)]) ⟨rfl,trivial⟩
    refine then_n (wp_ret ?_)
    refine s_ret hs rfl (.tmp (hs.tmp rfl) .nil) rfl ⟨_,rfl,hs.fr,?_⟩
    show Value.bool _=Value.bool _
    rw [clRight,hR]
    rfl
theorem ref09_Right (W S H d mt sn:Int) (ep sq:UInt32) (w:World) :Ctr Tryz.prog 28 [.agg #[I W,I S,I H],.agg #[I d,U ep,U sq,I mt,I sn]] w (fun _=>False) (fun v _=>v=.bool (clRight W S H d mt sn ep sq)):=by
  refine fn_start (N:=60) Tryz.func28 rfl rfl rfl fun ac hk=>?_
  have hs:=St.start hk w
  refine wp_seq (wp_reg ?_)
  refine s_box hs rfl rfl rfl fun ac ww g2 hs=>?_
  refine s_box hs rfl rfl rfl fun ac ww g3 hs=>?_
  refine zA hs fun ac hs=>?_
  refine s_end ?_
  replace hs:=hs.sub (F':=[(2,_),(3,_),(4,_)]) ⟨rfl,rfl,rfl,trivial⟩
  refine then_n (wp_seq (wp_seq (wp_reg ?_)))
  refine s_q hs (c_loadW ty23 ag23 (hs.ev rfl) (hs.seg (i:=1) rfl) (by rfl)) rfl fun ac hs=>?_
  refine s_call hs fu61 (.cons (hs.ev rfl) .nil) (ref08_Right W S H _) rfl fun ac ww v6 hf hp hs=>?_
  obtain rfl:=hp
  replace hs:=hs [] (.nil _ _)
  refine s_q hs (c_not (hs.ev rfl)) rfl fun ac hs=>?_
  refine zM hs fun ac hs=>?_
  refine s_g hs rfl rfl (fun hg=>c_fld fl54_0 (hs.ev rfl)) rfl fun ac hs=>?_
  refine s_g hs rfl rfl (fun hg=>c_loadS un3 rfl (gev (hs.ev rfl) hg) (hs.seg (i:=0) rfl) rfl) rfl fun ac hs=>?_
  refine s_g hs rfl rfl (fun hg=>c_lssI (gev (hs.ev rfl) hg) (hs.ev rfl)) rfl fun ac hs=>?_
  refine s_q hs (c_or (hs.ev rfl) (hs.ev rfl)) rfl fun ac hs=>?_
  refine zM hs fun ac hs=>?_
  refine s_g hs rfl rfl (fun hg=>c_fld fl54_0 (hs.ev rfl)) rfl fun ac hs=>?_
  refine s_g hs rfl rfl (fun hg=>c_loadS un3 rfl (gev (hs.ev rfl) hg) (hs.seg (i:=0) rfl) rfl) rfl fun ac hs=>?_
  refine s_g hs rfl rfl (fun hg=>c_fld fl23_0 (hs.ev rfl)) rfl fun ac hs=>?_
  refine s_g hs rfl rfl (fun hg=>c_loadS un3 rfl (gev (hs.ev rfl) hg) (hs.seg (i:=1) rfl) rfl) rfl fun ac hs=>?_
  refine s_g hs rfl rfl (fun hg=>c_geqI (gev (hs.ev rfl) hg) (gev (hs.ev rfl) hg)) rfl fun ac hs=>?_
  refine s_q hs (c_or (hs.ev rfl) (hs.ev rfl)) rfl fun ac hs=>?_
  refine zM hs fun ac hs=>?_
  refine s_g hs rfl rfl (fun hg=>c_fld fl54_2 (hs.ev rfl)) rfl fun ac hs=>?_
  refine s_g hs rfl rfl (fun hg=>c_loadS un3 rfl (gev (hs.ev rfl) hg) (hs.seg (i:=0) rfl) rfl) rfl fun ac hs=>?_
  refine s_g hs rfl rfl (fun hg=>c_lssI (gev (hs.ev rfl) hg) (hs.ev rfl)) rfl fun ac hs=>?_
  refine s_q hs (c_or (hs.ev rfl) (hs.ev rfl)) rfl fun ac hs=>?_
  refine zM hs fun ac hs=>?_
  refine s_g hs rfl rfl (fun hg=>c_fld fl54_2 (hs.ev rfl)) rfl fun ac hs=>?_
  refine s_g hs rfl rfl (fun hg=>c_loadS un3 rfl (gev (hs.ev rfl) hg) (hs.seg (i:=0) rfl) rfl) rfl fun ac hs=>?_
  refine s_g hs rfl rfl (fun hg=>c_fld fl23_0 (hs.ev rfl)) rfl fun ac hs=>?_
  refine s_g hs rfl rfl (fun hg=>c_loadS un3 rfl (gev (hs.ev rfl) hg) (hs.seg (i:=1) rfl) rfl) rfl fun ac hs=>?_
  refine s_g hs rfl rfl (fun hg=>c_geqI (gev (hs.ev rfl) hg) (gev (hs.ev rfl) hg)) rfl fun ac hs=>?_
  refine s_q hs (c_or (hs.ev rfl) (hs.ev rfl)) rfl fun ac hs=>?_
  refine zM hs fun ac hs=>?_
  refine s_g hs rfl rfl (fun hg=>c_fld fl54_1 (hs.ev rfl)) rfl fun ac hs=>?_
  refine s_g hs rfl rfl (fun hg=>c_fld fl52_0 (gev (hs.ev rfl) hg)) rfl fun ac hs=>?_
  refine s_g hs rfl rfl (fun hg=>c_loadS un25 rfl (gev (hs.ev rfl) hg) (hs.seg (i:=0) rfl) rfl) rfl fun ac hs=>?_
  refine s_g hs rfl rfl (fun hg=>c_gtrU (gev (hs.ev rfl) hg) (St.ev (v:=U 65536) hs rfl)) rfl fun ac hs=>?_
  refine s_q hs (c_or (hs.ev rfl) (hs.ev rfl)) rfl fun ac hs=>?_
  refine s_end ?_
  replace hs:=hs.sub (F':=[(2,_),(3,_),(4,_),(37,_)]) ⟨rfl,rfl,rfl,rfl,trivial⟩
  refine then_n ?_
  refine s_cond hs rfl (fun hc=>?_) (fun hc=>?_)
  · simp only [Bool.or_eq_true,decide_eq_true_eq,Bool.not_eq_true'] at hc
    have hno:clRight W S H d mt sn ep sq=false:=by
      rw [← Bool.not_eq_true,clRight_iff]
      rintro ⟨h1,h2,h3,h4,h5,h6,_⟩
      rw [h1] at hc
      simp only [Bool.true_eq_false,false_or] at hc
      omega
    refine wp_seq (wp_reg ?_)
    refine zA hs fun ac hs=>?_
    refine s_end ?_
    replace hs:=hs.sub (F':=[(2,_),(3,_),(4,_)]) ⟨rfl,rfl,rfl,trivial⟩
    refine then_n (wp_ret (then_r ?_))
    refine s_ret hs rfl (.tmp (hs.tmp rfl) .nil) rfl ⟨_,rfl,hs.fr,?_⟩
    show Value.bool false=_
    rw [hno]
  · simp only [Bool.or_eq_false_iff,decide_eq_false_iff_not,Bool.not_eq_false'] at hc
    obtain ⟨⟨⟨⟨⟨hR,hc1⟩,hc2⟩,hc3⟩,hc4⟩,hc5⟩:=hc
    obtain ⟨hlv,hS1,hS16,hH0,hH6⟩:=spRight_iff.1 hR
    obtain ⟨Hn,hHn⟩:=int_of hH0
    subst hHn
    have hp64:=pow64 (lv:=Hn) (by omega)
    refine wp_skip (then_n (wp_seq ?_))
    refine wp_region_rg pmix 20 (by kernel_rfl) rfl hs ?_
    simp only [List.take_succ_cons,List.take_zero]
    refine rg_q (fun ac ww h=>c_fld fl54_1 (h.ev rfl)) rfl ?_
    refine rg_q (fun ac ww h=>c_fld fl52_1 (h.ev rfl)) rfl ?_
    refine rg_q (fun ac ww h=>c_loadS un25 rfl (h.ev rfl) (h.blk (hs.seg (i:=0) rfl)) rfl) rfl ?_
    refine rg_q (fun ac ww h=>c_cvUV un25 un124 (h.ev rfl)) rfl ?_
    refine rg_q (fun ac ww h=>c_loadW ty23 ag23 (h.ev rfl) (h.blk (hs.seg (i:=1) rfl)) (by rfl)) rfl ?_
    refine rg_call fu18 (fun ac ww h=>(.cons (h.ev rfl) .nil)) (fun ww hf=>ref08_Many W S Hn (by omega) ww) rfl ?_
    refine rg_q (fun ac ww h=>c_cvIV un3 un124 (h.ev rfl)) rfl ?_
    refine rg_q (fun ac ww h=>c_to (c_lssV (h.ev rfl) (h.ev rfl)) ((congrArg (fun b:Bool=>Value.bool b) (show decide (sq.toUInt64.toNat < (i64 ((2 ^ Hn:Nat):Int)).toNat)=decide (sq.toNat < 2 ^ Hn) by rw [i64_toM (by omega)]; simp)))) rfl ?_
    refine rg_q (fun ac ww h=>c_move (h.ev rfl)) rfl ?_
    refine rg_g rfl rfl (fun hg ac ww h=>c_fld fl54_1 (h.ev rfl)) rfl ?_
    refine rg_g rfl rfl (fun hg ac ww h=>c_fld fl52_2 (gev (h.ev rfl) hg)) rfl ?_
    refine rg_g rfl rfl (fun hg ac ww h=>c_loadS un3 rfl (gev (h.ev rfl) hg) (h.blk (hs.seg (i:=0) rfl)) rfl) rfl ?_
    refine rg_g rfl rfl (fun hg ac ww h=>c_geqI (gev (h.ev rfl) hg) (h.ev rfl)) rfl ?_
    refine rg_q (fun ac ww h=>c_and (h.ev rfl) (h.ev rfl)) rfl ?_
    refine rg_q (fun ac ww h=>c_move (h.ev rfl)) rfl ?_
    refine rg_g rfl rfl (fun hg ac ww h=>c_fld fl54_1 (h.ev rfl)) rfl ?_
    refine rg_g rfl rfl (fun hg ac ww h=>c_fld fl52_2 (gev (h.ev rfl) hg)) rfl ?_
    refine rg_g rfl rfl (fun hg ac ww h=>c_loadS un3 rfl (gev (h.ev rfl) hg) (h.blk (hs.seg (i:=0) rfl)) rfl) rfl ?_
    refine rg_g rfl rfl (fun hg ac ww h=>c_fld fl23_1 (h.ev rfl)) rfl ?_
    refine rg_g rfl rfl (fun hg ac ww h=>c_loadS un3 rfl (gev (h.ev rfl) hg) (h.blk (hs.seg (i:=1) rfl)) rfl) rfl ?_
    refine rg_nil fun ac ww L' hf hfe hs=>?_
    simp only [List.drop_succ_cons,List.drop_zero]
    obtain rfl:L'=[]:=hfe
    replace hs:=hs.toL (List.nil_append _)
    refine s_g hs rfl rfl (fun hg=>c_lssI (gev (hs.ev rfl) hg) (gev (hs.ev rfl) hg)) rfl fun ac hs=>?_
    refine s_q hs (c_and (hs.ev rfl) (hs.ev rfl)) rfl fun ac hs=>?_
    refine zA hs fun ac hs=>?_
    refine s_end ?_
    replace hs:=hs.sub (F':=[(4,_)]) ⟨rfl,trivial⟩
    refine then_n (wp_ret ?_)
    refine s_ret hs rfl (.tmp (hs.tmp rfl) .nil) rfl ⟨_,rfl,hs.fr,?_⟩
    show Value.bool _=Value.bool _
    rw [clRight,hR,decide_eq_true (show 0≤d by omega),decide_eq_true (show d < W by omega),decide_eq_true (show 0≤sn by omega),decide_eq_true (show sn < W by omega),decide_eq_true (show ep.toNat≤(65536:UInt32).toNat by omega)]
    rfl
end Go.Proofs.YtklajbdbnnceiaaGreat
end

section
/- The law of new springs. -/
namespace Go.Proofs.YtklajbdbnnceiaaGreat
open Go Go.Fw
open Sha
def sprE (sz:Nat) (W S H:Int) (seed:List UInt8) (d:Int) (ep:UInt32):Value→List Ent→World→Prop:=fun v L w =>
  L=[]∧∃ p,SpIs p W S H seed d ep∧SpAt w p 0 (fun _=>none) none∧sz≤p.g∧sz≤p.cg∧v=.pointer (some ⟨p.g,0,none⟩)
theorem sprE.st {sz:Nat} {W S H d:Int} {seed:List UInt8} {ep:UInt32} (v:Value) (L:List Ent) (w w':World) (hf:Fr0 w w') (h:tupG [] [I 0] (sprE sz W S H seed d ep) v L w):tupG [] [I 0] (sprE sz W S H seed d ep) v L w':=by
  obtain ⟨tv,h1,h2,p,h3,h4,h5⟩:=h
  exact ⟨tv,h1,h2,p,h3,h4.fr0 hf,h5⟩
theorem spring_NewE {W S H d:Int} {ep:UInt32} {seed:List UInt8} (hsd:seed.length=32) (hyes:spFits W S H d ep=true) (w:World) (sz:Nat) (hsz:sz≤w.heap.size):Ctr Tryz.prog 14 [.agg #[I W,I S,I H],.agg (seed.map B).toArray,I d,U ep] w (fun _=>False) (outE (tupG [] [I 0] (sprE sz W S H seed d ep)) w) :=
  (spring_New W S H d ep seed hsd w).mono fun v w' _ h=>h.elim (fun h=>by rw [hyes] at h; cases h.1) fun ⟨_,p,h1,h2,h3,h4,h5⟩=>⟨[],⟨_,h5,rfl,p,h1,h2,Nat.le_trans hsz h3,Nat.le_trans hsz h4,rfl⟩,.nil _ _⟩
end Go.Proofs.YtklajbdbnnceiaaGreat
end
