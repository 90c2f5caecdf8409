/- Own texts of this seat,laid together for one claim (with what its proof uses alone). -/
import Derived.Test.YtklajbdbnnceiaaGreatPasKb
set_option linter.unusedSimpArgs false
set_option linter.unusedVariables false
set_option maxRecDepth 100000
set_option maxHeartbeats 4000000
section
/- The sum of what was taken in. -/
namespace Go.Proofs.YtklajbdbnnceiaaGreat
open Go Go.Fw
open Sha
theorem be64_take (x:UInt64):∀ k,k < 8→(be64 x).take (k + 1)=(be64 x).take k++[(x >>> UInt64.ofNat (56 - 8 * k)).toUInt8]
  | 0,_=>rfl | 1,_=>rfl | 2,_=>rfl | 3,_=>rfl | 4,_=>rfl | 5,_=>rfl | 6,_=>rfl
  | 7,_=>by simp [be64]
  | k + 8,h=>absurd h (by omega)
theorem out_take (r:R):∀ k,k < 8→(out r).take (4 * (k + 1))=(out r).take (4 * k)++be32 (r.list.getD k 0)
  | 0,_=>rfl | 1,_=>rfl | 2,_=>rfl | 3,_=>rfl | 4,_=>rfl | 5,_=>rfl | 6,_=>rfl | 7,_=>rfl
  | k + 8,h=>absurd h (by omega)
theorem set4 (P:List UInt8) (m:Nat) (a b c d:UInt8) (k:Nat) (hk:P.length=4 * k) :
    ((((P++List.replicate (m + 4) (0:UInt8)).set (4 * k) a).set (4 * k + 1) b).set (4 * k + 2) c).set (4 * k + 3) d=P++[a,b,c,d]++List.replicate m 0:=by
  have e:List.replicate (m + 4) (0:UInt8)=0::0::0::0::List.replicate m 0:=rfl
  rw [← hk,e]
  simp [List.set_append_right,List.set]
theorem arr_get {α:Type} {f:α→Value} {l:List α} {i:Nat} (d:α) (hi:i < l.length):(l.map f).toArray[i]?=some (f (l.getD i d)):=by simp [List.getD,hi]
def outZ (r:R) (k:Nat):List UInt8:=(out r).take (4 * k)++List.replicate (32 - 4 * k) 0
theorem outZ_len (r:R) (k:Nat) (h:k≤8):(outZ r k).length=32:=by simp [outZ]; omega
theorem outZ_set (r:R) (k:Nat) (h:k < 8) (a b c d:UInt8) (he:be32 (r.list.getD k 0)=[a,b,c,d]) :
    ((((outZ r k).set (4 * k) a).set (4 * k + 1) b).set (4 * k + 2) c).set (4 * k + 3) d=outZ r (k + 1):=by
  have h4:=set4 ((out r).take (4 * k)) (32 - 4 * (k + 1)) a b c d k (by simp; omega)
  rw [show 32 - 4 * (k + 1) + 4=32 - 4 * k from by omega] at h4
  rw [outZ,h4,outZ,out_take r k h,he]
theorem sha_HSum (a:List UInt8) (g:Nat) (rv:Value) (hle:a.length≤140737488355328) (w:World) (hg:w.heap[g]?=some (.cells (hcells a rv).toArray 272 (0,0))) (hr:RdB w rv (rest a)):Ctr Tryz.prog 155 [.pointer (some ⟨g,0,none⟩)] w (fun _=>False) (fun v _=>v=.agg ((sum a).map B).toArray):=by
  obtain ⟨rad,rcap,rfl,hrc,hrm⟩:=Rd.sl hr
  have hrl:=rest_length a
  refine fn_start (N:=87) Tryz.func155 rfl rfl rfl fun ac hk=>?_
  have hs:=St.start hk w
  refine wp_seq (wp_reg ?_)
  refine s_alloc hs ty129 rfl fun ac ww g2 hs=>?_
  refine s_end (then_n (wp_seq (wp_reg ?_)))
  refine s_alloc hs ty129 rfl fun ac ww g3 hs=>?_
  refine s_end (then_n (wp_seq (wp_seq (wp_reg ?_))))
  refine zM hs fun ac hs=>?_
  refine s_q hs (c_eqlNil un256 (hs.ev rfl) (hs.ev rfl)) rfl fun ac hs=>?_
  refine s_end ?_
  replace hs:=hs.sub (F':=[(0,_),(2,_),(3,_),(10,_)]) ⟨rfl,rfl,rfl,rfl,trivial⟩
  refine then_n ?_
  refine wp_cond_false (hs.ev rfl) ?_
  refine wp_skip (then_n (wp_seq (wp_reg ?_)))
  refine s_bslice hs un177 ty5 .nil rfl (by simp [Value.cells]) (by decide) rfl rfl fun ac ww g12 hs=>?_
  refine zM hs fun ac hs=>?_
  refine s_q hs (c_nil (hs.ev rfl)) rfl fun ac hs=>?_
  refine s_q hs (c_fld fl272_1 (hs.ev rfl)) rfl fun ac hs=>?_
  refine s_q hs (c_loadS un177 rfl (hs.ev rfl) (hs.old hg id) rfl) rfl fun ac hs=>?_
  replace hs:=hs.segrow (i:=0) (n:=0) (sz:=1) rfl rfl (by decide)
  refine s_appB (i:=0) (l:=[]) hs un177 ty5 rfl rfl rfl (hr.fr0 hs.fr) (by simp; omega) rfl fun ac ww v17 hf hnil hs=>?_
  refine s_bslice hs un177 ty5 (.cons (hs.ev rfl) .nil) rfl (by simp [Value.cells]) (by decide) rfl rfl fun ac ww g18 hs=>?_
  refine s_appB (i:=1) hs un177 ty5 rfl rfl rfl (RdB.seg (l:=[0x80]) (hs.seg (i:=0) rfl) (by decide)) (by simp; omega) rfl fun ac ww v19 hf hnil hs=>?_
  refine zA hs fun ac hs=>?_
  refine s_end ?_
  replace hs:=hs.pick (L':=[_,_,_]) (.cons _ (.refl _))
  replace hs:=hs.sub (F':=[(0,_),(2,_),(3,_),(4,_)]) ⟨rfl,rfl,rfl,rfl,trivial⟩
  refine then_n (wp_seq (wp_block ?_))
  refine s_loop hs (X:=Nat × Value) (fun x=>[(4,x.2)]) [(0,_),(2,_),(3,_)] (fun x=>[.row x.2 ((rest a++[0x80])++List.replicate x.1 0).length (((rest a++[0x80])++List.replicate x.1 0).map B) 5 1,.seg g3 ((List.replicate 32 (0:UInt8)).map B) 129,.seg g2 ((List.replicate 32 (0:UInt8)).map B) 129]) (fun n x=>x.1≤zc (rest a).length∧n=zc (rest a).length - x.1) (_) ((0,_)) (⟨Nat.zero_le _,rfl⟩) ⟨rfl,rfl,rfl,rfl,trivial⟩ (by simp only [List.replicate_zero,List.take_zero,List.append_nil]; try rfl) ?_
  rintro n ⟨j,v⟩ ac ww hok hs
  simp only [List.cons_append,List.nil_append] at hs
  obtain ⟨hj,rfl⟩:=hok
  simp only at hj hs
  obtain ⟨ad,cap,rfl,_,_⟩:=Rd.sl (RdB.row (hs.get (i:=0) rfl))
  have hll:((rest a++[0x80])++List.replicate j (0:UInt8)).length=(rest a).length + 1 + j:=by simp; omega
  simp only [zc,hrl] at hj
  refine wp_seq (wp_seq (wp_reg ?_))
  refine zM hs fun ac hs=>?_
  refine s_q hs (c_lenS un177 (hs.ev rfl)) rfl fun ac hs=>?_
  refine s_q hs (c_remI (hs.ev rfl) (hs.ev rfl) (by omega) (by omega)) rfl fun ac hs=>?_
  refine s_q hs (c_neqI (hs.ev rfl) (hs.ev rfl)) rfl fun ac hs=>?_
  refine s_end (then_n ?_)
  refine s_cond hs rfl (fun hc=>?_) (fun hc=>?_)
  · try simp only [z1,z2,z3,z4,z5,z6,z7] at hc
    refine wp_skip (then_n (wp_block (wp_reg ?_)))
    refine zM hs fun ac hs=>?_
    refine s_bslice hs un177 ty5 (.cons (hs.ev rfl) .nil) rfl (by simp [Value.cells]) (by decide) rfl rfl fun ac ww g25 hs=>?_
    refine s_appB (i:=1) hs un177 ty5 rfl rfl rfl (RdB.seg (l:=[0]) (hs.seg (i:=0) rfl) (by decide)) (by rw [hll]; simp; omega) rfl fun ac ww v26 hf hnil hs=>?_
    refine zA hs fun ac hs=>?_
    refine s_end (blk_n (then_n ?_))
    replace hs:=hs.pick (L':=[_,_,_]) (.cons _ (.refl _))
    exact ⟨zc (rest a).length - (j + 1),by rw [hll] at hc; simp only [zc,hrl]; omega,(j + 1,_),⟨by rw [hll] at hc; simp only [zc,hrl]; omega,rfl⟩,St.next hs ⟨rfl,rfl,rfl,rfl,trivial⟩ (by simp [List.replicate_succ',← List.append_assoc])⟩
  · try simp only [z1,z2,z3,z4,z5,z6,z7] at hc
    have hjj:j=zc (rest a).length:=by rw [hll] at hc; simp only [zc,hrl]; omega
    subst hjj
    refine wp_exit (then_e (then_e (blk_hit (then_n (wp_seq (wp_seq (wp_reg ?_)))))))
    refine zA hs fun ac hs=>?_
    refine s_end ?_
    replace hs:=hs.sub (F':=[(0,_),(2,_),(3,_),(4,_),(5,_)]) ⟨rfl,rfl,rfl,rfl,rfl,trivial⟩
    refine then_n (wp_block ?_)
    refine s_loop hs (X:=Nat × Value) (fun x=>[(4,x.2),(5,I (56 - 8 * (x.1:Int)))]) [(0,_),(2,_),(3,_)] (fun x=>[.row x.2 ((rest a++[0x80])++List.replicate (zc (rest a).length) 0++(be64 (UInt64.ofNat a.length * 8)).take x.1).length (((rest a++[0x80])++List.replicate (zc (rest a).length) 0++(be64 (UInt64.ofNat a.length * 8)).take x.1).map B) 5 1,.seg g3 ((List.replicate 32 (0:UInt8)).map B) 129,.seg g2 ((List.replicate 32 (0:UInt8)).map B) 129]) (fun n x=>x.1≤8∧n=8 - x.1) (8) ((0,_)) (⟨Nat.zero_le _,rfl⟩) ⟨rfl,rfl,rfl,rfl,rfl,trivial⟩ (by simp only [List.replicate_zero,List.take_zero,List.append_nil]; try rfl) ?_
    rintro n ⟨k,v⟩ ac ww hok hs
    simp only [List.cons_append,List.nil_append] at hs
    obtain ⟨hk,rfl⟩:=hok
    simp only at hk hs
    obtain ⟨ad,cap,rfl,_,_⟩:=Rd.sl (RdB.row (hs.get (i:=0) rfl))
    refine wp_seq (wp_seq (wp_reg ?_))
    refine zM hs fun ac hs=>?_
    refine s_q hs (c_geqI (hs.ev rfl) (hs.ev rfl)) rfl fun ac hs=>?_
    refine s_end (then_n ?_)
    refine s_cond hs rfl (fun hc=>?_) (fun hc=>?_)
    · try simp only [z1,z2,z3,z4,z5,z6,z7] at hc
      refine wp_skip (then_n (wp_seq (wp_block (wp_reg ?_))))
      refine zM hs fun ac hs=>?_
      refine zM hs fun ac hs=>?_
      refine s_q hs (c_nil (hs.ev rfl)) rfl fun ac hs=>?_
      refine s_q hs (c_fld fl272_2 (hs.ev rfl)) rfl fun ac hs=>?_
      refine s_q hs (c_loadS un124 rfl (hs.ev rfl) (hs.old hg id) rfl) rfl fun ac hs=>?_
      refine s_q hs (c_mulV (hs.ev rfl) (St.ev (v:=V 8) hs rfl)) rfl fun ac hs=>?_
      refine zM hs fun ac hs=>?_
      refine s_q hs (c_shrV (n:=56 - 8 * k) (hs.ev rfl) ((hs.ev rfl).trans (congrArg I (by omega))) (by omega)) rfl fun ac hs=>?_
      refine s_q hs (c_cvVB un124 un5 (hs.ev rfl)) rfl fun ac hs=>?_
      refine s_bslice hs un177 ty5 (.cons (hs.ev rfl) .nil) rfl (by simp [Value.cells]) (by decide) rfl rfl fun ac ww g40 hs=>?_
      refine s_appB (i:=1) hs un177 ty5 rfl rfl rfl (RdB.seg (l:=[_]) (hs.seg (i:=0) rfl) (by show 1≤maxLen; decide)) (by simp only [List.length_append,List.length_replicate,List.length_take,be64_length,zc]; simp; omega) rfl fun ac ww v41 hf hnil hs=>?_
      refine zA hs fun ac hs=>?_
      refine s_end (blk_n (then_n (wp_reg ?_)))
      refine zM hs fun ac hs=>?_
      refine s_q hs (c_subI (hs.ev rfl) (hs.ev rfl) (by omega) (by omega)) rfl fun ac hs=>?_
      refine zA hs fun ac hs=>?_
      refine s_end (then_n ?_)
      replace hs:=hs.pick (L':=[_,_,_]) (.cons _ (.refl _))
      exact ⟨8 - (k + 1),by omega,(k + 1,_),⟨by (try simp only); omega,rfl⟩,St.next hs ⟨rfl,(congrArg (fun z=>some (I z)) (by omega)),rfl,rfl,rfl,trivial⟩ (by rw [be64_take _ k (by omega)]; simp only [List.append_assoc,List.set])⟩
    · try simp only [z1,z2,z3,z4,z5,z6,z7] at hc
      obtain rfl:k=8:=by omega
      refine wp_exit (then_e (then_e (blk_hit (then_n (wp_seq (wp_reg ?_))))))
      refine zM hs fun ac hs=>?_
      refine s_q hs (c_nil (hs.ev rfl)) rfl fun ac hs=>?_
      refine s_q hs (c_fld fl272_0 (hs.ev rfl)) rfl fun ac hs=>?_
      refine s_q hs (c_loadA ty262 rfl (hs.ev rfl) (hs.old hg id) (show _=(foldB first a (a.length / 64)).list.map U from rfl) (by simp)) rfl fun ac hs=>?_
      refine s_alloc hs ty262 rfl fun ac ww g6 hs=>?_
      refine s_storeW (i:=0) hs ty262 rfl rfl rfl (by simp) (all_map_U _) (by simp) fun ww hs=>?_
      refine s_end ?_
      replace hs:=hs.sub (F':=[(2,_),(3,_),(4,_),(6,_)]) ⟨rfl,rfl,rfl,rfl,trivial⟩
      refine then_n (wp_seq (wp_block ?_))
      replace hs:=(hs.rowrd (i:=1) rfl).toL (show _=[_,Ent.rd _ ((fill (rest a) (UInt64.ofNat a.length)).drop (64 * 0)),_,_] from rfl)
      refine s_loop hs (X:=Nat × Value) (fun x=>[(4,x.2)]) [(2,_),(3,_),(6,_)] (fun x=>[.seg g6 ((foldB (foldB first a (a.length / 64)) (fill (rest a) (UInt64.ofNat a.length)) x.1).list.map U) 262,.rd x.2 ((fill (rest a) (UInt64.ofNat a.length)).drop (64 * x.1)),.seg g3 ((List.replicate 32 (0:UInt8)).map B) 129,.seg g2 ((List.replicate 32 (0:UInt8)).map B) 129]) (fun n x=>x.1≤blocks (rest a).length∧n=blocks (rest a).length - x.1) (_) ((0,_)) (⟨Nat.zero_le _,rfl⟩) ⟨rfl,rfl,rfl,rfl,trivial⟩ rfl ?_
      rintro n ⟨k,v⟩ ac ww hok hs
      simp only [List.cons_append,List.nil_append] at hs
      obtain ⟨hk,rfl⟩:=hok
      simp only at hk hs
      obtain ⟨ad,cap,rfl,_,_⟩:=Rd.sl (hs.get (i:=1) rfl)
      have hdl:((fill (rest a) (UInt64.ofNat a.length)).drop (64 * k)).length=64 * blocks (rest a).length - 64 * k:=by rw [List.length_drop,fill_length]
      refine wp_seq (wp_seq (wp_reg ?_))
      refine zM hs fun ac hs=>?_
      refine s_q hs (c_lenS un177 (hs.ev rfl)) rfl fun ac hs=>?_
      refine s_q hs (c_gtrI (hs.ev rfl) (hs.ev rfl)) rfl fun ac hs=>?_
      refine s_end (then_n ?_)
      refine s_cond hs rfl (fun hc=>?_) (fun hc=>?_)
      · try simp only [z1,z2,z3,z4,z5,z6,z7] at hc
        rw [hdl] at hc
        refine wp_skip (then_n (wp_seq (wp_block (wp_reg ?_))))
        refine s_q hs (c_loadW ty262 rfl (hs.ev rfl) (hs.seg (i:=0) rfl) (by simp)) rfl fun ac hs=>?_
        refine zM hs fun ac hs=>?_
        refine s_call hs fu165 (.cons (hs.ev rfl) (.cons (hs.ev rfl) .nil)) (sha_mix _ ((fill (rest a) (UInt64.ofNat a.length)).drop (64 * k)) _ (by omega) _ (hs.get (i:=1) rfl)) rfl fun ac ww v53 hf hp hs=>?_
        obtain rfl:=hp
        replace hs:=hs [] (.nil _ _)
        refine s_storeW (i:=0) hs ty262 rfl rfl rfl (by simp) (all_map_U _) rfl fun ww hs=>?_
        refine s_end (blk_n (then_n (wp_reg ?_)))
        refine zM hs fun ac hs=>?_
        refine s_q hs (c_sliceL (i:=64) un177 ty5 (hs.ev rfl) (hs.ev rfl) (by omega) (by omega)) rfl fun ac hs=>?_
        refine zA hs fun ac hs=>?_
        refine s_end (then_n ?_)
        replace hs:=hs.rdcut (i:=1) (j:=64) rfl (by omega)
        exact ⟨blocks (rest a).length - (k + 1),by (try simp only); omega,(k + 1,_),⟨by (try simp only); omega,rfl⟩,St.next hs ⟨rfl,rfl,rfl,rfl,trivial⟩ (by simp only [List.set,foldB,List.drop_drop]; rfl)⟩
      · try simp only [z1,z2,z3,z4,z5,z6,z7] at hc
        have hkk:k=blocks (rest a).length:=by rw [hdl] at hc; omega
        subst hkk
        refine wp_exit (then_e (then_e (blk_hit (then_n (wp_seq (wp_seq (wp_reg ?_)))))))
        refine s_q hs (c_loadW ty262 rfl (hs.ev rfl) (hs.seg (i:=0) rfl) (by simp)) rfl fun ac hs=>?_
        refine zM hs fun ac hs=>?_
        refine s_end ?_
        replace hs:=hs.pick (L':=[_,_,_]) (.cons_cons _ (.cons _ (.refl _)))
        replace hs:=hs.sub (F':=[(2,_),(3,_),(54,_),(55,_)]) ⟨rfl,rfl,rfl,rfl,trivial⟩
        refine then_n (wp_block ?_)
        refine s_loop hs (X:=Nat) (fun k=>[(55,I k)]) [(2,_),(3,_),(54,_)] (fun k=>[.seg g6 ((foldB (foldB first a (a.length / 64)) (fill (rest a) (UInt64.ofNat a.length)) (blocks (rest a).length)).list.map U) 262,.seg g3 ((outZ (foldB (foldB first a (a.length / 64)) (fill (rest a) (UInt64.ofNat a.length)) (blocks (rest a).length)) k).map B) 129,.seg g2 ((List.replicate 32 (0:UInt8)).map B) 129]) (fun n k=>k≤8∧n=8 - k) (8) (0) (⟨Nat.zero_le _,rfl⟩) ⟨rfl,rfl,rfl,rfl,trivial⟩ rfl ?_
        rintro n k ac ww hok hs
        simp only [List.cons_append,List.nil_append] at hs
        obtain ⟨hk,rfl⟩:=hok
        have hzl:=outZ_len (foldB (foldB first a (a.length / 64)) (fill (rest a) (UInt64.ofNat a.length)) (blocks (rest a).length)) k hk
        refine wp_seq (wp_reg ?_)
        refine s_q hs (c_lssI (hs.ev rfl) (hs.ev rfl)) rfl fun ac hs=>?_
        refine s_end (then_n (wp_seq ?_))
        refine s_cond hs rfl (fun hc=>?_) (fun hc=>?_)
        · try simp only [z1,z2,z3,z4,z5,z6,z7] at hc
          obtain hk8:k < 8:=by omega
          refine wp_skip (then_n (wp_seq (wp_block (wp_seq (wp_reg ?_)))))
          refine zM hs fun ac hs=>?_
          refine s_q hs (c_idxS1 (j:=k) un262 ty25 rfl (hs.ev rfl) (hs.ev rfl) (by omega) (by omega) (arr_get 0 (by simp; omega))) rfl fun ac hs=>?_
          refine zA hs fun ac hs=>?_
          refine zA hs fun ac hs=>?_
          refine s_end (then_n (wp_reg ?_))
          refine zM hs fun ac hs=>?_
          refine s_q hs (c_mulI (hs.ev rfl) (hs.ev rfl) (by omega) (by omega)) rfl fun ac hs=>?_
          refine zM hs fun ac hs=>?_
          refine s_q hs (c_mulI (hs.ev rfl) (hs.ev rfl) (by omega) (by omega)) rfl fun ac hs=>?_
          refine s_q hs (c_addI (hs.ev rfl) (hs.ev rfl) (by omega) (by omega)) rfl fun ac hs=>?_
          refine zM hs fun ac hs=>?_
          refine s_q hs (c_mulI (hs.ev rfl) (hs.ev rfl) (by omega) (by omega)) rfl fun ac hs=>?_
          refine s_q hs (c_addI (hs.ev rfl) (hs.ev rfl) (by omega) (by omega)) rfl fun ac hs=>?_
          refine zM hs fun ac hs=>?_
          refine s_q hs (c_mulI (hs.ev rfl) (hs.ev rfl) (by omega) (by omega)) rfl fun ac hs=>?_
          refine s_q hs (c_addI (hs.ev rfl) (hs.ev rfl) (by omega) (by omega)) rfl fun ac hs=>?_
          refine zM hs fun ac hs=>?_
          refine s_q hs (c_shrU (hs.ev rfl) (hs.ev rfl) (by decide)) rfl fun ac hs=>?_
          refine s_q hs (c_cvUB un25 un5 (hs.ev rfl)) rfl fun ac hs=>?_
          refine zM hs fun ac hs=>?_
          refine s_q hs (c_shrU (hs.ev rfl) (hs.ev rfl) (by decide)) rfl fun ac hs=>?_
          refine s_q hs (c_cvUB un25 un5 (hs.ev rfl)) rfl fun ac hs=>?_
          refine zM hs fun ac hs=>?_
          refine s_q hs (c_shrU (hs.ev rfl) (hs.ev rfl) (by decide)) rfl fun ac hs=>?_
          refine s_q hs (c_cvUB un25 un5 (hs.ev rfl)) rfl fun ac hs=>?_
          refine zM hs fun ac hs=>?_
          refine s_q hs (c_cvUB un25 un5 (hs.ev rfl)) rfl fun ac hs=>?_
          refine s_q hs (c_idxA (j:=4 * k) un129 ty5 (hs.ev rfl) (hs.ev rfl) (by omega) (by omega)) rfl fun ac hs=>?_
          refine s_store (i:=1) hs ty5 rfl rfl rfl rfl rfl rfl (by simp only [List.length_map]; first | omega | (simp only [List.length_set]; omega)) (map_set _ (by first | omega | (simp only [List.length_set]; omega))) fun ww hs=>?_
          refine s_q hs (c_idxA (j:=4 * k + 1) un129 ty5 (hs.ev rfl) (hs.ev rfl) (by omega) (by omega)) rfl fun ac hs=>?_
          refine s_store (i:=1) hs ty5 rfl rfl rfl rfl rfl rfl (by simp only [List.length_map]; first | omega | (simp only [List.length_set]; omega)) (map_set _ (by first | omega | (simp only [List.length_set]; omega))) fun ww hs=>?_
          refine s_q hs (c_idxA (j:=4 * k + 2) un129 ty5 (hs.ev rfl) (hs.ev rfl) (by omega) (by omega)) rfl fun ac hs=>?_
          refine s_store (i:=1) hs ty5 rfl rfl rfl rfl rfl rfl (by simp only [List.length_map]; first | omega | (simp only [List.length_set]; omega)) (map_set _ (by first | omega | (simp only [List.length_set]; omega))) fun ww hs=>?_
          refine s_q hs (c_idxA (j:=4 * k + 3) un129 ty5 (hs.ev rfl) (hs.ev rfl) (by omega) (by omega)) rfl fun ac hs=>?_
          refine s_store (i:=1) hs ty5 rfl rfl rfl rfl rfl rfl (by simp only [List.length_map]; first | omega | (simp only [List.length_set]; omega)) (map_set _ (by first | omega | (simp only [List.length_set]; omega))) fun ww hs=>?_
          refine s_end (blk_n (then_n (wp_reg ?_)))
          refine s_q hs (c_addI (hs.ev rfl) (hs.ev rfl) (by omega) (by omega)) rfl fun ac hs=>?_
          refine zM hs fun ac hs=>?_
          refine s_end (then_n ?_)
          exact ⟨8 - (k + 1),by omega,k + 1,⟨by omega,rfl⟩,St.next hs ⟨rfl,rfl,rfl,rfl,trivial⟩ (congrArg (fun z=>[_,Ent.seg g3 (List.map B z) 129,_]) (outZ_set _ k (by omega) _ _ _ _ rfl))⟩
        · try simp only [z1,z2,z3,z4,z5,z6,z7] at hc
          obtain rfl:k=8:=by omega
          refine wp_exit (then_e (then_e (blk_hit (then_n (wp_seq (wp_reg ?_))))))
          refine s_q hs (c_loadW ty129 rfl (hs.ev rfl) (hs.seg (i:=1) rfl) (by simpa using hzl)) rfl fun ac hs=>?_
          refine s_storeW (i:=2) hs ty129 rfl rfl rfl (by simpa using hzl) (all_map_B _) rfl fun ww hs=>?_
          refine s_end ?_
          replace hs:=hs.sub (F':=[(2,_)]) ⟨rfl,trivial⟩
          refine then_n (wp_ret ?_)
          refine s_ret hs rfl (.cell (hs.tmp rfl) (run_loadA ty129 rfl (hs.seg (i:=2) rfl) (List.take_of_length_le (by simp [hzl])) (by simpa using hzl)) .nil) rfl ⟨_,rfl,hs.fr,?_⟩
          show _=_
          rw [← sum_rest a,← hrl]
          rfl
end Go.Proofs.YtklajbdbnnceiaaGreat
end

section
/- Sums,counts,digits. -/
namespace Go.Proofs.YtklajbdbnnceiaaGreat
open Go Go.Fw
open Sha
theorem sha_Sum (p:List UInt8) (pv:Value) (hle:p.length≤140737488355328) (w:World) (hq:RdB w pv p):Ctr Tryz.prog 185 [pv] w (fun _=>False) (fun v _=>v=.agg ((sum p).map B).toArray):=by
  refine fn_start (N:=10) Tryz.func185 rfl rfl rfl fun ac hk=>?_
  have hs:=St.start hk w
  refine wp_seq (wp_reg ?_)
  refine s_alloc hs ty129 rfl fun ac ww g2 hs=>?_
  refine s_end (then_n (wp_seq (wp_reg ?_)))
  refine s_call hs fu152 .nil (sha_New _) rfl fun ac ww v4 hf hp hs=>?_
  obtain ⟨g,rfl,hh⟩:=hp
  replace hs:=hs _ (Has.grp' hh)
  refine zA hs fun ac hs=>?_
  refine s_end ?_
  replace hs:=hs.sub (F':=[(0,_),(2,_),(3,_)]) ⟨rfl,rfl,rfl,trivial⟩
  refine then_n (wp_seq (wp_reg ?_))
  refine zM hs fun ac hs=>?_
  refine zM hs fun ac hs=>?_
  refine s_callM (i:=0) hs fu153 (.cons (hs.ev rfl) (.cons (hs.ev rfl) .nil)) rfl (sha_Write [] p g _ pv (by simp; omega) _ (hs.get (i:=0) rfl) (hq.fr0 hs.fr) (hs.far (i:=0) rfl hq)) rfl fun ac ww v7 hf hp hs=>?_
  obtain ⟨rv,h1,h2⟩:=hp
  replace hs:=hs (Ent.grp (hash g rv ([]++p))) h1 (fun k hk=>⟨h2 k hk,grp_lt h1 k hk⟩)
  obtain ⟨hg,hr⟩:=hash_get h1
  refine s_end ?_
  replace hs:=hs.sub (F':=[(2,_),(3,_)]) ⟨rfl,rfl,trivial⟩
  refine then_n (wp_seq (wp_reg ?_))
  refine zM hs fun ac hs=>?_
  refine s_call hs fu155 (.cons (hs.ev rfl) .nil) (sha_HSum p g rv hle _ hg hr) rfl fun ac ww v9 hf hp hs=>?_
  obtain rfl:=hp
  replace hs:=hs [] (.nil _ _)
  refine s_storeW (i:=1) hs ty129 rfl rfl rfl (by simp) (all_map_B _) (by simp) fun ww hs=>?_
  refine s_end ?_
  replace hs:=hs.sub (F':=[(2,_)]) ⟨rfl,trivial⟩
  refine then_n (wp_ret ?_)
  refine s_ret hs rfl (.cell (hs.tmp rfl) (run_loadA ty129 rfl (hs.seg (i:=1) rfl) (List.take_of_length_le (by simp)) (by simp)) .nil) rfl ⟨_,rfl,hs.fr,?_⟩
  rfl
end Go.Proofs.YtklajbdbnnceiaaGreat
end

section
/- The sum as the document has it. -/
namespace Go.Proofs.YtklajbdbnnceiaaGreat
open Go Go.Fw
open Sha
theorem v_sub32 (n:Nat) (h:n≤32):V (32 - UInt64.ofNat n)=Value.int .u64 ((32 - n:Nat):Int):=by
  unfold V
  congr 1
  have h2:(UInt64.ofNat n)≤32:=by rw [UInt64.le_iff_toNat_le,UInt64.toNat_ofNat']; show n % 2 ^ 64≤32; omega
  rw [UInt64.toNat_sub_of_le _ _ h2,UInt64.toNat_ofNat']
  have h3:(32:UInt64).toNat=32:=rfl
  rw [h3]
  omega
theorem v_of (n:Nat) (h:n≤32):V (UInt64.ofNat n)=Value.int .u64 (n:Int):=by
  unfold V
  rw [UInt64.toNat_ofNat']
  congr 2
  omega
theorem word_sum (a b c d:UInt8):a.toUInt32 * (16777216:UInt32) + b.toUInt32 * (65536:UInt32) + c.toUInt32 * (256:UInt32) + d.toUInt32=a.toUInt32 <<< 24 ||| b.toUInt32 <<< 16 ||| c.toUInt32 <<< 8 ||| d.toUInt32:=by
  have ha:=a.toNat_lt; have hb:=b.toNat_lt; have hc:=c.toNat_lt; have hd:=d.toNat_lt
  apply UInt32.toNat_inj.1
  have e1:(a.toNat <<< 24 + b.toNat <<< 16)=a.toNat <<< 24 ||| b.toNat <<< 16:=Nat.shiftLeft_add_eq_or_of_lt (by rw [Nat.shiftLeft_eq]; omega) _
  have e2:((a.toNat <<< 8 + b.toNat) <<< 16 + c.toNat <<< 8)=(a.toNat <<< 8 + b.toNat) <<< 16 ||| c.toNat <<< 8:=Nat.shiftLeft_add_eq_or_of_lt (by rw [Nat.shiftLeft_eq]; omega) _
  have e3:(((a.toNat <<< 8 + b.toNat) <<< 8 + c.toNat) <<< 8 + d.toNat)=((a.toNat <<< 8 + b.toNat) <<< 8 + c.toNat) <<< 8 ||| d.toNat:=Nat.shiftLeft_add_eq_or_of_lt (by omega) _
  have f1:(a.toNat <<< 8 + b.toNat) <<< 16=a.toNat <<< 24 + b.toNat <<< 16:=by simp only [Nat.shiftLeft_eq]; omega
  have f2:((a.toNat <<< 8 + b.toNat) <<< 8 + c.toNat) <<< 8=(a.toNat <<< 8 + b.toNat) <<< 16 + c.toNat <<< 8:=by simp only [Nat.shiftLeft_eq]; omega
  have g1:(a.toUInt32 <<< 24).toNat=a.toNat <<< 24:=by simp [UInt32.toNat_shiftLeft]; rw [Nat.shiftLeft_eq]; omega
  have g2:(b.toUInt32 <<< 16).toNat=b.toNat <<< 16:=by simp [UInt32.toNat_shiftLeft]; rw [Nat.shiftLeft_eq]; omega
  have g3:(c.toUInt32 <<< 8).toNat=c.toNat <<< 8:=by simp [UInt32.toNat_shiftLeft]; rw [Nat.shiftLeft_eq]; omega
  simp only [UInt32.toNat_or,g1,g2,g3,UInt8.toNat_toUInt32]
  rw [← e1,← f1,← e2,← f2,← e3]
  simp only [UInt32.toNat_add,UInt32.toNat_mul,UInt8.toNat_toUInt32,Nat.shiftLeft_eq]
  have h1:(16777216:UInt32).toNat=16777216:=rfl
  have h2:(65536:UInt32).toNat=65536:=rfl
  have h3:(256:UInt32).toNat=256:=rfl
  rw [h1,h2,h3]
  omega
theorem add_set (r s:R):∀ k,k < 8→((r.add s).list.take k++r.list.drop k).set k (r.list.getD k 0 + s.list.getD k 0)=(r.add s).list.take (k + 1)++r.list.drop (k + 1)
  | 0,_=>rfl | 1,_=>rfl | 2,_=>rfl | 3,_=>rfl | 4,_=>rfl | 5,_=>rfl | 6,_=>rfl | 7,_=>rfl
  | k + 8,h=>absurd h (by omega)
theorem add_get (r s:R):∀ k,k < 8→(((r.add s).list.take k++r.list.drop k).map U)[0 + k * 1]?=some (U (r.list.getD k 0))
  | 0,_=>rfl | 1,_=>rfl | 2,_=>rfl | 3,_=>rfl | 4,_=>rfl | 5,_=>rfl | 6,_=>rfl | 7,_=>rfl
  | k + 8,h=>absurd h (by omega)
theorem add_len (r s:R) (k:Nat) (h:k≤8):((r.add s).list.take k++r.list.drop k).length=8:=by simp; omega
theorem add4 (a b c d:UInt32):a + b + c + d=d + c + b + a:=by
  rw [UInt32.add_comm (a + b + c) d,UInt32.add_comm (a + b) c,UInt32.add_comm a b,← UInt32.add_assoc,← UInt32.add_assoc]
theorem lo_eq (p:List UInt8) (k:Nat) (hk:k < 16):sched p (k + 1)=sched p k++[(p.getD (4 * k) 0).toUInt32 * (16777216:UInt32) + (p.getD (4 * k + 1) 0).toUInt32 * (65536:UInt32) + (p.getD (4 * k + 2) 0).toUInt32 * (256:UInt32) + (p.getD (4 * k + 3) 0).toUInt32]:=by
  rw [sched_lo p k hk,word,word_sum]
theorem hi_eq (p:List UInt8) (k:Nat) (hk:16≤k):sched p (k + 1)=sched p k++[s1 ((sched p k).getD (k - 2) 0) + (sched p k).getD (k - 7) 0 + s0 ((sched p k).getD (k - 15) 0) + (sched p k).getD (k - 16) 0]:=by
  rw [sched_hi p k hk,add4]
theorem ref04_rotr (x:UInt32) (n:Nat) (h0:0 < n) (h32:n < 32) (w:World) :Ctr Tryz.prog 166 [U x,.int .u64 (n:Int)] w (fun _=>False) (fun v _=>v=U (rotr x n)):=by
  refine fn_start (N:=13) Tryz.func166 rfl rfl rfl fun ac hk=>?_
  have hs:=St.start hk w
  refine wp_seq (wp_reg ?_)
  refine s_q hs (c_assign (St.ev (v:=U 0) hs rfl)) rfl fun ac hs=>?_
  refine s_end (then_n (wp_seq (wp_reg ?_)))
  refine zM hs fun ac hs=>?_
  refine zM hs fun ac hs=>?_
  refine s_q hs (c_shrU (n:=n) (hs.ev rfl) (hs.ev rfl) (by omega)) rfl fun ac hs=>?_
  refine zM hs fun ac hs=>?_
  refine zM hs fun ac hs=>?_
  refine s_q hs (c_subV (St.ev (v:=V 32) hs rfl) ((hs.ev rfl).trans (v_of n (by omega)).symm)) rfl fun ac hs=>?_
  refine s_q hs (c_shlU (n:=32 - n) (hs.ev rfl) ((hs.ev rfl).trans (v_sub32 n (by omega))) (by omega)) rfl fun ac hs=>?_
  refine s_q hs (c_orU (hs.ev rfl) (hs.ev rfl)) rfl fun ac hs=>?_
  refine zA hs fun ac hs=>?_
  refine s_end ?_
  replace hs:=hs.sub (F':=[(4,_)]) ⟨rfl,trivial⟩
  refine then_n (wp_ret ?_)
  refine s_ret hs rfl (.tmp (hs.tmp rfl) .nil) rfl ⟨_,rfl,hs.fr,?_⟩
  rfl
theorem ref04_K  (w:World) :Ctr Tryz.prog 158 [] w (fun _=>False) (fun v _=>v=.agg (K.map U).toArray):=by
  refine fn_start (N:=2) Tryz.func158 rfl rfl rfl fun ac hk=>?_
  have hs:=St.start hk w
  refine wp_seq (wp_reg ?_)
  refine s_alloc hs ty264 rfl fun ac ww g0 hs=>?_
  refine s_end (then_n (wp_seq (wp_reg ?_)))
  refine s_q hs (c_buildA ty264 un264 ty25 (vs:=K.map U) (zc:=K.map U) (by repeat (first | exact .nil | refine .cons rfl ?_)) (by decide) (by decide) rfl) rfl fun ac hs=>?_
  refine s_storeW (i:=0) hs ty264 rfl rfl rfl (by simp) (all_map_U _) (by simp) fun ww hs=>?_
  refine s_end ?_
  replace hs:=hs.sub (F':=[(0,_)]) ⟨rfl,trivial⟩
  refine then_n (wp_ret ?_)
  refine s_ret hs rfl (.cell (hs.tmp rfl) (run_loadA ty264 rfl (hs.seg (i:=0) rfl) (List.take_of_length_le (by simp)) (by simp)) .nil) rfl ⟨_,rfl,hs.fr,?_⟩
  rfl
theorem ref04_First  (w:World) :Ctr Tryz.prog 157 [] w (fun _=>False) (fun v _=>v=.agg (first.list.map U).toArray):=by
  refine fn_start (N:=2) Tryz.func157 rfl rfl rfl fun ac hk=>?_
  have hs:=St.start hk w
  refine wp_seq (wp_reg ?_)
  refine s_alloc hs ty262 rfl fun ac ww g0 hs=>?_
  refine s_end (then_n (wp_seq (wp_reg ?_)))
  refine s_q hs (c_buildA (zc:=first.list.map U) ty262 un262 ty25 (.cons (St.ev (v:=U 1779033703) hs rfl) (.cons (St.ev (v:=U 3144134277) hs rfl) (.cons (St.ev (v:=U 1013904242) hs rfl) (.cons (St.ev (v:=U 2773480762) hs rfl) (.cons (St.ev (v:=U 1359893119) hs rfl) (.cons (St.ev (v:=U 2600822924) hs rfl) (.cons (St.ev (v:=U 528734635) hs rfl) (.cons (St.ev (v:=U 1541459225) hs rfl) .nil)))))))) (by simp [Value.cells]) (by simp [flatCells,Value.cells]) rfl) rfl fun ac hs=>?_
  refine s_storeW (i:=0) hs ty262 rfl rfl rfl (by simp) (all_map_U _) (by simp) fun ww hs=>?_
  refine s_end ?_
  replace hs:=hs.sub (F':=[(0,_)]) ⟨rfl,trivial⟩
  refine then_n (wp_ret ?_)
  refine s_ret hs rfl (.cell (hs.tmp rfl) (run_loadA ty262 rfl (hs.seg (i:=0) rfl) (List.take_of_length_le (by simp)) (by simp)) .nil) rfl ⟨_,rfl,hs.fr,?_⟩
  rfl
theorem ref04_Block (r0:R) (p:List UInt8) (vp:Value) (h64:64≤p.length) (w:World) (hp:RdB w vp p):Ctr Tryz.prog 159 [.agg (r0.list.map U).toArray,vp,.agg (K.map U).toArray] w (fun _=>False) (fun v _=>v=.agg ((comp r0 p).list.map U).toArray):=by
  obtain ⟨pb,po,pc,pT,pf,pall,rfl,hpc,hpm,hpb,hps⟩:=RdB.at_ hp (by omega)
  have hpl:=hp.le
  refine fn_start (N:=213) Tryz.func159 rfl rfl rfl fun ac hk=>?_
  have hs:=St.start hk w
  refine wp_seq (wp_reg ?_)
  refine s_box hs rfl rfl rfl fun ac ww g3 hs=>?_
  refine s_box hs rfl rfl rfl fun ac ww g5 hs=>?_
  refine s_alloc hs ty262 rfl fun ac ww g6 hs=>?_
  refine s_end ?_
  replace hs:=hs.sub (F':=[(1,_),(3,_),(5,_),(6,_)]) ⟨rfl,rfl,rfl,rfl,trivial⟩
  refine then_n (wp_seq (wp_reg ?_))
  refine s_alloc hs ty264 rfl fun ac ww g7 hs=>?_
  refine s_end (then_n (wp_seq (wp_seq (wp_reg ?_))))
  refine zA hs fun ac hs=>?_
  refine s_end (then_n (wp_block ?_))
  refine s_loop hs (X:=Nat) (fun k=>[(8,I k)]) [(1,_),(3,_),(5,_),(6,_),(7,_)] (fun k=>[.seg g7 ((sched p k++List.replicate (64 - k) 0).map U) 264,.seg g6 ((List.replicate 8 (0:UInt32)).map U) 262,.seg g5 (K.map U) 264,.seg g3 (r0.list.map U) 262]) (fun n k=>k≤64∧n=64 - k) (64) (0) (⟨by omega,rfl⟩) ⟨rfl,rfl,rfl,rfl,rfl,rfl,trivial⟩ (by rw [sched_zero]; rfl) ?_
  rintro n k ac ww hok hs
  simp only [List.cons_append,List.nil_append] at hs
  refine wp_seq (wp_seq (wp_reg ?_))
  refine zM hs fun ac hs=>?_
  refine s_q hs (c_lssI (hs.ev rfl) (hs.ev rfl)) rfl fun ac hs=>?_
  refine s_end (then_n ?_)
  refine s_cond hs rfl (fun hc=>?_) (fun hc=>?_)
  · try simp only [z1,z2,z3,z4,z5,z6,z7] at hc
    obtain ⟨hk,rfl⟩:=hok
    refine wp_skip (then_n (wp_seq (wp_block (wp_seq (wp_seq (wp_reg ?_))))))
    refine zM hs fun ac hs=>?_
    refine s_q hs (c_lssI (hs.ev rfl) (hs.ev rfl)) rfl fun ac hs=>?_
    refine s_end (then_n ?_)
    refine s_cond hs rfl (fun hc=>?_) (fun hc=>?_)
    · try simp only [z1,z2,z3,z4,z5,z6,z7] at hc
      refine wp_seq ?_
      refine wp_region_rg pmix 35 (by kernel_rfl) rfl hs ?_
      simp only [List.take_succ_cons,List.take_zero]
      refine rg_q (fun ac ww h=>c_move (h.ev rfl)) rfl ?_
      refine rg_q (fun ac ww h=>c_move (h.ev rfl)) rfl ?_
      refine rg_q (fun ac ww h=>c_move (h.ev rfl)) rfl ?_
      refine rg_q (fun ac ww h=>c_mulI (h.ev rfl) (h.ev rfl) (by omega) (by omega)) rfl ?_
      refine rg_q (fun ac ww h=>c_idxS (j:=4 * k) un177 ty5 (h.ev rfl) (h.ev rfl) (by omega) (by omega)) rfl ?_
      refine rg_q (fun ac ww h=>c_loadS un5 rfl (h.ev rfl) (h.blk (hs.old hpb id)) (seg_get 0 hps (by omega))) rfl ?_
      refine rg_q (fun ac ww h=>c_cvBU un5 un25 (h.ev rfl)) rfl ?_
      refine rg_q (fun ac ww h=>c_mulU (h.ev rfl) (RC.ev (v:=U 16777216) h rfl)) rfl ?_
      refine rg_q (fun ac ww h=>c_move (h.ev rfl)) rfl ?_
      refine rg_q (fun ac ww h=>c_move (h.ev rfl)) rfl ?_
      refine rg_q (fun ac ww h=>c_mulI (h.ev rfl) (h.ev rfl) (by omega) (by omega)) rfl ?_
      refine rg_q (fun ac ww h=>c_addI (h.ev rfl) (h.ev rfl) (by omega) (by omega)) rfl ?_
      refine rg_q (fun ac ww h=>c_idxS (j:=4 * k + 1) un177 ty5 (h.ev rfl) (h.ev rfl) (by omega) (by omega)) rfl ?_
      refine rg_q (fun ac ww h=>c_loadS un5 rfl (h.ev rfl) (h.blk (hs.old hpb id)) (seg_get 0 hps (by omega))) rfl ?_
      refine rg_q (fun ac ww h=>c_cvBU un5 un25 (h.ev rfl)) rfl ?_
      refine rg_q (fun ac ww h=>c_mulU (h.ev rfl) (RC.ev (v:=U 65536) h rfl)) rfl ?_
      refine rg_q (fun ac ww h=>c_addU (h.ev rfl) (h.ev rfl)) rfl ?_
      refine rg_q (fun ac ww h=>c_move (h.ev rfl)) rfl ?_
      refine rg_q (fun ac ww h=>c_move (h.ev rfl)) rfl ?_
      refine rg_q (fun ac ww h=>c_mulI (h.ev rfl) (h.ev rfl) (by omega) (by omega)) rfl ?_
      refine rg_q (fun ac ww h=>c_addI (h.ev rfl) (h.ev rfl) (by omega) (by omega)) rfl ?_
      refine rg_q (fun ac ww h=>c_idxS (j:=4 * k + 2) un177 ty5 (h.ev rfl) (h.ev rfl) (by omega) (by omega)) rfl ?_
      refine rg_q (fun ac ww h=>c_loadS un5 rfl (h.ev rfl) (h.blk (hs.old hpb id)) (seg_get 0 hps (by omega))) rfl ?_
      refine rg_q (fun ac ww h=>c_cvBU un5 un25 (h.ev rfl)) rfl ?_
      refine rg_q (fun ac ww h=>c_mulU (h.ev rfl) (RC.ev (v:=U 256) h rfl)) rfl ?_
      refine rg_q (fun ac ww h=>c_addU (h.ev rfl) (h.ev rfl)) rfl ?_
      refine rg_q (fun ac ww h=>c_move (h.ev rfl)) rfl ?_
      refine rg_q (fun ac ww h=>c_move (h.ev rfl)) rfl ?_
      refine rg_q (fun ac ww h=>c_mulI (h.ev rfl) (h.ev rfl) (by omega) (by omega)) rfl ?_
      refine rg_q (fun ac ww h=>c_addI (h.ev rfl) (h.ev rfl) (by omega) (by omega)) rfl ?_
      refine rg_q (fun ac ww h=>c_idxS (j:=4 * k + 3) un177 ty5 (h.ev rfl) (h.ev rfl) (by omega) (by omega)) rfl ?_
      refine rg_q (fun ac ww h=>c_loadS un5 rfl (h.ev rfl) (h.blk (hs.old hpb id)) (seg_get 0 hps (by omega))) rfl ?_
      refine rg_q (fun ac ww h=>c_cvBU un5 un25 (h.ev rfl)) rfl ?_
      refine rg_q (fun ac ww h=>c_addU (h.ev rfl) (h.ev rfl)) rfl ?_
      refine rg_q (fun ac ww h=>c_idxA (j:=k) un264 ty25 (h.ev rfl) (h.ev rfl) (by omega) (by omega)) rfl ?_
      refine rg_nil fun ac ww L' hf hfe hs=>?_
      simp only [List.drop_succ_cons,List.drop_zero]
      obtain rfl:L'=[]:=hfe
      replace hs:=hs.toL (List.nil_append _)
      refine s_store (i:=0) hs ty25 rfl rfl rfl rfl rfl rfl (by rw [List.length_map,sched_len p k (by omega)]; omega) (map_set _ (by rw [sched_len p k (by omega)]; omega)) fun ww hs=>?_
      refine s_end (then_n (wp_exit (then_e (blk_hit (then_n (wp_reg ?_))))))
      refine zM hs fun ac hs=>?_
      refine s_q hs (c_addI (hs.ev rfl) (hs.ev rfl) (by omega) (by omega)) rfl fun ac hs=>?_
      refine zA hs fun ac hs=>?_
      refine s_end (then_n ?_)
      exact ⟨64 - (k + 1),by omega,k + 1,⟨by omega,rfl⟩,St.next hs ⟨rfl,rfl,rfl,rfl,rfl,rfl,trivial⟩ (by first | exact congrArg (fun z=>[Ent.seg g7 (List.map U z) 264,_,_,_]) (sched_set p k (by omega) _ (lo_eq p k (by omega))) | exact congrArg (fun z=>[Ent.seg g7 (List.map U z) 264,_,_,_]) (sched_set p k (by omega) _ (hi_eq p k (by omega))))⟩
    · try simp only [z1,z2,z3,z4,z5,z6,z7] at hc
      refine wp_skip (then_n (wp_seq ?_))
      refine wp_region_rg pmix 18 (by kernel_rfl) rfl hs ?_
      simp only [List.take_succ_cons,List.take_zero]
      refine rg_q (fun ac ww h=>c_move (h.ev rfl)) rfl ?_
      refine rg_q (fun ac ww h=>c_subI (h.ev rfl) (h.ev rfl) (by omega) (by omega)) rfl ?_
      refine rg_q (fun ac ww h=>c_idxA (j:=k - 15) un264 ty25 (h.ev rfl) (h.ev rfl) (by omega) (by omega)) rfl ?_
      refine rg_q (fun ac ww h=>c_loadS un25 rfl (h.ev rfl) (h.blk (hs.seg (i:=0) rfl)) (sched_at p k (k - 15) _ (by omega))) rfl ?_
      refine rg_call fu166 (fun ac ww h=>(.cons (h.ev rfl) (.cons (h.ev rfl) .nil))) (fun ww hf=>ref04_rotr _ 7 (by omega) (by omega) _) rfl ?_
      refine rg_q (fun ac ww h=>c_move (h.ev rfl)) rfl ?_
      refine rg_q (fun ac ww h=>c_subI (h.ev rfl) (h.ev rfl) (by omega) (by omega)) rfl ?_
      refine rg_q (fun ac ww h=>c_idxA (j:=k - 15) un264 ty25 (h.ev rfl) (h.ev rfl) (by omega) (by omega)) rfl ?_
      refine rg_q (fun ac ww h=>c_loadS un25 rfl (h.ev rfl) (h.blk (hs.seg (i:=0) rfl)) (sched_at p k (k - 15) _ (by omega))) rfl ?_
      refine rg_call fu166 (fun ac ww h=>(.cons (h.ev rfl) (.cons (h.ev rfl) .nil))) (fun ww hf=>ref04_rotr _ 18 (by omega) (by omega) _) rfl ?_
      refine rg_q (fun ac ww h=>c_xorU (h.ev rfl) (h.ev rfl)) rfl ?_
      refine rg_q (fun ac ww h=>c_move (h.ev rfl)) rfl ?_
      refine rg_q (fun ac ww h=>c_subI (h.ev rfl) (h.ev rfl) (by omega) (by omega)) rfl ?_
      refine rg_q (fun ac ww h=>c_idxA (j:=k - 15) un264 ty25 (h.ev rfl) (h.ev rfl) (by omega) (by omega)) rfl ?_
      refine rg_q (fun ac ww h=>c_loadS un25 rfl (h.ev rfl) (h.blk (hs.seg (i:=0) rfl)) (sched_at p k (k - 15) _ (by omega))) rfl ?_
      refine rg_q (fun ac ww h=>c_shrU (h.ev rfl) (h.ev rfl) (by decide)) rfl ?_
      refine rg_q (fun ac ww h=>c_xorU (h.ev rfl) (h.ev rfl)) rfl ?_
      refine rg_q (fun ac ww h=>c_assign (h.ev rfl)) rfl ?_
      refine rg_nil fun ac ww L' hf hfe hs=>?_
      simp only [List.drop_succ_cons,List.drop_zero]
      obtain rfl:L'=[]:=hfe
      replace hs:=hs.toL (List.nil_append _)
      refine s_end (then_n (wp_seq ?_))
      refine wp_region_rg pmix 18 (by kernel_rfl) rfl hs ?_
      simp only [List.take_succ_cons,List.take_zero]
      refine rg_q (fun ac ww h=>c_move (h.ev rfl)) rfl ?_
      refine rg_q (fun ac ww h=>c_subI (h.ev rfl) (h.ev rfl) (by omega) (by omega)) rfl ?_
      refine rg_q (fun ac ww h=>c_idxA (j:=k - 2) un264 ty25 (h.ev rfl) (h.ev rfl) (by omega) (by omega)) rfl ?_
      refine rg_q (fun ac ww h=>c_loadS un25 rfl (h.ev rfl) (h.blk (hs.seg (i:=0) rfl)) (sched_at p k (k - 2) _ (by omega))) rfl ?_
      refine rg_call fu166 (fun ac ww h=>(.cons (h.ev rfl) (.cons (h.ev rfl) .nil))) (fun ww hf=>ref04_rotr _ 17 (by omega) (by omega) _) rfl ?_
      refine rg_q (fun ac ww h=>c_move (h.ev rfl)) rfl ?_
      refine rg_q (fun ac ww h=>c_subI (h.ev rfl) (h.ev rfl) (by omega) (by omega)) rfl ?_
      refine rg_q (fun ac ww h=>c_idxA (j:=k - 2) un264 ty25 (h.ev rfl) (h.ev rfl) (by omega) (by omega)) rfl ?_
      refine rg_q (fun ac ww h=>c_loadS un25 rfl (h.ev rfl) (h.blk (hs.seg (i:=0) rfl)) (sched_at p k (k - 2) _ (by omega))) rfl ?_
      refine rg_call fu166 (fun ac ww h=>(.cons (h.ev rfl) (.cons (h.ev rfl) .nil))) (fun ww hf=>ref04_rotr _ 19 (by omega) (by omega) _) rfl ?_
      refine rg_q (fun ac ww h=>c_xorU (h.ev rfl) (h.ev rfl)) rfl ?_
      refine rg_q (fun ac ww h=>c_move (h.ev rfl)) rfl ?_
      refine rg_q (fun ac ww h=>c_subI (h.ev rfl) (h.ev rfl) (by omega) (by omega)) rfl ?_
      refine rg_q (fun ac ww h=>c_idxA (j:=k - 2) un264 ty25 (h.ev rfl) (h.ev rfl) (by omega) (by omega)) rfl ?_
      refine rg_q (fun ac ww h=>c_loadS un25 rfl (h.ev rfl) (h.blk (hs.seg (i:=0) rfl)) (sched_at p k (k - 2) _ (by omega))) rfl ?_
      refine rg_q (fun ac ww h=>c_shrU (h.ev rfl) (h.ev rfl) (by decide)) rfl ?_
      refine rg_q (fun ac ww h=>c_xorU (h.ev rfl) (h.ev rfl)) rfl ?_
      refine rg_q (fun ac ww h=>c_assign (h.ev rfl)) rfl ?_
      refine rg_nil fun ac ww L' hf hfe hs=>?_
      simp only [List.drop_succ_cons,List.drop_zero]
      obtain rfl:L'=[]:=hfe
      replace hs:=hs.toL (List.nil_append _)
      refine s_end (then_n ?_)
      refine wp_region_rg pmix 15 (by kernel_rfl) rfl hs ?_
      simp only [List.take_succ_cons,List.take_zero]
      refine rg_q (fun ac ww h=>c_move (h.ev rfl)) rfl ?_
      refine rg_q (fun ac ww h=>c_move (h.ev rfl)) rfl ?_
      refine rg_q (fun ac ww h=>c_move (h.ev rfl)) rfl ?_
      refine rg_q (fun ac ww h=>c_subI (h.ev rfl) (h.ev rfl) (by omega) (by omega)) rfl ?_
      refine rg_q (fun ac ww h=>c_idxA (j:=k - 7) un264 ty25 (h.ev rfl) (h.ev rfl) (by omega) (by omega)) rfl ?_
      refine rg_q (fun ac ww h=>c_loadS un25 rfl (h.ev rfl) (h.blk (hs.seg (i:=0) rfl)) (sched_at p k (k - 7) _ (by omega))) rfl ?_
      refine rg_q (fun ac ww h=>c_addU (h.ev rfl) (h.ev rfl)) rfl ?_
      refine rg_q (fun ac ww h=>c_move (h.ev rfl)) rfl ?_
      refine rg_q (fun ac ww h=>c_addU (h.ev rfl) (h.ev rfl)) rfl ?_
      refine rg_q (fun ac ww h=>c_move (h.ev rfl)) rfl ?_
      refine rg_q (fun ac ww h=>c_subI (h.ev rfl) (h.ev rfl) (by omega) (by omega)) rfl ?_
      refine rg_q (fun ac ww h=>c_idxA (j:=k - 16) un264 ty25 (h.ev rfl) (h.ev rfl) (by omega) (by omega)) rfl ?_
      refine rg_q (fun ac ww h=>c_loadS un25 rfl (h.ev rfl) (h.blk (hs.seg (i:=0) rfl)) (sched_at p k (k - 16) _ (by omega))) rfl ?_
      refine rg_q (fun ac ww h=>c_addU (h.ev rfl) (h.ev rfl)) rfl ?_
      refine rg_q (fun ac ww h=>c_idxA (j:=k) un264 ty25 (h.ev rfl) (h.ev rfl) (by omega) (by omega)) rfl ?_
      refine rg_nil fun ac ww L' hf hfe hs=>?_
      simp only [List.drop_succ_cons,List.drop_zero]
      obtain rfl:L'=[]:=hfe
      replace hs:=hs.toL (List.nil_append _)
      refine s_store (i:=0) hs ty25 rfl rfl rfl rfl rfl rfl (by rw [List.length_map,sched_len p k (by omega)]; omega) (map_set _ (by rw [sched_len p k (by omega)]; omega)) fun ww hs=>?_
      refine s_end (blk_n (then_n (wp_reg ?_)))
      refine zM hs fun ac hs=>?_
      refine s_q hs (c_addI (hs.ev rfl) (hs.ev rfl) (by omega) (by omega)) rfl fun ac hs=>?_
      refine zA hs fun ac hs=>?_
      refine s_end (then_n ?_)
      exact ⟨64 - (k + 1),by omega,k + 1,⟨by omega,rfl⟩,St.next hs ⟨rfl,rfl,rfl,rfl,rfl,rfl,trivial⟩ (by first | exact congrArg (fun z=>[Ent.seg g7 (List.map U z) 264,_,_,_]) (sched_set p k (by omega) _ (lo_eq p k (by omega))) | exact congrArg (fun z=>[Ent.seg g7 (List.map U z) 264,_,_,_]) (sched_set p k (by omega) _ (hi_eq p k (by omega))))⟩
  · try simp only [z1,z2,z3,z4,z5,z6,z7] at hc
    obtain ⟨hk,rfl⟩:=hok
    obtain rfl:k=64:=by omega
    refine wp_exit (then_e (then_e (blk_hit (then_n (wp_seq (wp_reg ?_))))))
    refine s_q hs (c_loadW ty262 rfl (hs.ev rfl) (hs.seg (i:=3) rfl) (by simp)) rfl fun ac hs=>?_
    refine s_alloc hs ty262 rfl fun ac ww g11 hs=>?_
    refine s_storeW (i:=0) hs ty262 rfl rfl rfl (by simp) (all_map_U _) (by simp) fun ww hs=>?_
    refine s_end ?_
    replace hs:=hs.sub (F':=[(3,_),(5,_),(6,_),(7,_),(11,_)]) ⟨rfl,rfl,rfl,rfl,rfl,trivial⟩
    refine then_n (wp_seq (wp_seq (wp_reg ?_)))
    refine zA hs fun ac hs=>?_
    refine s_end (then_n (wp_block ?_))
    refine s_loop hs (X:=Nat) (fun k=>[(12,I k)]) [(3,_),(5,_),(6,_),(7,_),(11,_)] (fun k=>[.seg g11 ((rounds p r0 k).list.map U) 262,.seg g7 ((sched p 64++List.replicate (64 - 64) 0).map U) 264,.seg g6 ((List.replicate 8 (0:UInt32)).map U) 262,.seg g5 (K.map U) 264,.seg g3 (r0.list.map U) 262]) (fun n k=>k≤64∧n=64 - k) (64) (0) (⟨by omega,rfl⟩) ⟨rfl,rfl,rfl,rfl,rfl,rfl,trivial⟩ rfl ?_
    rintro n k ac ww hok hs
    simp only [List.cons_append,List.nil_append] at hs
    refine wp_seq (wp_seq (wp_reg ?_))
    refine zM hs fun ac hs=>?_
    refine s_q hs (c_lssI (hs.ev rfl) (hs.ev rfl)) rfl fun ac hs=>?_
    refine s_end (then_n ?_)
    refine s_cond hs rfl (fun hc=>?_) (fun hc=>?_)
    · try simp only [z1,z2,z3,z4,z5,z6,z7] at hc
      obtain ⟨hk,rfl⟩:=hok
      refine wp_skip (then_n (wp_seq (wp_block (wp_seq (wp_reg ?_)))))
      refine s_q hs (c_idxA un262 ty25 (hs.ev rfl) (hs.ev rfl) rfl (by decide)) rfl fun ac hs=>?_
      refine s_q hs (c_loadS un25 rfl (hs.ev rfl) (hs.seg (i:=0) rfl) rfl) rfl fun ac hs=>?_
      refine s_q hs (c_idxA un262 ty25 (hs.ev rfl) (hs.ev rfl) rfl (by decide)) rfl fun ac hs=>?_
      refine s_q hs (c_loadS un25 rfl (hs.ev rfl) (hs.seg (i:=0) rfl) rfl) rfl fun ac hs=>?_
      refine s_q hs (c_andU (hs.ev rfl) (hs.ev rfl)) rfl fun ac hs=>?_
      refine s_q hs (c_idxA un262 ty25 (hs.ev rfl) (hs.ev rfl) rfl (by decide)) rfl fun ac hs=>?_
      refine s_q hs (c_loadS un25 rfl (hs.ev rfl) (hs.seg (i:=0) rfl) rfl) rfl fun ac hs=>?_
      refine s_q hs (c_notU (hs.ev rfl)) rfl fun ac hs=>?_
      refine s_q hs (c_idxA un262 ty25 (hs.ev rfl) (hs.ev rfl) rfl (by decide)) rfl fun ac hs=>?_
      refine s_q hs (c_loadS un25 rfl (hs.ev rfl) (hs.seg (i:=0) rfl) rfl) rfl fun ac hs=>?_
      refine s_q hs (c_andU (hs.ev rfl) (hs.ev rfl)) rfl fun ac hs=>?_
      refine s_q hs (c_xorU (hs.ev rfl) (hs.ev rfl)) rfl fun ac hs=>?_
      refine zA hs fun ac hs=>?_
      refine s_end (then_n (wp_seq (wp_reg ?_)))
      refine s_q hs (c_idxA un262 ty25 (hs.ev rfl) (hs.ev rfl) rfl (by decide)) rfl fun ac hs=>?_
      refine s_q hs (c_loadS un25 rfl (hs.ev rfl) (hs.seg (i:=0) rfl) rfl) rfl fun ac hs=>?_
      refine s_q hs (c_idxA un262 ty25 (hs.ev rfl) (hs.ev rfl) rfl (by decide)) rfl fun ac hs=>?_
      refine s_q hs (c_loadS un25 rfl (hs.ev rfl) (hs.seg (i:=0) rfl) rfl) rfl fun ac hs=>?_
      refine s_q hs (c_andU (hs.ev rfl) (hs.ev rfl)) rfl fun ac hs=>?_
      refine s_q hs (c_idxA un262 ty25 (hs.ev rfl) (hs.ev rfl) rfl (by decide)) rfl fun ac hs=>?_
      refine s_q hs (c_loadS un25 rfl (hs.ev rfl) (hs.seg (i:=0) rfl) rfl) rfl fun ac hs=>?_
      refine s_q hs (c_idxA un262 ty25 (hs.ev rfl) (hs.ev rfl) rfl (by decide)) rfl fun ac hs=>?_
      refine s_q hs (c_loadS un25 rfl (hs.ev rfl) (hs.seg (i:=0) rfl) rfl) rfl fun ac hs=>?_
      refine s_q hs (c_andU (hs.ev rfl) (hs.ev rfl)) rfl fun ac hs=>?_
      refine s_q hs (c_xorU (hs.ev rfl) (hs.ev rfl)) rfl fun ac hs=>?_
      refine s_q hs (c_idxA un262 ty25 (hs.ev rfl) (hs.ev rfl) rfl (by decide)) rfl fun ac hs=>?_
      refine s_q hs (c_loadS un25 rfl (hs.ev rfl) (hs.seg (i:=0) rfl) rfl) rfl fun ac hs=>?_
      refine s_q hs (c_idxA un262 ty25 (hs.ev rfl) (hs.ev rfl) rfl (by decide)) rfl fun ac hs=>?_
      refine s_q hs (c_loadS un25 rfl (hs.ev rfl) (hs.seg (i:=0) rfl) rfl) rfl fun ac hs=>?_
      refine s_q hs (c_andU (hs.ev rfl) (hs.ev rfl)) rfl fun ac hs=>?_
      refine s_q hs (c_xorU (hs.ev rfl) (hs.ev rfl)) rfl fun ac hs=>?_
      refine zA hs fun ac hs=>?_
      refine s_end (then_n (wp_seq ?_))
      refine wp_region_rg pmix 25 (by kernel_rfl) rfl hs ?_
      simp only [List.take_succ_cons,List.take_zero]
      refine rg_q (fun ac ww h=>c_idxA un262 ty25 (h.ev rfl) (h.ev rfl) rfl (by decide)) rfl ?_
      refine rg_q (fun ac ww h=>c_loadS un25 rfl (h.ev rfl) (h.blk (hs.seg (i:=0) rfl)) rfl) rfl ?_
      refine rg_q (fun ac ww h=>c_idxA un262 ty25 (h.ev rfl) (h.ev rfl) rfl (by decide)) rfl ?_
      refine rg_q (fun ac ww h=>c_loadS un25 rfl (h.ev rfl) (h.blk (hs.seg (i:=0) rfl)) rfl) rfl ?_
      refine rg_call fu166 (fun ac ww h=>(.cons (h.ev rfl) (.cons (h.ev rfl) .nil))) (fun ww hf=>ref04_rotr _ 6 (by omega) (by omega) _) rfl ?_
      refine rg_q (fun ac ww h=>c_idxA un262 ty25 (h.ev rfl) (h.ev rfl) rfl (by decide)) rfl ?_
      refine rg_q (fun ac ww h=>c_loadS un25 rfl (h.ev rfl) (h.blk (hs.seg (i:=0) rfl)) rfl) rfl ?_
      refine rg_call fu166 (fun ac ww h=>(.cons (h.ev rfl) (.cons (h.ev rfl) .nil))) (fun ww hf=>ref04_rotr _ 11 (by omega) (by omega) _) rfl ?_
      refine rg_q (fun ac ww h=>c_xorU (h.ev rfl) (h.ev rfl)) rfl ?_
      refine rg_q (fun ac ww h=>c_idxA un262 ty25 (h.ev rfl) (h.ev rfl) rfl (by decide)) rfl ?_
      refine rg_q (fun ac ww h=>c_loadS un25 rfl (h.ev rfl) (h.blk (hs.seg (i:=0) rfl)) rfl) rfl ?_
      refine rg_call fu166 (fun ac ww h=>(.cons (h.ev rfl) (.cons (h.ev rfl) .nil))) (fun ww hf=>ref04_rotr _ 25 (by omega) (by omega) _) rfl ?_
      refine rg_q (fun ac ww h=>c_xorU (h.ev rfl) (h.ev rfl)) rfl ?_
      refine rg_q (fun ac ww h=>c_addU (h.ev rfl) (h.ev rfl)) rfl ?_
      refine rg_q (fun ac ww h=>c_move (h.ev rfl)) rfl ?_
      refine rg_q (fun ac ww h=>c_addU (h.ev rfl) (h.ev rfl)) rfl ?_
      refine rg_q (fun ac ww h=>c_move (h.ev rfl)) rfl ?_
      refine rg_q (fun ac ww h=>c_idxA (j:=k) un264 ty25 (h.ev rfl) (h.ev rfl) (by omega) (by omega)) rfl ?_
      refine rg_q (fun ac ww h=>c_loadS un25 rfl (h.ev rfl) (h.blk (hs.seg (i:=3) rfl)) (map_get 0 (by simp; omega))) rfl ?_
      refine rg_q (fun ac ww h=>c_addU (h.ev rfl) (h.ev rfl)) rfl ?_
      refine rg_q (fun ac ww h=>c_move (h.ev rfl)) rfl ?_
      refine rg_q (fun ac ww h=>c_idxA (j:=k) un264 ty25 (h.ev rfl) (h.ev rfl) (by omega) (by omega)) rfl ?_
      refine rg_q (fun ac ww h=>c_loadS un25 rfl (h.ev rfl) (h.blk (hs.seg (i:=1) rfl)) (sched_at p 64 k _ (by omega))) rfl ?_
      refine rg_q (fun ac ww h=>c_addU (h.ev rfl) (h.ev rfl)) rfl ?_
      refine rg_q (fun ac ww h=>c_assign (h.ev rfl)) rfl ?_
      refine rg_nil fun ac ww L' hf hfe hs=>?_
      simp only [List.drop_succ_cons,List.drop_zero]
      obtain rfl:L'=[]:=hfe
      replace hs:=hs.toL (List.nil_append _)
      refine s_end (then_n (wp_seq ?_))
      refine wp_region_rg pmix 14 (by kernel_rfl) rfl hs ?_
      simp only [List.take_succ_cons,List.take_zero]
      refine rg_q (fun ac ww h=>c_idxA un262 ty25 (h.ev rfl) (h.ev rfl) rfl (by decide)) rfl ?_
      refine rg_q (fun ac ww h=>c_loadS un25 rfl (h.ev rfl) (h.blk (hs.seg (i:=0) rfl)) rfl) rfl ?_
      refine rg_call fu166 (fun ac ww h=>(.cons (h.ev rfl) (.cons (h.ev rfl) .nil))) (fun ww hf=>ref04_rotr _ 2 (by omega) (by omega) _) rfl ?_
      refine rg_q (fun ac ww h=>c_idxA un262 ty25 (h.ev rfl) (h.ev rfl) rfl (by decide)) rfl ?_
      refine rg_q (fun ac ww h=>c_loadS un25 rfl (h.ev rfl) (h.blk (hs.seg (i:=0) rfl)) rfl) rfl ?_
      refine rg_call fu166 (fun ac ww h=>(.cons (h.ev rfl) (.cons (h.ev rfl) .nil))) (fun ww hf=>ref04_rotr _ 13 (by omega) (by omega) _) rfl ?_
      refine rg_q (fun ac ww h=>c_xorU (h.ev rfl) (h.ev rfl)) rfl ?_
      refine rg_q (fun ac ww h=>c_idxA un262 ty25 (h.ev rfl) (h.ev rfl) rfl (by decide)) rfl ?_
      refine rg_q (fun ac ww h=>c_loadS un25 rfl (h.ev rfl) (h.blk (hs.seg (i:=0) rfl)) rfl) rfl ?_
      refine rg_call fu166 (fun ac ww h=>(.cons (h.ev rfl) (.cons (h.ev rfl) .nil))) (fun ww hf=>ref04_rotr _ 22 (by omega) (by omega) _) rfl ?_
      refine rg_q (fun ac ww h=>c_xorU (h.ev rfl) (h.ev rfl)) rfl ?_
      refine rg_q (fun ac ww h=>c_move (h.ev rfl)) rfl ?_
      refine rg_q (fun ac ww h=>c_addU (h.ev rfl) (h.ev rfl)) rfl ?_
      refine rg_q (fun ac ww h=>c_assign (h.ev rfl)) rfl ?_
      refine rg_nil fun ac ww L' hf hfe hs=>?_
      simp only [List.drop_succ_cons,List.drop_zero]
      obtain rfl:L'=[]:=hfe
      replace hs:=hs.toL (List.nil_append _)
      refine s_end (then_n (wp_reg ?_))
      refine zM hs fun ac hs=>?_
      refine zM hs fun ac hs=>?_
      refine s_q hs (c_addU (hs.ev rfl) (hs.ev rfl)) rfl fun ac hs=>?_
      refine s_q hs (c_idxA un262 ty25 (hs.ev rfl) (hs.ev rfl) rfl (by decide)) rfl fun ac hs=>?_
      refine s_q hs (c_loadS un25 rfl (hs.ev rfl) (hs.seg (i:=0) rfl) rfl) rfl fun ac hs=>?_
      refine s_q hs (c_idxA un262 ty25 (hs.ev rfl) (hs.ev rfl) rfl (by decide)) rfl fun ac hs=>?_
      refine s_q hs (c_loadS un25 rfl (hs.ev rfl) (hs.seg (i:=0) rfl) rfl) rfl fun ac hs=>?_
      refine s_q hs (c_idxA un262 ty25 (hs.ev rfl) (hs.ev rfl) rfl (by decide)) rfl fun ac hs=>?_
      refine s_q hs (c_loadS un25 rfl (hs.ev rfl) (hs.seg (i:=0) rfl) rfl) rfl fun ac hs=>?_
      refine s_q hs (c_idxA un262 ty25 (hs.ev rfl) (hs.ev rfl) rfl (by decide)) rfl fun ac hs=>?_
      refine s_q hs (c_loadS un25 rfl (hs.ev rfl) (hs.seg (i:=0) rfl) rfl) rfl fun ac hs=>?_
      refine zM hs fun ac hs=>?_
      refine s_q hs (c_addU (hs.ev rfl) (hs.ev rfl)) rfl fun ac hs=>?_
      refine s_q hs (c_idxA un262 ty25 (hs.ev rfl) (hs.ev rfl) rfl (by decide)) rfl fun ac hs=>?_
      refine s_q hs (c_loadS un25 rfl (hs.ev rfl) (hs.seg (i:=0) rfl) rfl) rfl fun ac hs=>?_
      refine s_q hs (c_idxA un262 ty25 (hs.ev rfl) (hs.ev rfl) rfl (by decide)) rfl fun ac hs=>?_
      refine s_q hs (c_loadS un25 rfl (hs.ev rfl) (hs.seg (i:=0) rfl) rfl) rfl fun ac hs=>?_
      refine s_q hs (c_idxA un262 ty25 (hs.ev rfl) (hs.ev rfl) rfl (by decide)) rfl fun ac hs=>?_
      refine s_q hs (c_loadS un25 rfl (hs.ev rfl) (hs.seg (i:=0) rfl) rfl) rfl fun ac hs=>?_
      refine s_q hs (c_buildA (zc:=(rounds p r0 (k + 1)).list.map U) ty262 un262 ty25 (.cons (hs.ev rfl) (.cons (hs.ev rfl) (.cons (hs.ev rfl) (.cons (hs.ev rfl) (.cons (hs.ev rfl) (.cons (hs.ev rfl) (.cons (hs.ev rfl) (.cons (hs.ev rfl) .nil)))))))) (by simp [Value.cells]) (by simp [flatCells,Value.cells]) rfl) rfl fun ac hs=>?_
      refine s_storeW (i:=0) hs ty262 rfl rfl rfl (by simp) (all_map_U _) (by simp) fun ww hs=>?_
      refine s_end (blk_n (then_n (wp_reg ?_)))
      refine zM hs fun ac hs=>?_
      refine s_q hs (c_addI (hs.ev rfl) (hs.ev rfl) (by omega) (by omega)) rfl fun ac hs=>?_
      refine zA hs fun ac hs=>?_
      refine s_end (then_n ?_)
      exact ⟨64 - (k + 1),by omega,k + 1,⟨by omega,rfl⟩,St.next hs ⟨rfl,rfl,rfl,rfl,rfl,rfl,trivial⟩ rfl⟩
    · try simp only [z1,z2,z3,z4,z5,z6,z7] at hc
      obtain ⟨hk,rfl⟩:=hok
      obtain rfl:k=64:=by omega
      refine wp_exit (then_e (then_e (blk_hit (then_n (wp_seq (wp_seq (wp_reg ?_)))))))
      refine zA hs fun ac hs=>?_
      refine s_end ?_
      replace hs:=hs.sub (F':=[(3,_),(6,_),(11,_),(17,_)]) ⟨rfl,rfl,rfl,rfl,trivial⟩
      refine then_n (wp_block ?_)
      refine s_loop hs (X:=Nat) (fun k=>[(17,I k)]) [(3,_),(6,_),(11,_)] (fun k=>[.seg g11 ((rounds p r0 64).list.map U) 262,.seg g7 ((sched p 64++List.replicate (64 - 64) 0).map U) 264,.seg g6 ((List.replicate 8 (0:UInt32)).map U) 262,.seg g5 (K.map U) 264,.seg g3 (((r0.add (rounds p r0 64)).list.take k++r0.list.drop k).map U) 262]) (fun n k=>k≤8∧n=8 - k) (8) (0) (⟨by omega,rfl⟩) ⟨rfl,rfl,rfl,rfl,trivial⟩ rfl ?_
      rintro n k ac ww hok hs
      simp only [List.cons_append,List.nil_append] at hs
      refine wp_seq (wp_seq (wp_reg ?_))
      refine zM hs fun ac hs=>?_
      refine s_q hs (c_lssI (hs.ev rfl) (hs.ev rfl)) rfl fun ac hs=>?_
      refine s_end (then_n ?_)
      refine s_cond hs rfl (fun hc=>?_) (fun hc=>?_)
      · try simp only [z1,z2,z3,z4,z5,z6,z7] at hc
        obtain ⟨hk,rfl⟩:=hok
        have hzl:=add_len r0 (rounds p r0 64) k hk
        refine wp_skip (then_n (wp_seq (wp_block ?_)))
        refine wp_region_rg pmix 9 (by kernel_rfl) rfl hs ?_
        simp only [List.take_succ_cons,List.take_zero]
        refine rg_q (fun ac ww h=>c_move (h.ev rfl)) rfl ?_
        refine rg_q (fun ac ww h=>c_move (h.ev rfl)) rfl ?_
        refine rg_q (fun ac ww h=>c_idxA (j:=k) un262 ty25 (h.ev rfl) (h.ev rfl) (by omega) (by omega)) rfl ?_
        refine rg_q (fun ac ww h=>c_loadS un25 rfl (h.ev rfl) (h.blk (hs.seg (i:=4) rfl)) (add_get r0 _ k (by omega))) rfl ?_
        refine rg_q (fun ac ww h=>c_move (h.ev rfl)) rfl ?_
        refine rg_q (fun ac ww h=>c_idxA (j:=k) un262 ty25 (h.ev rfl) (h.ev rfl) (by omega) (by omega)) rfl ?_
        refine rg_q (fun ac ww h=>c_loadS un25 rfl (h.ev rfl) (h.blk (hs.seg (i:=0) rfl)) (map_get 0 (by simp; omega))) rfl ?_
        refine rg_q (fun ac ww h=>c_addU (h.ev rfl) (h.ev rfl)) rfl ?_
        refine rg_q (fun ac ww h=>c_idxA (j:=k) un262 ty25 (h.ev rfl) (h.ev rfl) (by omega) (by omega)) rfl ?_
        refine rg_nil fun ac ww L' hf hfe hs=>?_
        simp only [List.drop_succ_cons,List.drop_zero]
        obtain rfl:L'=[]:=hfe
        replace hs:=hs.toL (List.nil_append _)
        refine s_store (i:=4) hs ty25 rfl rfl rfl rfl rfl rfl (by rw [List.length_map]; omega) (map_set _ (by omega)) fun ww hs=>?_
        refine s_end (blk_n (then_n (wp_reg ?_)))
        refine zM hs fun ac hs=>?_
        refine s_q hs (c_addI (hs.ev rfl) (hs.ev rfl) (by omega) (by omega)) rfl fun ac hs=>?_
        refine zA hs fun ac hs=>?_
        refine s_end (then_n ?_)
        exact ⟨8 - (k + 1),by omega,k + 1,⟨by omega,rfl⟩,St.next hs ⟨rfl,rfl,rfl,rfl,trivial⟩ (congrArg (fun z=>[_,_,_,_,Ent.seg g3 (List.map U z) 262]) (add_set r0 (rounds p r0 64) k (by omega)))⟩
      · try simp only [z1,z2,z3,z4,z5,z6,z7] at hc
        obtain ⟨hk,rfl⟩:=hok
        obtain rfl:k=8:=by omega
        refine wp_exit (then_e (then_e (blk_hit (then_n (wp_seq (wp_reg ?_))))))
        refine s_q hs (c_loadW ty262 rfl (hs.ev rfl) (hs.seg (i:=4) rfl) (by simp)) rfl fun ac hs=>?_
        refine s_storeW (i:=2) hs ty262 rfl rfl rfl (by simp) (all_map_U _) (by simp) fun ww hs=>?_
        refine s_end ?_
        replace hs:=hs.sub (F':=[(6,_)]) ⟨rfl,trivial⟩
        refine then_n (wp_ret ?_)
        refine s_ret hs rfl (.cell (hs.tmp rfl) (run_loadA ty262 rfl (hs.seg (i:=2) rfl) (List.take_of_length_le (by simp)) (by simp)) .nil) rfl ⟨_,rfl,hs.fr,?_⟩
        rfl
end Go.Proofs.YtklajbdbnnceiaaGreat
end

section
/- Bytes from behind; digits as the document has them. -/
namespace Go.Proofs.YtklajbdbnnceiaaGreat
namespace Sha
def qd (x:UInt64):Nat→UInt64
  | 0=>x
  | k + 1=>qd x k / 256
def qd32 (x:UInt32):Nat→UInt32
  | 0=>x
  | k + 1=>qd32 x k / 256
theorem qd_byte (x:UInt64):∀ k,k < 8→(qd x k % 256).toUInt8=(be64 x).getD (7 - k) 0:=by
  have h256:(256:UInt64).toNat=256:=rfl
  have hx:=x.toNat_lt
  have key:∀ k,(qd x k).toNat=x.toNat / 256 ^ k:=by
    intro k
    induction k with
    | zero=>simp [qd]
    | succ k ih=>rw [qd,UInt64.toNat_div,ih,h256,Nat.div_div_eq_div_mul,Nat.pow_succ]
  intro k hk
  apply UInt8.toNat_inj.1
  rw [UInt64.toNat_toUInt8,UInt64.toNat_mod,key,h256]
  rcases k with _ | _ | _ | _ | _ | _ | _ | _ | k
  · simp [be64,List.getD]
  · simp [be64,List.getD,UInt64.toNat_shiftRight,Nat.shiftRight_eq_div_pow]
  · simp [be64,List.getD,UInt64.toNat_shiftRight,Nat.shiftRight_eq_div_pow]
  · simp [be64,List.getD,UInt64.toNat_shiftRight,Nat.shiftRight_eq_div_pow]
  · simp [be64,List.getD,UInt64.toNat_shiftRight,Nat.shiftRight_eq_div_pow]
  · simp [be64,List.getD,UInt64.toNat_shiftRight,Nat.shiftRight_eq_div_pow]
  · simp [be64,List.getD,UInt64.toNat_shiftRight,Nat.shiftRight_eq_div_pow]
  · simp [be64,List.getD,UInt64.toNat_shiftRight,Nat.shiftRight_eq_div_pow]
  · omega
theorem qd32_byte (x:UInt32):∀ k,k < 4→(qd32 x k % 256).toUInt8=(be32 x).getD (3 - k) 0:=by
  have h256:(256:UInt32).toNat=256:=rfl
  have hx:=x.toNat_lt
  have key:∀ k,(qd32 x k).toNat=x.toNat / 256 ^ k:=by
    intro k
    induction k with
    | zero=>simp [qd32]
    | succ k ih=>rw [qd32,UInt32.toNat_div,ih,h256,Nat.div_div_eq_div_mul,Nat.pow_succ]
  intro k hk
  apply UInt8.toNat_inj.1
  rw [UInt32.toNat_toUInt8,UInt32.toNat_mod,key,h256]
  rcases k with _ | _ | _ | _ | k
  · simp [be32,List.getD]
  · simp [be32,List.getD,UInt32.toNat_shiftRight,Nat.shiftRight_eq_div_pow]
  · simp [be32,List.getD,UInt32.toNat_shiftRight,Nat.shiftRight_eq_div_pow]
  · simp [be32,List.getD,UInt32.toNat_shiftRight,Nat.shiftRight_eq_div_pow]
  · omega
def lo64 (x:UInt64) (k:Nat):List UInt8:=List.replicate (8 - k) 0++(be64 x).drop (8 - k)
theorem lo64_set (x:UInt64):∀ k,k < 8→(lo64 x k).set (7 - k) ((be64 x).getD (7 - k) 0)=lo64 x (k + 1)
  | 0,_=>rfl | 1,_=>rfl | 2,_=>rfl | 3,_=>rfl | 4,_=>rfl | 5,_=>rfl | 6,_=>rfl | 7,_=>rfl
  | k + 8,h=>absurd h (by omega)
theorem lo64_len (x:UInt64) (k:Nat) (h:k≤8):(lo64 x k).length=8:=by simp [lo64]
def lo32 (x:UInt32) (k:Nat):List UInt8:=List.replicate (4 - k) 0++(be32 x).drop (4 - k)
theorem lo32_set (x:UInt32):∀ k,k < 4→(lo32 x k).set (3 - k) ((be32 x).getD (3 - k) 0)=lo32 x (k + 1)
  | 0,_=>rfl | 1,_=>rfl | 2,_=>rfl | 3,_=>rfl
  | k + 4,h=>absurd h (by omega)
theorem lo32_len (x:UInt32) (k:Nat) (h:k≤4):(lo32 x k).length=4:=by simp [lo32]
end Sha
end Go.Proofs.YtklajbdbnnceiaaGreat
end

section
/- Padding,counts and digits as the document has them. -/
namespace Go.Proofs.YtklajbdbnnceiaaGreat
open Go Go.Fw
open Sha
theorem i64_nat (n:Nat) (h:n < 18446744073709551616):i64 (n:Int)=UInt64.ofNat n:=by
  apply UInt64.toNat_inj.1
  have h1:=i64_toNat (n:Int)
  rw [UInt64.toNat_ofNat']
  omega
theorem ref04_Pad (p:List UInt8) (pv:Value) (hle:p.length≤140737488355200) (w:World) (hq:RdB w pv p):Ctr Tryz.prog 156 [pv] w (fun _=>False) (fun v w'=>∃ v',v=v'∧Has w.heap.size w' [.row v' (pad p).length ((pad p).map B) 5 1]):=by
  obtain ⟨pad_,pcap,rfl,hpc,hpm⟩:=Rd.sl hq
  refine fn_start (N:=38) Tryz.func156 rfl rfl rfl fun ac hk=>?_
  have hs:=St.start hk w
  refine wp_seq (wp_reg ?_)
  refine zA hs fun ac hs=>?_
  refine s_end (then_n (wp_seq (wp_reg ?_)))
  refine s_bslice hs un177 ty5 .nil rfl (by simp [Value.cells]) (by decide) rfl rfl fun ac ww g7 hs=>?_
  refine zM hs fun ac hs=>?_
  replace hs:=hs.segrow (i:=0) (n:=0) (sz:=1) rfl rfl (by decide)
  refine s_appB (i:=0) (l:=[]) hs un177 ty5 rfl rfl rfl (hq.fr0 hs.fr) (by simp; omega) rfl fun ac ww v9 hf hnil hs=>?_
  refine zA hs fun ac hs=>?_
  refine s_end ?_
  replace hs:=hs.sub (F':=[(0,_),(2,_),(3,_)]) ⟨rfl,rfl,rfl,trivial⟩
  refine then_n (wp_seq (wp_reg ?_))
  refine zM hs fun ac hs=>?_
  refine s_bslice hs un177 ty5 (.cons (hs.ev rfl) .nil) rfl (by simp [Value.cells]) (by decide) rfl rfl fun ac ww g11 hs=>?_
  refine s_appB (i:=1) hs un177 ty5 rfl rfl rfl (RdB.seg (l:=[0x80]) (hs.seg (i:=0) rfl) (by decide)) (by simp; omega) rfl fun ac ww v12 hf hnil hs=>?_
  refine zA hs fun ac hs=>?_
  refine s_end ?_
  replace hs:=hs.pick (L':=[_]) (.cons _ (.refl _))
  replace hs:=hs.sub (F':=[(0,_),(2,_),(3,_)]) ⟨rfl,rfl,rfl,trivial⟩
  refine then_n (wp_seq (wp_block ?_))
  refine s_loop hs (X:=Nat × Value) (fun x=>[(3,x.2)]) [(0,_),(2,_)] (fun x=>[.row x.2 ((p++[0x80])++List.replicate x.1 0).length (((p++[0x80])++List.replicate x.1 0).map B) 5 1]) (fun n x=>x.1≤zc p.length∧n=zc p.length - x.1) (_) ((0,_)) (⟨Nat.zero_le _,rfl⟩) ⟨rfl,rfl,rfl,trivial⟩ (by simp only [List.replicate_zero,List.append_nil]; try rfl) ?_
  rintro n ⟨j,v⟩ ac ww hok hs
  simp only [List.cons_append,List.nil_append] at hs
  obtain ⟨hj,rfl⟩:=hok
  simp only at hj hs
  obtain ⟨ad,cap,rfl,_,_⟩:=Rd.sl (RdB.row (hs.get (i:=0) rfl))
  have hll:((p++[0x80])++List.replicate j (0:UInt8)).length=p.length + 1 + j:=by simp; omega
  simp only [zc] at hj
  refine wp_seq (wp_seq (wp_reg ?_))
  refine zM hs fun ac hs=>?_
  refine s_q hs (c_lenS un177 (hs.ev rfl)) rfl fun ac hs=>?_
  refine s_q hs (c_remI (hs.ev rfl) (hs.ev rfl) (by omega) (by omega)) rfl fun ac hs=>?_
  refine s_q hs (c_neqI (hs.ev rfl) (hs.ev rfl)) rfl fun ac hs=>?_
  refine s_end (then_n ?_)
  refine s_cond hs rfl (fun hc=>?_) (fun hc=>?_)
  · try simp only [z1,z2,z3,z4,z5,z6,z7] at hc
    refine wp_skip (then_n (wp_block (wp_reg ?_)))
    refine zM hs fun ac hs=>?_
    refine s_bslice hs un177 ty5 (.cons (hs.ev rfl) .nil) rfl (by simp [Value.cells]) (by decide) rfl rfl fun ac ww g18 hs=>?_
    refine s_appB (i:=1) hs un177 ty5 rfl rfl rfl (RdB.seg (l:=[0]) (hs.seg (i:=0) rfl) (by decide)) (by rw [hll]; simp; omega) rfl fun ac ww v19 hf hnil hs=>?_
    refine zA hs fun ac hs=>?_
    refine s_end (blk_n (then_n ?_))
    replace hs:=hs.pick (L':=[_]) (.cons _ (.refl _))
    exact ⟨zc p.length - (j + 1),by rw [hll] at hc; simp only [zc]; omega,(j + 1,_),⟨by rw [hll] at hc; simp only [zc]; omega,rfl⟩,St.next hs ⟨rfl,rfl,rfl,trivial⟩ (by simp [List.replicate_succ',← List.append_assoc])⟩
  · try simp only [z1,z2,z3,z4,z5,z6,z7] at hc
    have hjj:j=zc p.length:=by rw [hll] at hc; simp only [zc]; omega
    subst hjj
    have hi:=i64_nat p.length (by omega)
    refine wp_exit (then_e (then_e (blk_hit (then_n (wp_seq (wp_reg ?_))))))
    refine zM hs fun ac hs=>?_
    refine s_q hs (c_lenS un177 (hs.ev rfl)) rfl fun ac hs=>?_
    refine s_q hs (c_cvIV un3 un124 (hs.ev rfl)) rfl fun ac hs=>?_
    refine s_q hs (c_mulV (hs.ev rfl) (St.ev (v:=V 8) hs rfl)) rfl fun ac hs=>?_
    refine zA hs fun ac hs=>?_
    refine s_end ?_
    replace hs:=hs.sub (F':=[(2,_),(3,_),(4,_)]) ⟨rfl,rfl,rfl,trivial⟩
    refine then_n (wp_seq (wp_reg ?_))
    refine s_alloc hs ty274 rfl fun ac ww g5 hs=>?_
    refine s_end (then_n (wp_seq (wp_seq (wp_reg ?_))))
    refine zA hs fun ac hs=>?_
    refine s_end (then_n (wp_block ?_))
    refine s_loop hs (X:=Nat) (fun k=>[(4,V (qd (UInt64.ofNat p.length * 8) k)),(6,I (7 - (k:Int)))]) [(2,_),(3,_),(5,_)] (fun k=>[.seg g5 ((lo64 (UInt64.ofNat p.length * 8) k).map B) 274,.row _ ((p++[0x80])++List.replicate (zc p.length) 0).length (((p++[0x80])++List.replicate (zc p.length) 0).map B) 5 1]) (fun n k=>k≤8∧n=8 - k) (8) (0) (⟨by omega,rfl⟩) ⟨(by rw [hi]; rfl),rfl,rfl,rfl,rfl,trivial⟩ rfl ?_
    rintro n k ac ww hok hs
    simp only [List.cons_append,List.nil_append] at hs
    obtain ⟨hk,rfl⟩:=hok
    have hzl:=lo64_len (UInt64.ofNat p.length * 8) k hk
    refine wp_seq (wp_seq (wp_reg ?_))
    refine zM hs fun ac hs=>?_
    refine s_q hs (c_geqI (hs.ev rfl) (hs.ev rfl)) rfl fun ac hs=>?_
    refine s_end (then_n ?_)
    refine s_cond hs rfl (fun hc=>?_) (fun hc=>?_)
    · try simp only [z1,z2,z3,z4,z5,z6,z7] at hc
      refine wp_skip (then_n (wp_seq (wp_block (wp_seq (wp_reg ?_)))))
      refine zM hs fun ac hs=>?_
      refine zM hs fun ac hs=>?_
      refine s_q hs (c_remV (hs.ev rfl) (St.ev (v:=V 256) hs rfl) (by decide)) rfl fun ac hs=>?_
      refine s_q hs (c_cvVB un124 un5 (hs.ev rfl)) rfl fun ac hs=>?_
      refine s_q hs (c_idxA (j:=7 - k) un274 ty5 (hs.ev rfl) (hs.ev rfl) (by omega) (by omega)) rfl fun ac hs=>?_
      refine s_store (i:=0) hs ty5 rfl rfl rfl rfl rfl rfl (by rw [List.length_map]; omega) ((map_set _ (by omega)).trans (congrArg (List.map B) ((congrArg (fun z=>List.set _ _ z) (qd_byte _ k (by omega))).trans (lo64_set _ k (by omega))))) fun ww hs=>?_
      refine s_end (then_n (wp_reg ?_))
      refine zM hs fun ac hs=>?_
      refine s_q hs (c_quoV (hs.ev rfl) (St.ev (v:=V 256) hs rfl) (by decide)) rfl fun ac hs=>?_
      refine zA hs fun ac hs=>?_
      refine s_end (blk_n (then_n (wp_reg ?_)))
      refine zM hs fun ac hs=>?_
      refine s_q hs (c_subI (hs.ev rfl) (hs.ev rfl) (by omega) (by omega)) rfl fun ac hs=>?_
      refine zA hs fun ac hs=>?_
      refine s_end (then_n ?_)
      exact ⟨8 - (k + 1),by omega,k + 1,⟨by omega,rfl⟩,St.next hs ⟨rfl,(congrArg (fun z=>some (I z)) (by omega)),rfl,rfl,rfl,trivial⟩ rfl⟩
    · try simp only [z1,z2,z3,z4,z5,z6,z7] at hc
      obtain rfl:k=8:=by omega
      refine wp_exit (then_e (then_e (blk_hit (then_n (wp_seq (wp_reg ?_))))))
      refine zM hs fun ac hs=>?_
      refine s_q hs (c_sliceA un274 ty5 (hs.ev rfl)) rfl fun ac hs=>?_
      refine s_appB (i:=1) hs un177 ty5 rfl rfl rfl (RdB.seg (l:=be64 (UInt64.ofNat p.length * 8)) (hs.seg (i:=0) rfl) (by rw [be64_length]; decide)) (by simp only [List.length_append,List.length_replicate,List.length_cons,List.length_nil,be64_length,zc]; omega) rfl fun ac ww v37 hf hnil hs=>?_
      refine zA hs fun ac hs=>?_
      refine s_end ?_
      replace hs:=hs.sub (F':=[(2,_)]) ⟨rfl,trivial⟩
      refine then_n (wp_ret ?_)
      refine s_ret hs rfl (.tmp (hs.tmp rfl) .nil) rfl ⟨_,rfl,hs.fr,?_⟩
      exact ⟨_,rfl,(hs.pick (L':=[_]) (.cons _ (.refl _))).made⟩
end Go.Proofs.YtklajbdbnnceiaaGreat
end

section
/- The sum as the document has it. -/
namespace Go.Proofs.YtklajbdbnnceiaaGreat
open Go Go.Fw
open Sha
theorem comp_take (r:R) (l:List UInt8):comp r (l.take 64)=comp r l:=comp_congr (fun j hj=>by simp [List.getD,List.getElem?_take_of_lt hj]) r
def mid (r:R) (k j:Nat):List UInt8:=(out r).take (4 * k)++lo32 (r.list.getD k 0) j++List.replicate (32 - 4 * (k + 1)) 0
theorem mid_len (r:R) (k j:Nat) (h:k < 8) (hj:j≤4):(mid r k j).length=32:=by simp only [mid,List.length_append,List.length_take,out_length,lo32_len _ _ hj,List.length_replicate]; omega
theorem mid_set (r:R) (k j:Nat) (h:k < 8) (hj:j < 4):(mid r k j).set (4 * k + (3 - j)) ((be32 (r.list.getD k 0)).getD (3 - j) 0)=mid r k (j + 1):=by
  have e:((out r).take (4 * k)).length=4 * k:=by simp; omega
  rw [mid,mid,List.append_assoc,List.append_assoc,List.set_append_right _ _ (by omega),e,Nat.add_sub_cancel_left,List.set_append_left _ _ (by rw [lo32_len _ _ (by omega)]; omega),lo32_set _ _ hj]
theorem mid_zero (r:R) (k:Nat) (h:k < 8):outZ r k=mid r k 0:=by
  rw [outZ,mid,List.append_assoc]
  congr 1
  rw [show lo32 (r.list.getD k 0) 0=List.replicate 4 0 from rfl,List.replicate_append_replicate]
  congr 1
  omega
theorem mid_full (r:R) (k:Nat) (h:k < 8):mid r k 4=outZ r (k + 1):=by
  rw [outZ,mid,out_take r k h]
  rfl
theorem ref04_Sum (p:List UInt8) (pv:Value) (hle:p.length≤140737488355200) (w:World) (hq:RdB w pv p):Ctr Tryz.prog 141 [pv] w (fun _=>False) (fun v _=>v=.agg ((sum p).map B).toArray):=by
  refine fn_start (N:=51) Tryz.func141 rfl rfl rfl fun ac hk=>?_
  have hs:=St.start hk w
  refine wp_seq (wp_reg ?_)
  refine s_alloc hs ty24 rfl fun ac ww g2 hs=>?_
  refine s_end (then_n (wp_seq (wp_reg ?_)))
  refine zM hs fun ac hs=>?_
  refine s_call hs fu156 (.cons (hs.ev rfl) .nil) (ref04_Pad p _ hle _ (hq.fr0 hs.fr)) rfl fun ac ww v12 hf hp hs=>?_
  obtain ⟨qv,rfl,hh⟩:=hp
  replace hs:=hs _ hh
  obtain ⟨qad,qcap,rfl,hqc,hqm⟩:=Rd.sl (RdB.row (hs.get (i:=0) rfl))
  have hpl:=pad_length p
  refine zA hs fun ac hs=>?_
  refine s_end ?_
  replace hs:=hs.sub (F':=[(2,_),(3,_)]) ⟨rfl,rfl,trivial⟩
  refine then_n (wp_seq (wp_reg ?_))
  refine s_call hs fu157 .nil (ref04_First _) rfl fun ac ww v13 hf hp hs=>?_
  obtain rfl:=hp
  replace hs:=hs [] (.nil _ _)
  refine s_alloc hs ty262 rfl fun ac ww g4 hs=>?_
  refine s_storeW (i:=0) hs ty262 rfl rfl rfl (by simp) (all_map_U _) (by simp) fun ww hs=>?_
  refine s_end ?_
  replace hs:=hs.sub (F':=[(2,_),(3,_),(4,_)]) ⟨rfl,rfl,rfl,trivial⟩
  refine then_n (wp_seq (wp_reg ?_))
  refine s_call hs fu158 .nil (ref04_K _) rfl fun ac ww v14 hf hp hs=>?_
  obtain rfl:=hp
  replace hs:=hs [] (.nil _ _)
  refine s_alloc hs ty264 rfl fun ac ww g5 hs=>?_
  refine s_storeW (i:=0) hs ty264 rfl rfl rfl (by simp) (all_map_U _) (by simp) fun ww hs=>?_
  refine s_end ?_
  replace hs:=hs.sub (F':=[(2,_),(3,_),(4,_),(5,_)]) ⟨rfl,rfl,rfl,rfl,trivial⟩
  refine then_n (wp_seq (wp_seq (wp_reg ?_)))
  refine zA hs fun ac hs=>?_
  refine s_end (then_n (wp_block ?_))
  refine s_loop hs (X:=Nat) (fun k=>[(6,I (64 * (k:Int)))]) [(2,_),(3,_),(4,_),(5,_)] (fun k=>[.seg g5 (K.map U) 264,.seg g4 ((foldB first (pad p) k).list.map U) 262,.row _ (pad p).length ((pad p).map B) 5 1,.seg g2 ((List.replicate 32 (0:UInt8)).map B) 24]) (fun n k=>k≤blocks p.length∧n=blocks p.length - k) (_) (0) (⟨Nat.zero_le _,rfl⟩) ⟨rfl,rfl,rfl,rfl,rfl,trivial⟩ rfl ?_
  rintro n k ac ww hok hs
  simp only [List.cons_append,List.nil_append] at hs
  obtain ⟨hk,rfl⟩:=hok
  have hbl:blocks p.length≤p.length + 2:=by simp only [blocks]; split <;> omega
  refine wp_seq (wp_seq (wp_reg ?_))
  refine zM hs fun ac hs=>?_
  refine zM hs fun ac hs=>?_
  refine s_q hs (c_lenS un177 (hs.ev rfl)) rfl fun ac hs=>?_
  refine s_q hs (c_lssI (hs.ev rfl) (hs.ev rfl)) rfl fun ac hs=>?_
  refine s_end (then_n ?_)
  refine s_cond hs rfl (fun hc=>?_) (fun hc=>?_)
  · try simp only [z1,z2,z3,z4,z5,z6,z7] at hc
    have hk2:k < blocks p.length:=by omega
    refine wp_skip (then_n (wp_seq (wp_block ?_)))
    refine wp_region_rg pmix 8 (by kernel_rfl) rfl hs ?_
    simp only [List.take_succ_cons,List.take_zero]
    refine rg_q (fun ac ww h=>c_loadW ty262 rfl (h.ev rfl) (h.blk (hs.seg (i:=1) rfl)) (by simp)) rfl ?_
    refine rg_q (fun ac ww h=>c_move (h.ev rfl)) rfl ?_
    refine rg_q (fun ac ww h=>c_move (h.ev rfl)) rfl ?_
    refine rg_q (fun ac ww h=>c_move (h.ev rfl)) rfl ?_
    refine rg_q (fun ac ww h=>c_addI (h.ev rfl) (h.ev rfl) (by omega) (by omega)) rfl ?_
    refine rg_q (fun ac ww h=>c_sliceS (i:=64 * k) (j:=64 * k + 64) un177 ty5 (h.ev rfl) (h.ev rfl) (h.ev rfl) (by omega) (by omega) (by omega) (by omega)) rfl ?_
    refine rg_q (fun ac ww h=>c_loadW ty264 rfl (h.ev rfl) (h.blk (hs.seg (i:=0) rfl)) (by simp)) rfl ?_
    refine rg_call fu159 (fun ac ww h=>(.cons (h.ev rfl) (.cons (h.ev rfl) (.cons (h.ev rfl) .nil)))) (fun ww hf=>ref04_Block _ (((pad p).drop (64 * k)).take (64 * k + 64 - 64 * k)) _ (by rw [List.length_take,List.length_drop]; omega) ww ((RdB.mid (RdB.row (hs.get (i:=2) rfl)) (by omega) (by omega)).fr0 hf)) rfl ?_
    refine rg_nil fun ac ww L' hf hfe hs=>?_
    simp only [List.drop_succ_cons,List.drop_zero]
    obtain rfl:L'=[]:=hfe
    replace hs:=hs.toL (List.nil_append _)
    refine s_storeW (i:=1) hs ty262 rfl rfl rfl (by simp) (all_map_U _) (by simp) fun ww hs=>?_
    rw [show 64 * k + 64 - 64 * k=64 from by omega,comp_take] at hs
    refine s_end (blk_n (then_n (wp_reg ?_)))
    refine zM hs fun ac hs=>?_
    refine s_q hs (c_addI (hs.ev rfl) (hs.ev rfl) (by omega) (by omega)) rfl fun ac hs=>?_
    refine zA hs fun ac hs=>?_
    refine s_end (then_n ?_)
    exact ⟨blocks p.length - (k + 1),by omega,k + 1,⟨by omega,rfl⟩,St.next hs ⟨(congrArg (fun z=>some (I z)) (by omega)),rfl,rfl,rfl,rfl,trivial⟩ rfl⟩
  · try simp only [z1,z2,z3,z4,z5,z6,z7] at hc
    obtain rfl:k=blocks p.length:=by omega
    refine wp_exit (then_e (then_e (blk_hit (then_n (wp_seq (wp_reg ?_))))))
    refine s_alloc hs ty24 rfl fun ac ww g7 hs=>?_
    refine s_end ?_
    replace hs:=hs.sub (F':=[(2,_),(4,_),(7,_)]) ⟨rfl,rfl,rfl,trivial⟩
    refine then_n (wp_seq (wp_seq (wp_reg ?_)))
    refine zA hs fun ac hs=>?_
    refine s_end (then_n (wp_block ?_))
    refine s_loop hs (X:=Nat) (fun k=>[(8,I k)]) [(2,_),(4,_),(7,_)] (fun k=>[.seg g7 ((outZ (foldB first (pad p) (blocks p.length)) k).map B) 24,.seg g5 (K.map U) 264,.seg g4 ((foldB first (pad p) (blocks p.length)).list.map U) 262,.row _ (pad p).length ((pad p).map B) 5 1,.seg g2 ((List.replicate 32 (0:UInt8)).map B) 24]) (fun n k=>k≤8∧n=8 - k) (8) (0) (⟨Nat.zero_le _,rfl⟩) ⟨rfl,rfl,rfl,rfl,trivial⟩ rfl ?_
    rintro n k ac ww hok hs
    simp only [List.cons_append,List.nil_append] at hs
    obtain ⟨hk,rfl⟩:=hok
    have hzl:=outZ_len (foldB first (pad p) (blocks p.length)) k hk
    refine wp_seq (wp_seq (wp_reg ?_))
    refine zM hs fun ac hs=>?_
    refine s_q hs (c_lssI (hs.ev rfl) (hs.ev rfl)) rfl fun ac hs=>?_
    refine s_end (then_n ?_)
    refine s_cond hs rfl (fun hc=>?_) (fun hc=>?_)
    · try simp only [z1,z2,z3,z4,z5,z6,z7] at hc
      have hk8:k < 8:=by omega
      refine wp_skip (then_n (wp_seq (wp_block (wp_seq (wp_reg ?_)))))
      refine zM hs fun ac hs=>?_
      refine s_q hs (c_idxA (j:=k) un262 ty25 (hs.ev rfl) (hs.ev rfl) (by omega) (by omega)) rfl fun ac hs=>?_
      refine s_q hs (c_loadS un25 rfl (hs.ev rfl) (hs.seg (i:=2) rfl) (map_get 0 (by simp; omega))) rfl fun ac hs=>?_
      refine zA hs fun ac hs=>?_
      refine s_end (then_n (wp_seq (wp_reg ?_)))
      refine zA hs fun ac hs=>?_
      refine s_end (then_n (wp_block ?_))
      refine s_loop hs (X:=Nat) (fun j=>[(9,U (qd32 ((foldB first (pad p) (blocks p.length)).list.getD k 0) j)),(10,I (3 - (j:Int)))]) [(2,_),(4,_),(7,_),(8,_),(29,_),(30,_),(33,_),(34,_),(35,_)] (fun j=>[.seg g7 ((mid (foldB first (pad p) (blocks p.length)) k j).map B) 24,.seg g5 (K.map U) 264,.seg g4 ((foldB first (pad p) (blocks p.length)).list.map U) 262,.row _ (pad p).length ((pad p).map B) 5 1,.seg g2 ((List.replicate 32 (0:UInt8)).map B) 24]) (fun n j=>j≤4∧n=4 - j) (4) (0) (⟨Nat.zero_le _,rfl⟩) ⟨rfl,rfl,rfl,rfl,rfl,rfl,rfl,rfl,rfl,rfl,rfl,trivial⟩ (by rw [mid_zero _ k hk8]) ?_
      rintro n j ac ww hok hs
      simp only [List.cons_append,List.nil_append] at hs
      obtain ⟨hj,rfl⟩:=hok
      have hml:=mid_len (foldB first (pad p) (blocks p.length)) k j hk8 hj
      refine wp_seq (wp_seq (wp_reg ?_))
      refine zM hs fun ac hs=>?_
      refine s_q hs (c_geqI (hs.ev rfl) (hs.ev rfl)) rfl fun ac hs=>?_
      refine s_end (then_n ?_)
      refine s_cond hs rfl (fun hc=>?_) (fun hc=>?_)
      · try simp only [z1,z2,z3,z4,z5,z6,z7] at hc
        have hj4:j < 4:=by omega
        refine wp_skip (then_n (wp_seq (wp_block (wp_seq (wp_reg ?_)))))
        refine zM hs fun ac hs=>?_
        refine s_q hs (c_mulI (hs.ev rfl) (hs.ev rfl) (by omega) (by omega)) rfl fun ac hs=>?_
        refine zM hs fun ac hs=>?_
        refine s_q hs (c_addI (hs.ev rfl) (hs.ev rfl) (by omega) (by omega)) rfl fun ac hs=>?_
        refine zM hs fun ac hs=>?_
        refine s_q hs (c_remU (hs.ev rfl) (St.ev (v:=U 256) hs rfl) (by decide)) rfl fun ac hs=>?_
        refine s_q hs (c_cvUB un25 un5 (hs.ev rfl)) rfl fun ac hs=>?_
        refine s_q hs (c_idxA (j:=4 * k + (3 - j)) un24 ty5 (hs.ev rfl) (hs.ev rfl) (by omega) (by omega)) rfl fun ac hs=>?_
        refine s_store (i:=0) hs ty5 rfl rfl rfl rfl rfl rfl (by rw [List.length_map]; omega) ((map_set _ (by omega)).trans (congrArg (List.map B) ((congrArg (fun z=>List.set _ _ z) (qd32_byte _ j (by omega))).trans (mid_set _ k j hk8 hj4)))) fun ww hs=>?_
        refine s_end (then_n (wp_reg ?_))
        refine zM hs fun ac hs=>?_
        refine s_q hs (c_quoU (hs.ev rfl) (St.ev (v:=U 256) hs rfl) (by decide)) rfl fun ac hs=>?_
        refine zA hs fun ac hs=>?_
        refine s_end (blk_n (then_n (wp_reg ?_)))
        refine zM hs fun ac hs=>?_
        refine s_q hs (c_subI (hs.ev rfl) (hs.ev rfl) (by omega) (by omega)) rfl fun ac hs=>?_
        refine zA hs fun ac hs=>?_
        refine s_end (then_n ?_)
        exact ⟨4 - (j + 1),by omega,j + 1,⟨by omega,rfl⟩,St.next hs ⟨rfl,(congrArg (fun z=>some (I z)) (by omega)),rfl,rfl,rfl,rfl,rfl,rfl,rfl,rfl,rfl,trivial⟩ rfl⟩
      · try simp only [z1,z2,z3,z4,z5,z6,z7] at hc
        obtain rfl:j=4:=by omega
        refine wp_exit (then_e (then_e (blk_hit (blk_n (then_n (wp_reg ?_))))))
        refine zM hs fun ac hs=>?_
        refine s_q hs (c_addI (hs.ev rfl) (hs.ev rfl) (by omega) (by omega)) rfl fun ac hs=>?_
        refine zA hs fun ac hs=>?_
        refine s_end (then_n ?_)
        exact ⟨8 - (k + 1),by omega,k + 1,⟨by omega,rfl⟩,St.next hs ⟨rfl,rfl,rfl,rfl,trivial⟩ (by rw [← mid_full _ k (by omega)]; try rfl)⟩
    · try simp only [z1,z2,z3,z4,z5,z6,z7] at hc
      obtain rfl:k=8:=by omega
      refine wp_exit (then_e (then_e (blk_hit (then_n (wp_seq (wp_reg ?_))))))
      refine s_q hs (c_loadW ty24 rfl (hs.ev rfl) (hs.seg (i:=0) rfl) (by simpa using hzl)) rfl fun ac hs=>?_
      refine s_storeW (i:=4) hs ty24 rfl rfl rfl (by simpa using hzl) (all_map_B _) rfl fun ww hs=>?_
      refine s_end ?_
      replace hs:=hs.sub (F':=[(2,_)]) ⟨rfl,trivial⟩
      refine then_n (wp_ret ?_)
      refine s_ret hs rfl (.cell (hs.tmp rfl) (run_loadA ty24 rfl (hs.seg (i:=4) rfl) (List.take_of_length_le (by simp [hzl])) (by simpa using hzl)) .nil) rfl ⟨_,rfl,hs.fr,?_⟩
      show _=_
      rw [sum_eq]
      rfl
end Go.Proofs.YtklajbdbnnceiaaGreat
end

section
/- Keyed sums and short sums. -/
namespace Go.Proofs.YtklajbdbnnceiaaGreat
open Go Go.Fw
open Sha
theorem mac_key (k:List UInt8) (kv:Value) (hle:k.length≤140737488355328) (w:World) (hq:RdB w kv k):Ctr Tryz.prog 175 [kv] w (fun _=>False) (fun v _=>v=.agg ((keyB k).map B).toArray):=by
  obtain ⟨kad,kcap,rfl,hkc,hkm⟩:=Rd.sl hq
  refine fn_start (N:=17) Tryz.func175 rfl rfl rfl fun ac hk=>?_
  have hs:=St.start hk w
  refine wp_seq (wp_reg ?_)
  refine s_alloc hs ty255 rfl fun ac ww g2 hs=>?_
  refine s_end (then_n (wp_seq (wp_reg ?_)))
  refine s_alloc hs ty255 rfl fun ac ww g3 hs=>?_
  refine s_end (then_n (wp_seq (wp_seq (wp_reg ?_))))
  refine zM hs fun ac hs=>?_
  refine s_q hs (c_lenS un177 (hs.ev rfl)) rfl fun ac hs=>?_
  refine s_q hs (c_gtrI (hs.ev rfl) (hs.ev rfl)) rfl fun ac hs=>?_
  refine s_end ?_
  replace hs:=hs.sub (F':=[(0,_),(2,_),(3,_),(7,_)]) ⟨rfl,rfl,rfl,rfl,trivial⟩
  refine then_n ?_
  refine s_cond hs rfl (fun hc=>?_) (fun hc=>?_)
  · try simp only [z1,z2,z3,z4,z5,z6,z7] at hc
    refine wp_seq (wp_reg ?_)
    refine zM hs fun ac hs=>?_
    refine s_call hs fu185 (.cons (hs.ev rfl) .nil) (sha_Sum k _ hle _ (hq.fr0 hs.fr)) rfl fun ac ww v9 hf hp hs=>?_
    obtain rfl:=hp
    replace hs:=hs [] (.nil _ _)
    refine s_alloc hs ty129 rfl fun ac ww g4 hs=>?_
    refine s_storeW (i:=0) hs ty129 rfl rfl rfl (by simp) (all_map_B _) (by simp) fun ww hs=>?_
    refine s_end ?_
    replace hs:=hs.sub (F':=[(0,_),(2,_),(3,_),(4,_)]) ⟨rfl,rfl,rfl,rfl,trivial⟩
    refine then_n ?_
    refine wp_region_rg pmix 2 (by kernel_rfl) rfl hs ?_
    simp only [List.take_succ_cons,List.take_zero]
    refine rg_q (fun ac ww h=>c_sliceA un255 ty5 (h.ev rfl)) rfl ?_
    refine rg_q (fun ac ww h=>c_sliceA un129 ty5 (h.ev rfl)) rfl ?_
    refine rg_nil fun ac ww L' hf hfe hs=>?_
    simp only [List.drop_succ_cons,List.drop_zero]
    obtain rfl:L'=[]:=hfe
    replace hs:=hs.toL (List.nil_append _)
    refine s_copy (i:=1) (n:=64) hs un177 ty5 rfl (by simp) rfl rfl (RdB.seg (l:=sum k) (hs.seg (i:=0) rfl) (by rw [sum_length]; decide)) rfl fun ac ww hs=>?_
    rw [keyB_long k (by omega)] at hs
    refine s_end ?_
    replace hs:=hs.sub (F':=[(0,_),(2,_),(3,_)]) ⟨rfl,rfl,rfl,trivial⟩
    refine then_n (wp_seq (wp_reg ?_))
    refine s_q hs (c_loadW ty255 rfl (hs.ev rfl) (hs.seg (i:=1) rfl) (by rw [List.length_map,keyB_length])) rfl fun ac hs=>?_
    refine s_storeW (i:=2) hs ty255 rfl rfl rfl (by rw [List.length_map,keyB_length]) (all_map_B _) rfl fun ww hs=>?_
    refine s_end ?_
    replace hs:=hs.sub (F':=[(2,_)]) ⟨rfl,trivial⟩
    refine then_n (wp_ret ?_)
    refine s_ret hs rfl (.cell (hs.tmp rfl) (run_loadA ty255 rfl (hs.seg (i:=2) rfl) (List.take_of_length_le (by simp [keyB_length])) (by simp [keyB_length])) .nil) rfl ⟨_,rfl,hs.fr,?_⟩
    rfl
  · try simp only [z1,z2,z3,z4,z5,z6,z7] at hc
    refine wp_reg ?_
    refine s_q hs (c_sliceA un255 ty5 (hs.ev rfl)) rfl fun ac hs=>?_
    refine zM hs fun ac hs=>?_
    refine s_copy (i:=0) (n:=64) hs un177 ty5 rfl (by simp) rfl rfl (hq.fr0 hs.fr) rfl fun ac ww hs=>?_
    rw [keyB_small k (by omega)] at hs
    refine s_end ?_
    replace hs:=hs.sub (F':=[(2,_),(3,_)]) ⟨rfl,rfl,trivial⟩
    refine then_n (wp_seq (wp_reg ?_))
    refine s_q hs (c_loadW ty255 rfl (hs.ev rfl) (hs.seg (i:=0) rfl) (by rw [List.length_map,keyB_length])) rfl fun ac hs=>?_
    refine s_storeW (i:=1) hs ty255 rfl rfl rfl (by rw [List.length_map,keyB_length]) (all_map_B _) rfl fun ww hs=>?_
    refine s_end ?_
    replace hs:=hs.sub (F':=[(2,_)]) ⟨rfl,trivial⟩
    refine then_n (wp_ret ?_)
    refine s_ret hs rfl (.cell (hs.tmp rfl) (run_loadA ty255 rfl (hs.seg (i:=1) rfl) (List.take_of_length_le (by simp [keyB_length])) (by simp [keyB_length])) .nil) rfl ⟨_,rfl,hs.fr,?_⟩
    rfl
theorem mac_first (d:List UInt8) (hd:d.length=32) (w:World) :Ctr Tryz.prog 154 [.agg (d.map B).toArray] w (fun _=>False) (fun v _=>v=.agg ((d.take 16).map B).toArray):=by
  refine fn_start (N:=8) Tryz.func154 rfl rfl rfl fun ac hk=>?_
  have hs:=St.start hk w
  refine wp_seq (wp_reg ?_)
  refine s_box hs rfl rfl rfl fun ac ww g1 hs=>?_
  refine s_alloc hs ty36 rfl fun ac ww g2 hs=>?_
  refine s_end ?_
  replace hs:=hs.sub (F':=[(1,_),(2,_)]) ⟨rfl,rfl,trivial⟩
  refine then_n (wp_seq (wp_reg ?_))
  refine s_alloc hs ty36 rfl fun ac ww g3 hs=>?_
  refine s_end (then_n (wp_seq ?_))
  refine wp_region_rg pmix 2 (by kernel_rfl) rfl hs ?_
  simp only [List.take_succ_cons,List.take_zero]
  refine rg_q (fun ac ww h=>c_sliceA un36 ty5 (h.ev rfl)) rfl ?_
  refine rg_q (fun ac ww h=>c_sliceA un129 ty5 (h.ev rfl)) rfl ?_
  refine rg_nil fun ac ww L' hf hfe hs=>?_
  simp only [List.drop_succ_cons,List.drop_zero]
  obtain rfl:L'=[]:=hfe
  replace hs:=hs.toL (List.nil_append _)
  refine s_copy (i:=0) (n:=16) hs un177 ty5 rfl (by simp) rfl rfl (RdB.segn (l:=d) (hs.seg (i:=2) rfl) hd (by decide)) rfl fun ac ww hs=>?_
  rw [show d.take 16++(List.replicate 16 (0:UInt8)).drop d.length=d.take 16 from by rw [hd]; simp] at hs
  refine s_end ?_
  replace hs:=hs.sub (F':=[(2,_),(3,_)]) ⟨rfl,rfl,trivial⟩
  refine then_n (wp_seq (wp_reg ?_))
  refine s_q hs (c_loadW ty36 rfl (hs.ev rfl) (hs.seg (i:=0) rfl) (by simp [hd])) rfl fun ac hs=>?_
  refine s_storeW (i:=1) hs ty36 rfl rfl rfl (by simp [hd]) (all_map_B _) rfl fun ww hs=>?_
  refine s_end ?_
  replace hs:=hs.sub (F':=[(2,_)]) ⟨rfl,trivial⟩
  refine then_n (wp_ret ?_)
  refine s_ret hs rfl (.cell (hs.tmp rfl) (run_loadA ty36 rfl (hs.seg (i:=1) rfl) (List.take_of_length_le (by simp [hd])) (by simp [hd])) .nil) rfl ⟨_,rfl,hs.fr,?_⟩
  rfl
theorem mac_Mac (k p:List UInt8) (kv pv:Value) (hkl:k.length≤140737488355328) (hle:p.length≤140737488355200) (w:World) (hqk:RdB w kv k) (hqp:RdB w pv p):Ctr Tryz.prog 164 [kv,pv] w (fun _=>False) (fun v _=>v=.agg ((hmac k p).map B).toArray):=by
  refine fn_start (N:=46) Tryz.func164 rfl rfl rfl fun ac hk=>?_
  have hs:=St.start hk w
  refine wp_seq (wp_reg ?_)
  refine s_alloc hs ty129 rfl fun ac ww g4 hs=>?_
  refine s_end (then_n (wp_seq (wp_reg ?_)))
  refine zM hs fun ac hs=>?_
  refine s_call hs fu175 (.cons (hs.ev rfl) .nil) (mac_key k _ hkl _ (hqk.fr0 hs.fr)) rfl fun ac ww v11 hf hp hs=>?_
  obtain rfl:=hp
  replace hs:=hs [] (.nil _ _)
  refine zM hs fun ac hs=>?_
  refine s_call hs fu175 (.cons (hs.ev rfl) .nil) (mac_key k _ hkl _ (hqk.fr0 hs.fr)) rfl fun ac ww v13 hf hp hs=>?_
  obtain rfl:=hp
  replace hs:=hs [] (.nil _ _)
  refine s_alloc hs ty255 rfl fun ac ww g5 hs=>?_
  refine s_alloc hs ty255 rfl fun ac ww g6 hs=>?_
  refine s_storeW (i:=1) hs ty255 rfl rfl rfl (by rw [List.length_map,keyB_length]) (all_map_B _) rfl fun ww hs=>?_
  refine s_storeW (i:=0) hs ty255 rfl rfl rfl (by rw [List.length_map,keyB_length]) (all_map_B _) rfl fun ww hs=>?_
  refine s_end ?_
  replace hs:=hs.sub (F':=[(1,_),(4,_),(5,_),(6,_)]) ⟨rfl,rfl,rfl,rfl,trivial⟩
  refine then_n (wp_seq (wp_seq (wp_reg ?_)))
  refine zM hs fun ac hs=>?_
  refine s_end (then_n (wp_block ?_))
  refine s_loop hs (X:=Nat) (fun i=>[(14,I i)]) [(1,_),(4,_),(5,_),(6,_)] (fun i=>[.seg g6 ((xorZ 0x5c (keyB k) i).map B) 255,.seg g5 ((xorZ 0x36 (keyB k) i).map B) 255,.seg g4 ((List.replicate 32 (0:UInt8)).map B) 129]) (fun n i=>i≤64∧n=64 - i) (64) (0) (⟨Nat.zero_le _,rfl⟩) ⟨rfl,rfl,rfl,rfl,rfl,trivial⟩ (by rw [xorZ_zero,xorZ_zero]; rfl) ?_
  rintro n i ac ww hok hs
  simp only [List.cons_append,List.nil_append] at hs
  obtain ⟨hi,rfl⟩:=hok
  have hz1:=(xorZ_length 0x36 (keyB k) i).trans (keyB_length k)
  have hz2:=(xorZ_length 0x5c (keyB k) i).trans (keyB_length k)
  have hkb:=keyB_length k
  refine wp_seq (wp_reg ?_)
  refine s_q hs (c_lssI (hs.ev rfl) (hs.ev rfl)) rfl fun ac hs=>?_
  refine s_end (then_n (wp_seq ?_))
  refine s_cond hs rfl (fun hc=>?_) (fun hc=>?_)
  · try simp only [z1,z2,z3,z4,z5,z6,z7] at hc
    refine wp_skip (then_n (wp_seq (wp_block (wp_seq (wp_reg ?_)))))
    refine zM hs fun ac hs=>?_
    refine zA hs fun ac hs=>?_
    refine s_end (then_n (wp_seq (wp_reg ?_)))
    refine zM hs fun ac hs=>?_
    refine s_q hs (c_idxA (j:=i) un255 ty5 (hs.ev rfl) (hs.ev rfl) (by omega) (by omega)) rfl fun ac hs=>?_
    refine s_q hs (c_loadS un5 rfl (hs.ev rfl) (hs.seg (i:=1) rfl) ((map_get 0 (by omega)).trans (by rw [xorZ_get _ _ _ (by omega)]))) rfl fun ac hs=>?_
    refine s_q hs (c_xorB (hs.ev rfl) (St.ev (v:=B 54) hs rfl)) rfl fun ac hs=>?_
    refine s_q hs (c_idxA (j:=i) un255 ty5 (hs.ev rfl) (hs.ev rfl) (by omega) (by omega)) rfl fun ac hs=>?_
    refine s_store (i:=1) hs ty5 rfl rfl rfl rfl rfl rfl (by rw [List.length_map]; omega) ((map_set _ (by omega)).trans (congrArg (List.map B) (xorZ_set _ _ i (by omega)))) fun ww hs=>?_
    refine s_end (then_n (wp_reg ?_))
    refine zM hs fun ac hs=>?_
    refine s_q hs (c_idxA (j:=i) un255 ty5 (hs.ev rfl) (hs.ev rfl) (by omega) (by omega)) rfl fun ac hs=>?_
    refine s_q hs (c_loadS un5 rfl (hs.ev rfl) (hs.seg (i:=0) rfl) ((map_get 0 (by omega)).trans (by rw [xorZ_get _ _ _ (by omega)]))) rfl fun ac hs=>?_
    refine s_q hs (c_xorB (hs.ev rfl) (St.ev (v:=B 92) hs rfl)) rfl fun ac hs=>?_
    refine s_q hs (c_idxA (j:=i) un255 ty5 (hs.ev rfl) (hs.ev rfl) (by omega) (by omega)) rfl fun ac hs=>?_
    refine s_store (i:=0) hs ty5 rfl rfl rfl rfl rfl rfl (by rw [List.length_map]; omega) ((map_set _ (by omega)).trans (congrArg (List.map B) (xorZ_set _ _ i (by omega)))) fun ww hs=>?_
    refine s_end (blk_n (then_n (wp_reg ?_)))
    refine s_q hs (c_addI (hs.ev rfl) (hs.ev rfl) (by omega) (by omega)) rfl fun ac hs=>?_
    refine zM hs fun ac hs=>?_
    refine s_end (then_n ?_)
    exact ⟨64 - (i + 1),by omega,i + 1,⟨by omega,rfl⟩,St.next hs ⟨rfl,rfl,rfl,rfl,rfl,trivial⟩ rfl⟩
  · try simp only [z1,z2,z3,z4,z5,z6,z7] at hc
    obtain rfl:i=64:=by omega
    refine wp_exit (then_e (then_e (blk_hit (then_n (wp_seq (wp_reg ?_))))))
    refine s_call hs fu152 .nil (sha_New _) rfl fun ac ww v28 hf hp hs=>?_
    obtain ⟨ga,rfl,hh⟩:=hp
    replace hs:=hs _ (Has.grp' hh)
    refine zA hs fun ac hs=>?_
    refine s_end ?_
    replace hs:=hs.sub (F':=[(1,_),(4,_),(5,_),(6,_),(8,_)]) ⟨rfl,rfl,rfl,rfl,rfl,trivial⟩
    refine then_n (wp_seq (wp_reg ?_))
    refine zM hs fun ac hs=>?_
    refine s_q hs (c_sliceA un255 ty5 (hs.ev rfl)) rfl fun ac hs=>?_
    refine s_callM (i:=0) hs fu153 (.cons (hs.ev rfl) (.cons (hs.ev rfl) .nil)) rfl (sha_Write ([]) (xorZ 0x36 (keyB k) 64) ga _ _ (by rw [hz1]; decide) _ (hs.get (i:=0) rfl) (RdB.segn (hs.seg (i:=2) rfl) hz1 (by decide)) (fun _=>hs.apart_seg (i:=0) (j:=2) rfl rfl (by decide))) rfl fun ac ww v31 hf hp hs=>?_
    obtain ⟨rv,h1,h2⟩:=hp
    replace hs:=hs (Ent.grp (hash ga rv (([])++(xorZ 0x36 (keyB k) 64)))) h1 (fun k hk=>⟨h2 k hk,grp_lt h1 k hk⟩)
    refine s_end ?_
    replace hs:=hs.sub (F':=[(1,_),(4,_),(6,_),(8,_)]) ⟨rfl,rfl,rfl,rfl,trivial⟩
    refine then_n (wp_seq (wp_reg ?_))
    refine zM hs fun ac hs=>?_
    refine zM hs fun ac hs=>?_
    refine s_callM (i:=0) hs fu153 (.cons (hs.ev rfl) (.cons (hs.ev rfl) .nil)) rfl (sha_Write ([]++xorZ 0x36 (keyB k) 64) (p) ga rv _ (by rw [List.nil_append,hz1]; omega) _ (hs.get (i:=0) rfl) (hqp.fr0 hs.fr) (hs.far (i:=0) rfl hqp)) rfl fun ac ww v34 hf hp hs=>?_
    obtain ⟨rv,h1,h2⟩:=hp
    replace hs:=hs (Ent.grp (hash ga rv (([]++xorZ 0x36 (keyB k) 64)++(p)))) h1 (fun k hk=>⟨h2 k hk,grp_lt h1 k hk⟩)
    refine s_end ?_
    replace hs:=hs.sub (F':=[(4,_),(6,_),(8,_)]) ⟨rfl,rfl,rfl,trivial⟩
    refine then_n (wp_seq (wp_reg ?_))
    refine zM hs fun ac hs=>?_
    refine s_call hs fu155 (.cons (hs.ev rfl) .nil) (sha_HSum ([]++xorZ 0x36 (keyB k) 64++p) ga rv (by rw [List.nil_append,List.length_append,hz1]; omega) _ (hash_get (hs.get (i:=0) rfl)).1 (hash_get (hs.get (i:=0) rfl)).2) rfl fun ac ww v36 hf hp hs=>?_
    obtain rfl:=hp
    replace hs:=hs [] (.nil _ _)
    refine s_alloc hs ty129 rfl fun ac ww g9 hs=>?_
    refine s_storeW (i:=0) hs ty129 rfl rfl rfl (by simp) (all_map_B _) (by simp) fun ww hs=>?_
    refine s_end ?_
    replace hs:=hs.sub (F':=[(4,_),(6,_),(8,_),(9,_)]) ⟨rfl,rfl,rfl,rfl,trivial⟩
    refine then_n (wp_seq (wp_reg ?_))
    refine s_call hs fu152 .nil (sha_New _) rfl fun ac ww v37 hf hp hs=>?_
    obtain ⟨gb,rfl,hh⟩:=hp
    replace hs:=hs _ (Has.grp' hh)
    refine zA hs fun ac hs=>?_
    refine s_end ?_
    replace hs:=hs.sub (F':=[(4,_),(6,_),(8,_),(9,_)]) ⟨rfl,rfl,rfl,rfl,trivial⟩
    refine then_n (wp_seq (wp_reg ?_))
    refine zM hs fun ac hs=>?_
    refine s_q hs (c_sliceA un255 ty5 (hs.ev rfl)) rfl fun ac hs=>?_
    refine s_callM (i:=0) hs fu153 (.cons (hs.ev rfl) (.cons (hs.ev rfl) .nil)) rfl (sha_Write ([]) (xorZ 0x5c (keyB k) 64) gb _ _ (by rw [hz2]; decide) _ (hs.get (i:=0) rfl) (RdB.segn (hs.seg (i:=3) rfl) hz2 (by decide)) (fun _=>hs.apart_seg (i:=0) (j:=3) rfl rfl (by decide))) rfl fun ac ww v40 hf hp hs=>?_
    obtain ⟨rv,h1,h2⟩:=hp
    replace hs:=hs (Ent.grp (hash gb rv (([])++(xorZ 0x5c (keyB k) 64)))) h1 (fun k hk=>⟨h2 k hk,grp_lt h1 k hk⟩)
    refine s_end ?_
    replace hs:=hs.sub (F':=[(4,_),(8,_),(9,_)]) ⟨rfl,rfl,rfl,trivial⟩
    refine then_n (wp_seq (wp_reg ?_))
    refine zM hs fun ac hs=>?_
    refine s_q hs (c_sliceA un129 ty5 (hs.ev rfl)) rfl fun ac hs=>?_
    refine s_callM (i:=0) hs fu153 (.cons (hs.ev rfl) (.cons (hs.ev rfl) .nil)) rfl (sha_Write ([]++xorZ 0x5c (keyB k) 64) (sum ([]++xorZ 0x36 (keyB k) 64++p)) gb rv _ (by rw [List.nil_append,hz2,sum_length]; decide) _ (hs.get (i:=0) rfl) (RdB.segn (hs.seg (i:=1) rfl) (sum_length _) (by decide)) (fun _=>hs.apart_seg (i:=0) (j:=1) rfl rfl (by decide))) rfl fun ac ww v43 hf hp hs=>?_
    obtain ⟨rv,h1,h2⟩:=hp
    replace hs:=hs (Ent.grp (hash gb rv (([]++xorZ 0x5c (keyB k) 64)++(sum ([]++xorZ 0x36 (keyB k) 64++p))))) h1 (fun k hk=>⟨h2 k hk,grp_lt h1 k hk⟩)
    refine s_end ?_
    replace hs:=hs.sub (F':=[(4,_),(8,_)]) ⟨rfl,rfl,trivial⟩
    refine then_n (wp_seq (wp_reg ?_))
    refine zM hs fun ac hs=>?_
    refine s_call hs fu155 (.cons (hs.ev rfl) .nil) (sha_HSum ([]++xorZ 0x5c (keyB k) 64++sum ([]++xorZ 0x36 (keyB k) 64++p)) gb rv (by rw [List.nil_append,List.length_append,hz2,sum_length]; decide) _ (hash_get (hs.get (i:=0) rfl)).1 (hash_get (hs.get (i:=0) rfl)).2) rfl fun ac ww v45 hf hp hs=>?_
    obtain rfl:=hp
    replace hs:=hs [] (.nil _ _)
    refine s_storeW (i:=5) hs ty129 rfl rfl rfl (by simp) (all_map_B _) (by simp) fun ww hs=>?_
    refine s_end ?_
    replace hs:=hs.sub (F':=[(4,_)]) ⟨rfl,trivial⟩
    refine then_n (wp_ret ?_)
    refine s_ret hs rfl (.cell (hs.tmp rfl) (run_loadA ty129 rfl (hs.seg (i:=5) rfl) (List.take_of_length_le (by simp)) (by simp)) .nil) rfl ⟨_,rfl,hs.fr,?_⟩
    show _=_
    rw [List.nil_append,List.nil_append,xorZ_full _ _ _ hkb.symm,xorZ_full _ _ _ hkb.symm]
    rfl
theorem mac_Tag (k p:List UInt8) (kv pv:Value) (hkl:k.length≤140737488355328) (hle:p.length≤140737488355200) (w:World) (hqk:RdB w kv k) (hqp:RdB w pv p):Ctr Tryz.prog 150 [kv,pv] w (fun _=>False) (fun v _=>v=.agg ((tag k p).map B).toArray):=by
  refine fn_start (N:=9) Tryz.func150 rfl rfl rfl fun ac hk=>?_
  have hs:=St.start hk w
  refine wp_seq (wp_reg ?_)
  refine s_alloc hs ty36 rfl fun ac ww g4 hs=>?_
  refine s_end (then_n (wp_seq (wp_reg ?_)))
  refine zM hs fun ac hs=>?_
  refine zM hs fun ac hs=>?_
  refine s_call hs fu164 (.cons (hs.ev rfl) (.cons (hs.ev rfl) .nil)) (mac_Mac k p _ _ hkl hle _ (hqk.fr0 hs.fr) (hqp.fr0 hs.fr)) rfl fun ac ww v7 hf hp hs=>?_
  obtain rfl:=hp
  replace hs:=hs [] (.nil _ _)
  refine s_call hs fu154 (.cons (hs.ev rfl) .nil) (mac_first (hmac k p) (hmac_length k p) _) rfl fun ac ww v8 hf hp hs=>?_
  obtain rfl:=hp
  replace hs:=hs [] (.nil _ _)
  refine s_storeW (i:=0) hs ty36 rfl rfl rfl (by simp) (all_map_B _) (by simp) fun ww hs=>?_
  refine s_end ?_
  replace hs:=hs.sub (F':=[(4,_)]) ⟨rfl,trivial⟩
  refine then_n (wp_ret ?_)
  refine s_ret hs rfl (.cell (hs.tmp rfl) (run_loadA ty36 rfl (hs.seg (i:=0) rfl) (List.take_of_length_le (by simp)) (by simp)) .nil) rfl ⟨_,rfl,hs.fr,?_⟩
  rfl
theorem mac_Short (k:UInt8) (ps:List (Value × List UInt8)) (pv:Value) (hle:(flat ps).length≤140737488355200) (w:World) (hq:RdP w pv ps):Ctr Tryz.prog 139 [B k,pv] w (fun _=>False) (fun v _=>v=.agg ((short k (flat ps)).map B).toArray):=by
  have hpl:=hq.1.le
  obtain ⟨pad_,pcap,rfl,hpc,hpm⟩:=hq.sl
  refine fn_start (N:=26) Tryz.func139 rfl rfl rfl fun ac hk=>?_
  have hs:=St.start hk w
  refine wp_seq (wp_reg ?_)
  refine s_alloc hs ty36 rfl fun ac ww g4 hs=>?_
  refine s_end (then_n (wp_seq (wp_reg ?_)))
  refine s_call hs fu152 .nil (sha_New _) rfl fun ac ww v8 hf hp hs=>?_
  obtain ⟨ga,rfl,hh⟩:=hp
  replace hs:=hs _ (Has.grp' hh)
  refine zA hs fun ac hs=>?_
  refine s_end ?_
  replace hs:=hs.sub (F':=[(0,_),(1,_),(4,_),(5,_)]) ⟨rfl,rfl,rfl,rfl,trivial⟩
  refine then_n (wp_seq (wp_reg ?_))
  refine zM hs fun ac hs=>?_
  refine zM hs fun ac hs=>?_
  refine s_bslice hs un177 ty5 (.cons (hs.ev rfl) .nil) rfl (by simp [Value.cells]) (by decide) rfl rfl fun ac ww g11 hs=>?_
  refine s_callM (i:=1) hs fu153 (.cons (hs.ev rfl) (.cons (hs.ev rfl) .nil)) rfl (sha_Write ([]) ([k]) ga _ _ (by simp) _ (hs.get (i:=1) rfl) (RdB.seg (l:=[k]) (hs.seg (i:=0) rfl) (by show 1≤maxLen; decide)) (fun _=>hs.seg_apart (i:=0) (j:=1) rfl rfl (by decide))) rfl fun ac ww v12 hf hp hs=>?_
  obtain ⟨rv,h1,h2⟩:=hp
  replace hs:=hs (Ent.grp (hash ga rv (([])++([k])))) h1 (fun k hk=>⟨h2 k hk,grp_lt h1 k hk⟩)
  refine s_end ?_
  replace hs:=hs.pick (L':=[_,_]) (.cons _ (.refl _))
  replace hs:=hs.sub (F':=[(1,_),(4,_),(5,_)]) ⟨rfl,rfl,rfl,trivial⟩
  refine then_n (wp_seq (wp_seq (wp_reg ?_)))
  refine zM hs fun ac hs=>?_
  refine s_q hs (c_lenS un87 (hs.ev rfl)) rfl fun ac hs=>?_
  refine zM hs fun ac hs=>?_
  refine s_end ?_
  replace hs:=hs.sub (F':=[(4,_),(5,_),(13,_),(14,_),(15,_)]) ⟨rfl,rfl,rfl,rfl,rfl,trivial⟩
  refine then_n (wp_block ?_)
  refine s_loop hs (X:=Nat × Value) (fun x=>[(15,I x.1)]) [(4,_),(5,_),(13,_),(14,_)] (fun x=>[Ent.grp (hash ga x.2 (k::flat (ps.take x.1))),.seg g4 ((List.replicate 16 (0:UInt8)).map B) 36]) (fun n x=>x.1≤ps.length∧n=ps.length - x.1) (ps.length) ((0,rv)) (⟨Nat.zero_le _,rfl⟩) ⟨rfl,rfl,rfl,rfl,rfl,trivial⟩ rfl ?_
  rintro n ⟨i,rv⟩ ac ww hok hs
  simp only [List.cons_append,List.nil_append] at hs
  obtain ⟨hi,rfl⟩:=hok
  simp only at hi hs
  refine wp_seq (wp_reg ?_)
  refine s_q hs (c_lssI (hs.ev rfl) (hs.ev rfl)) rfl fun ac hs=>?_
  refine s_end (then_n (wp_seq ?_))
  refine s_cond hs rfl (fun hc=>?_) (fun hc=>?_)
  · try simp only [z1,z2,z3,z4,z5,z6,z7] at hc
    have hips:i < ps.length:=by omega
    obtain ⟨pb,po,pT,pf,pall,rfl,hpb,hps⟩:=hq.at' (by omega)
    have hfl:=flat_take_le ps i hips
    refine wp_skip (then_n (wp_seq (wp_block (wp_seq (wp_reg ?_)))))
    refine s_q hs (c_idxS (j:=i) un87 ty177 (hs.ev rfl) (hs.ev rfl) (by omega) (by omega)) rfl fun ac hs=>?_
    refine s_q hs (c_loadS un177 rfl (hs.ev rfl) (hs.old hpb id) (seg_get (.nilIface,[]) hps (by omega))) rfl fun ac hs=>?_
    refine zA hs fun ac hs=>?_
    refine s_end (then_n (wp_reg ?_))
    refine zM hs fun ac hs=>?_
    refine zM hs fun ac hs=>?_
    refine s_callM (i:=0) hs fu153 (.cons (hs.ev rfl) (.cons (hs.ev rfl) .nil)) rfl (sha_Write (k::flat (ps.take i)) ((ps.getD i (.nilIface,[])).2) ga rv _ (by simp only [List.length_cons]; omega) _ (hs.get (i:=0) rfl) ((hq.get hips).fr0 hs.fr) (hs.far (i:=0) rfl (hq.get hips))) rfl fun ac ww v21 hf hp hs=>?_
    obtain ⟨rv,h1,h2⟩:=hp
    replace hs:=hs (Ent.grp (hash ga rv ((k::flat (ps.take i))++((ps.getD i (.nilIface,[])).2)))) h1 (fun k hk=>⟨h2 k hk,grp_lt h1 k hk⟩)
    refine s_end ?_
    replace hs:=hs.sub (F':=[(4,_),(5,_),(7,_),(13,_),(14,_),(15,_),(16,_),(17,_),(18,_),(19,_),(20,_)]) ⟨rfl,rfl,rfl,rfl,rfl,rfl,rfl,rfl,rfl,rfl,rfl,trivial⟩
    refine blk_n (then_n (wp_reg ?_))
    refine s_q hs (c_addI (hs.ev rfl) (hs.ev rfl) (by omega) (by omega)) rfl fun ac hs=>?_
    refine zM hs fun ac hs=>?_
    refine s_end (then_n ?_)
    exact ⟨ps.length - (i + 1),by (try simp only); omega,(i + 1,rv),⟨by (try simp only); omega,rfl⟩,St.next hs ⟨rfl,rfl,rfl,rfl,rfl,trivial⟩ (by rw [flat_take ps i (by omega)]; rfl)⟩
  · try simp only [z1,z2,z3,z4,z5,z6,z7] at hc
    obtain rfl:i=ps.length:=by omega
    rw [flat_full] at hs
    refine wp_exit (then_e (then_e (blk_hit (then_n (wp_seq (wp_reg ?_))))))
    refine zM hs fun ac hs=>?_
    refine s_call hs fu155 (.cons (hs.ev rfl) .nil) (sha_HSum (k::flat ps) ga rv (by simp only [List.length_cons]; omega) _ (hash_get (hs.get (i:=0) rfl)).1 (hash_get (hs.get (i:=0) rfl)).2) rfl fun ac ww v24 hf hp hs=>?_
    obtain rfl:=hp
    replace hs:=hs [] (.nil _ _)
    refine s_call hs fu154 (.cons (hs.ev rfl) .nil) (mac_first _ (sum_length _) _) rfl fun ac ww v25 hf hp hs=>?_
    obtain rfl:=hp
    replace hs:=hs [] (.nil _ _)
    refine s_storeW (i:=1) hs ty36 rfl rfl rfl (by simp) (all_map_B _) (by simp) fun ww hs=>?_
    refine s_end ?_
    replace hs:=hs.sub (F':=[(4,_)]) ⟨rfl,trivial⟩
    refine then_n (wp_ret ?_)
    refine s_ret hs rfl (.cell (hs.tmp rfl) (run_loadA ty36 rfl (hs.seg (i:=1) rfl) (List.take_of_length_le (by simp)) (by simp)) .nil) rfl ⟨_,rfl,hs.fr,?_⟩
    rfl
end Go.Proofs.YtklajbdbnnceiaaGreat
end

section
/- Numbers as bytes. -/
namespace Go.Proofs.YtklajbdbnnceiaaGreat
namespace Sha
def num (x:UInt64) (s k:Nat):List UInt8:=List.replicate (s - k) 0++(be64 x).drop (8 - k)
theorem num_len (x:UInt64) (s k:Nat) (h:k≤s) (hs:s≤8):(num x s k).length=s:=by simp [num]; omega
theorem drop_back (x:UInt64):∀ k,k < 8→(be64 x).drop (8 - (k + 1))=(be64 x).getD (7 - k) 0::(be64 x).drop (8 - k)
  | 0,_=>rfl | 1,_=>rfl | 2,_=>rfl | 3,_=>rfl | 4,_=>rfl | 5,_=>rfl | 6,_=>rfl | 7,_=>rfl
  | k + 8,h=>absurd h (by omega)
theorem num_set (x:UInt64) (s k:Nat) (h:k < s) (hs:s≤8):(num x s k).set (s - 1 - k) ((be64 x).getD (7 - k) 0)=num x s (k + 1):=by
  have e:List.replicate (s - k) (0:UInt8)=List.replicate (s - 1 - k) 0++[0]:=by
    rw [show s - k=(s - 1 - k) + 1 from by omega,List.replicate_succ']
  rw [num,num,e,List.append_assoc,List.set_append_right _ _ (by simp),List.length_replicate,Nat.sub_self,drop_back x k (by omega),show s - (k + 1)=s - 1 - k from by omega]
  rfl
theorem num_zero (x:UInt64) (s:Nat) (hs:s≤8):num x s 0=List.replicate s 0:=by rw [num,List.drop_of_length_le (by simp)]; simp
theorem take_xor (c:UInt8) (l:List UInt8) (i:Nat) (h:i < l.length):(l.take (i + 1)).map (· ^^^ c)=(l.take i).map (· ^^^ c)++[l.getD i 0 ^^^ c]:=by
  rw [List.take_succ_eq_append_getElem h,List.map_append]
  have h2:l.getD i 0=l[i]:=by simp [List.getD,h]
  rw [h2]
  rfl
theorem upto_zero (l:List UInt8) (n:Nat):upto l n 0=List.replicate n 0:=by simp [upto]
theorem upto_long (k:List UInt8) (h:64 < k.length):upto (sum k) 64 32=keyB k:=by rw [keyB,if_pos h]; rfl
theorem upto_small (k:List UInt8) (h:¬ 64 < k.length):upto k 64 k.length=keyB k:=by rw [keyB,if_neg h,upto,List.take_length]
theorem upto_half (d:List UInt8):upto d 16 16=d.take 16:=by simp [upto]
end Sha
end Go.Proofs.YtklajbdbnnceiaaGreat
end

section
/- Short sums and numbers as the document has them. -/
namespace Go.Proofs.YtklajbdbnnceiaaGreat
open Go Go.Fw
open Sha
theorem flat1' (n:Nat):(List.replicate n [B 0]).flatten=(List.replicate n (0:UInt8)).map B:=by
  induction n with
  | zero=>rfl
  | succ n ih=>rw [List.replicate_succ,List.flatten_cons,ih,List.replicate_succ]; rfl
theorem ref05_Half (d:List UInt8) (hd:d.length=32) (w:World) :Ctr Tryz.prog 136 [.agg (d.map B).toArray] w (fun _=>False) (fun v _=>v=.agg ((d.take 16).map B).toArray):=by
  refine fn_start (N:=15) Tryz.func136 rfl rfl rfl fun ac hk=>?_
  have hs:=St.start hk w
  refine wp_seq (wp_reg ?_)
  refine s_box hs rfl rfl rfl fun ac ww g1 hs=>?_
  refine s_alloc hs ty35 rfl fun ac ww g2 hs=>?_
  refine s_end ?_
  replace hs:=hs.sub (F':=[(1,_),(2,_)]) ⟨rfl,rfl,trivial⟩
  refine then_n (wp_seq (wp_reg ?_))
  refine s_alloc hs ty35 rfl fun ac ww g3 hs=>?_
  refine s_end (then_n (wp_seq (wp_seq (wp_reg ?_))))
  refine zA hs fun ac hs=>?_
  refine s_end (then_n (wp_block ?_))
  refine s_loop hs (X:=Nat) (fun k=>[(4,I k)]) [(1,_),(2,_),(3,_)] (fun k=>[.seg g3 ((upto d 16 k).map B) 35,.seg g2 ((List.replicate 16 (0:UInt8)).map B) 35,.seg g1 (d.map B) 24]) (fun n k=>k≤16∧n=16 - k) (16) (0) (⟨Nat.zero_le _,rfl⟩) ⟨rfl,rfl,rfl,rfl,trivial⟩ (by rw [upto_zero]; try rfl) ?_
  rintro n k ac ww hok hs
  simp only [List.cons_append,List.nil_append] at hs
  obtain ⟨hk,rfl⟩:=hok
  have hz:=upto_len d 16 k hk (by omega)
  refine wp_seq (wp_seq (wp_reg ?_))
  refine zM hs fun ac hs=>?_
  refine s_q hs (c_lssI (hs.ev rfl) (hs.ev rfl)) rfl fun ac hs=>?_
  refine s_end (then_n ?_)
  refine s_cond hs rfl (fun hc=>?_) (fun hc=>?_)
  · try simp only [z1,z2,z3,z4,z5,z6,z7] at hc
    refine wp_skip (then_n (wp_seq (wp_block (wp_reg ?_))))
    refine zM hs fun ac hs=>?_
    refine zM hs fun ac hs=>?_
    refine s_q hs (c_idxA (j:=k) un24 ty5 (hs.ev rfl) (hs.ev rfl) (by omega) (by omega)) rfl fun ac hs=>?_
    refine s_q hs (c_loadS un5 rfl (hs.ev rfl) (hs.seg (i:=2) rfl) (map_get 0 (by omega))) rfl fun ac hs=>?_
    refine s_q hs (c_idxA (j:=k) un35 ty5 (hs.ev rfl) (hs.ev rfl) (by omega) (by omega)) rfl fun ac hs=>?_
    refine s_store (i:=0) hs ty5 rfl rfl rfl rfl rfl rfl (by rw [List.length_map]; omega) ((map_set _ (by omega)).trans (congrArg (List.map B) (upto_set _ _ k (by omega) (by omega)))) fun ww hs=>?_
    refine s_end (blk_n (then_n (wp_reg ?_)))
    refine zM hs fun ac hs=>?_
    refine s_q hs (c_addI (hs.ev rfl) (hs.ev rfl) (by omega) (by omega)) rfl fun ac hs=>?_
    refine zA hs fun ac hs=>?_
    refine s_end (then_n ?_)
    exact ⟨16 - (k + 1),by omega,k + 1,⟨by omega,rfl⟩,St.next hs ⟨rfl,rfl,rfl,rfl,trivial⟩ rfl⟩
  · try simp only [z1,z2,z3,z4,z5,z6,z7] at hc
    obtain rfl:k=16:=by omega
    rw [upto_half] at hs
    refine wp_exit (then_e (then_e (blk_hit (then_n (wp_seq (wp_reg ?_))))))
    refine s_q hs (c_loadW ty35 rfl (hs.ev rfl) (hs.seg (i:=0) rfl) (by simp [hd])) rfl fun ac hs=>?_
    refine s_storeW (i:=1) hs ty35 rfl rfl rfl (by simp [hd]) (all_map_B _) rfl fun ww hs=>?_
    refine s_end ?_
    replace hs:=hs.sub (F':=[(2,_)]) ⟨rfl,trivial⟩
    refine then_n (wp_ret ?_)
    refine s_ret hs rfl (.cell (hs.tmp rfl) (run_loadA ty35 rfl (hs.seg (i:=1) rfl) (List.take_of_length_le (by simp [hd])) (by simp [hd])) .nil) rfl ⟨_,rfl,hs.fr,?_⟩
    rfl
theorem ref05_Text (k:UInt8) (ps:List (Value × List UInt8)) (pv:Value) (hle:(flat ps).length≤140737488355200) (w:World) (hq:RdP w pv ps):Ctr Tryz.prog 142 [B k,pv] w (fun _=>False) (fun v w'=>∃ v',v=v'∧Has w.heap.size w' [.row v' (k::flat ps).length ((k::flat ps).map B) 5 1]):=by
  have hpl:=hq.1.le
  obtain ⟨pad_,pcap,rfl,hpc,hpm⟩:=hq.sl
  refine fn_start (N:=22) Tryz.func142 rfl rfl rfl fun ac hk=>?_
  have hs:=St.start hk w
  refine wp_seq (wp_reg ?_)
  refine zA hs fun ac hs=>?_
  refine s_end (then_n (wp_seq (wp_reg ?_)))
  refine zM hs fun ac hs=>?_
  refine s_bslice hs un177 ty5 (.cons (hs.ev rfl) .nil) rfl (by simp [Value.cells]) (by decide) rfl rfl fun ac ww g8 hs=>?_
  refine zA hs fun ac hs=>?_
  refine s_end ?_
  replace hs:=hs.segrow (i:=0) (n:=1) (sz:=1) rfl rfl (by decide)
  replace hs:=hs.sub (F':=[(1,_),(4,_),(5,_)]) ⟨rfl,rfl,rfl,trivial⟩
  refine then_n (wp_seq (wp_seq (wp_reg ?_)))
  refine zA hs fun ac hs=>?_
  refine s_end (then_n (wp_block ?_))
  refine s_loop hs (X:=Nat × Value) (fun x=>[(5,x.2),(6,I x.1)]) [(1,_),(4,_)] (fun x=>[.row x.2 (k::flat (ps.take x.1)).length ((k::flat (ps.take x.1)).map B) 5 1]) (fun n x=>x.1≤ps.length∧n=ps.length - x.1) (ps.length) ((0,_)) (⟨Nat.zero_le _,rfl⟩) ⟨rfl,rfl,rfl,rfl,trivial⟩ rfl ?_
  rintro n ⟨i,v⟩ ac ww hok hs
  simp only [List.cons_append,List.nil_append] at hs
  obtain ⟨hi,rfl⟩:=hok
  simp only at hi hs
  refine wp_seq (wp_seq (wp_reg ?_))
  refine zM hs fun ac hs=>?_
  refine zM hs fun ac hs=>?_
  refine s_q hs (c_lenS un87 (hs.ev rfl)) rfl fun ac hs=>?_
  refine s_q hs (c_lssI (hs.ev rfl) (hs.ev rfl)) rfl fun ac hs=>?_
  refine s_end (then_n ?_)
  refine s_cond hs rfl (fun hc=>?_) (fun hc=>?_)
  · try simp only [z1,z2,z3,z4,z5,z6,z7] at hc
    have hips:i < ps.length:=by omega
    obtain ⟨pb,po,pT,pf,pall,rfl,hpb,hps⟩:=hq.at' (by omega)
    have hfl:=flat_take_le ps i hips
    refine wp_skip (then_n (wp_seq (wp_block (wp_reg ?_))))
    refine zM hs fun ac hs=>?_
    refine zM hs fun ac hs=>?_
    refine zM hs fun ac hs=>?_
    refine s_q hs (c_idxS (j:=i) un87 ty177 (hs.ev rfl) (hs.ev rfl) (by omega) (by omega)) rfl fun ac hs=>?_
    refine s_q hs (c_loadS un177 rfl (hs.ev rfl) (hs.old hpb id) (seg_get (.nilIface,[]) hps (by omega))) rfl fun ac hs=>?_
    refine s_appB (i:=0) hs un177 ty5 rfl rfl rfl ((hq.get hips).fr0 hs.fr) (by simp only [List.length_cons]; omega) rfl fun ac ww v20 hf hnil hs=>?_
    refine zA hs fun ac hs=>?_
    refine s_end (blk_n (then_n (wp_reg ?_)))
    refine zM hs fun ac hs=>?_
    refine s_q hs (c_addI (hs.ev rfl) (hs.ev rfl) (by omega) (by omega)) rfl fun ac hs=>?_
    refine zA hs fun ac hs=>?_
    refine s_end (then_n ?_)
    exact ⟨ps.length - (i + 1),by (try simp only); omega,(i + 1,_),⟨by (try simp only); omega,rfl⟩,St.next hs ⟨rfl,rfl,rfl,rfl,trivial⟩ (by rw [flat_take ps i (by omega)]; rfl)⟩
  · try simp only [z1,z2,z3,z4,z5,z6,z7] at hc
    obtain rfl:i=ps.length:=by omega
    rw [flat_full] at hs
    refine wp_exit (then_e (then_e (blk_hit (then_n (wp_seq (wp_reg ?_))))))
    refine zM hs fun ac hs=>?_
    refine zA hs fun ac hs=>?_
    refine s_end ?_
    replace hs:=hs.sub (F':=[(4,_)]) ⟨rfl,trivial⟩
    refine then_n (wp_ret ?_)
    refine s_ret hs rfl (.tmp (hs.tmp rfl) .nil) rfl ⟨_,rfl,hs.fr,?_⟩
    exact ⟨_,rfl,hs.made⟩
theorem ref05_Short (k:UInt8) (ps:List (Value × List UInt8)) (pv:Value) (hle:(flat ps).length≤140737488355199) (w:World) (hq:RdP w pv ps):Ctr Tryz.prog 120 [B k,pv] w (fun _=>False) (fun v _=>v=.agg ((short k (flat ps)).map B).toArray):=by
  refine fn_start (N:=10) Tryz.func120 rfl rfl rfl fun ac hk=>?_
  have hs:=St.start hk w
  refine wp_seq (wp_reg ?_)
  refine s_alloc hs ty35 rfl fun ac ww g4 hs=>?_
  refine s_end (then_n (wp_seq (wp_reg ?_)))
  refine zM hs fun ac hs=>?_
  refine zM hs fun ac hs=>?_
  refine s_call hs fu142 (.cons (hs.ev rfl) (.cons (hs.ev rfl) .nil)) (ref05_Text k ps _ (by omega) _ (hq.fr0 hs.fr)) rfl fun ac ww v7 hf hp hs=>?_
  obtain ⟨qv,rfl,hh⟩:=hp
  replace hs:=hs _ hh
  refine s_call hs fu141 (.cons (hs.ev rfl) .nil) (ref04_Sum (k::flat ps) _ (by simp only [List.length_cons]; omega) _ (RdB.row (hs.get (i:=0) rfl))) rfl fun ac ww v8 hf hp hs=>?_
  obtain rfl:=hp
  replace hs:=hs [] (.nil _ _)
  refine s_call hs fu136 (.cons (hs.ev rfl) .nil) (ref05_Half _ (sum_length _) _) rfl fun ac ww v9 hf hp hs=>?_
  obtain rfl:=hp
  replace hs:=hs [] (.nil _ _)
  refine s_storeW (i:=1) hs ty35 rfl rfl rfl (by simp) (all_map_B _) (by simp) fun ww hs=>?_
  refine s_end ?_
  replace hs:=hs.sub (F':=[(4,_)]) ⟨rfl,trivial⟩
  refine then_n (wp_ret ?_)
  refine s_ret hs rfl (.cell (hs.tmp rfl) (run_loadA ty35 rfl (hs.seg (i:=1) rfl) (List.take_of_length_le (by simp)) (by simp)) .nil) rfl ⟨_,rfl,hs.fr,?_⟩
  rfl
theorem ref06_Of (k:UInt8) (p:List UInt8) (pv:Value) (hle:p.length≤140737488355199) (w:World) (hq:RdB w pv (k::p)):Ctr Tryz.prog 86 [pv] w (fun _=>False) (fun v _=>v=.agg ((short k p).map B).toArray):=by
  obtain ⟨pad_,pcap,rfl,hpc,hpm⟩:=hq.sl
  obtain ⟨pb,po,pT,pf,pall,rfl,hpb,hps⟩:=hq.at' (by simp)
  refine fn_start (N:=10) Tryz.func86 rfl rfl rfl fun ac hk=>?_
  have hs:=St.start hk w
  refine wp_seq (wp_reg ?_)
  refine s_alloc hs ty35 rfl fun ac ww g2 hs=>?_
  refine s_end (then_n (wp_seq ?_))
  refine wp_region_rg pmix 6 (by kernel_rfl) rfl hs ?_
  simp only [List.take_succ_cons,List.take_zero]
  refine rg_q (fun ac ww h=>c_move (h.ev rfl)) rfl ?_
  refine rg_q (fun ac ww h=>c_idxS un177 ty5 (h.ev rfl) (h.ev rfl) rfl (by simp)) rfl ?_
  refine rg_q (fun ac ww h=>c_loadS un5 rfl (h.ev rfl) (h.blk (hs.old hpb id)) (seg_get 0 hps (by simp))) rfl ?_
  refine rg_q (fun ac ww h=>c_move (h.ev rfl)) rfl ?_
  refine rg_q (fun ac ww h=>c_sliceL (i:=1) un177 ty5 (h.ev rfl) (h.ev rfl) (by omega) (by simp)) rfl ?_
  refine rg_bslice un87 ty177 (fun ac ww h=>(.cons (h.ev rfl) .nil)) rfl (by simp [Value.cells]) (by decide) rfl rfl ?_
  refine rg_nil fun ac ww L' hf hfe hs=>?_
  simp only [List.drop_succ_cons,List.drop_zero]
  obtain ⟨v8,L8,M8,h8,e8,rfl,rfl⟩:=hfe
  replace hs:=hs.add h8
  obtain ⟨g8,rfl,rfl⟩:=e8
  refine s_call hs fu120 (.cons (hs.ev rfl) (.cons (hs.ev rfl) .nil)) (ref05_Short k [(_,p)] _ (by simpa [flat] using hle) _ (RdP.seg (ps:=[(_,p)]) (hs.seg (i:=0) rfl) (by show 1≤maxLen; decide) (.cons ((RdB.cut (i:=1) hq (by simp)).fr0 hs.fr) .nil))) rfl fun ac ww v9 hf hp hs=>?_
  obtain rfl:=hp
  replace hs:=hs [] (.nil _ _)
  rw [show flat [(_,p)]=p from List.append_nil p] at hs
  refine s_storeW (i:=1) hs ty35 rfl rfl rfl (by simp) (all_map_B _) (by simp) fun ww hs=>?_
  refine s_end ?_
  replace hs:=hs.sub (F':=[(2,_)]) ⟨rfl,trivial⟩
  refine then_n (wp_ret ?_)
  refine s_ret hs rfl (.cell (hs.tmp rfl) (run_loadA ty35 rfl (hs.seg (i:=1) rfl) (List.take_of_length_le (by simp)) (by simp)) .nil) rfl ⟨_,rfl,hs.fr,?_⟩
  rfl
theorem ref05_Num (x:UInt64) (s:Nat) (hs8:s≤8) (w:World) :Ctr Tryz.prog 109 [V x,I s] w (fun _=>False) (fun v w'=>∃ g,v=.slice (some ⟨g,0,none⟩) s s∧Has w.heap.size w' [.seg g ((num x s s).map B) 5]):=by
  refine fn_start (N:=24) Tryz.func109 rfl rfl rfl fun ac hk=>?_
  have hs:=St.start hk w
  refine wp_seq (wp_reg ?_)
  refine zA hs fun ac hs=>?_
  refine s_end (then_n (wp_seq (wp_reg ?_)))
  refine zM hs fun ac hs=>?_
  refine s_make (n:=s) hs un177 ty5 rfl rfl rfl rfl (by omega) (by unfold maxLen; omega) rfl fun ac ww g8 hs=>?_
  refine zA hs fun ac hs=>?_
  refine s_end ?_
  replace hs:=hs.sub (F':=[(0,_),(1,_),(4,_),(5,_)]) ⟨rfl,rfl,rfl,rfl,trivial⟩
  refine then_n (wp_seq (wp_seq (wp_reg ?_)))
  refine zM hs fun ac hs=>?_
  refine s_q hs (c_subI (hs.ev rfl) (hs.ev rfl) (by omega) (by omega)) rfl fun ac hs=>?_
  refine zA hs fun ac hs=>?_
  refine s_end ?_
  replace hs:=hs.sub (F':=[(0,_),(4,_),(5,_),(6,_)]) ⟨rfl,rfl,rfl,rfl,trivial⟩
  refine then_n (wp_block ?_)
  refine s_loop hs (X:=Nat) (fun k=>[(0,V (qd x k)),(6,I ((s:Int) - 1 - (k:Int)))]) [(4,_),(5,_)] (fun k=>[.seg g8 ((num x s k).map B) 5]) (fun n k=>k≤s∧n=s - k) (s) (0) (⟨Nat.zero_le _,rfl⟩) ⟨rfl,(congrArg (fun z=>some (I z)) (by omega)),rfl,rfl,trivial⟩ (by rw [num_zero _ _ hs8,flat1']; try rfl) ?_
  rintro n k ac ww hok hs
  simp only [List.cons_append,List.nil_append] at hs
  obtain ⟨hk,rfl⟩:=hok
  have hz:=num_len x s k hk hs8
  refine wp_seq (wp_seq (wp_reg ?_))
  refine zM hs fun ac hs=>?_
  refine s_q hs (c_geqI (hs.ev rfl) (hs.ev rfl)) rfl fun ac hs=>?_
  refine s_end (then_n ?_)
  refine s_cond hs rfl (fun hc=>?_) (fun hc=>?_)
  · try simp only [z1,z2,z3,z4,z5,z6,z7] at hc
    refine wp_skip (then_n (wp_seq (wp_block (wp_seq (wp_reg ?_)))))
    refine zM hs fun ac hs=>?_
    refine zM hs fun ac hs=>?_
    refine zM hs fun ac hs=>?_
    refine s_q hs (c_remV (hs.ev rfl) (St.ev (v:=V 256) hs rfl) (by decide)) rfl fun ac hs=>?_
    refine s_q hs (c_cvVB un124 un5 (hs.ev rfl)) rfl fun ac hs=>?_
    refine s_q hs (c_idxS (j:=s - 1 - k) un177 ty5 (hs.ev rfl) (hs.ev rfl) (by omega) (by omega)) rfl fun ac hs=>?_
    refine s_store (i:=0) hs ty5 rfl rfl rfl rfl rfl rfl (by rw [List.length_map]; omega) ((map_set _ (by omega)).trans (congrArg (List.map B) ((congrArg (fun z=>List.set _ _ z) (qd_byte _ k (by omega))).trans (num_set x s k (by omega) hs8)))) fun ww hs=>?_
    refine s_end (then_n (wp_reg ?_))
    refine zM hs fun ac hs=>?_
    refine s_q hs (c_quoV (hs.ev rfl) (St.ev (v:=V 256) hs rfl) (by decide)) rfl fun ac hs=>?_
    refine zA hs fun ac hs=>?_
    refine s_end (blk_n (then_n (wp_reg ?_)))
    refine zM hs fun ac hs=>?_
    refine s_q hs (c_subI (hs.ev rfl) (hs.ev rfl) (by omega) (by omega)) rfl fun ac hs=>?_
    refine zA hs fun ac hs=>?_
    refine s_end (then_n ?_)
    exact ⟨s - (k + 1),by omega,k + 1,⟨by omega,rfl⟩,St.next hs ⟨rfl,(congrArg (fun z=>some (I z)) (by omega)),rfl,rfl,trivial⟩ rfl⟩
  · try simp only [z1,z2,z3,z4,z5,z6,z7] at hc
    obtain rfl:k=s:=by omega
    refine wp_exit (then_e (then_e (blk_hit (then_n (wp_seq (wp_reg ?_))))))
    refine zM hs fun ac hs=>?_
    refine zA hs fun ac hs=>?_
    refine s_end ?_
    replace hs:=hs.sub (F':=[(4,_)]) ⟨rfl,trivial⟩
    refine then_n (wp_ret ?_)
    refine s_ret hs rfl (.tmp (hs.tmp rfl) .nil) rfl ⟨_,rfl,hs.fr,?_⟩
    exact ⟨g8,rfl,hs.made⟩
end Go.Proofs.YtklajbdbnnceiaaGreat
end

section
/- Keyed sums as the document has them. -/
namespace Go.Proofs.YtklajbdbnnceiaaGreat
open Go Go.Fw
open Sha
theorem ref05_Mac (k p:List UInt8) (kv pv:Value) (hkl:k.length≤140737488355200) (hle:p.length≤140737488355136) (w:World) (hqk:RdB w kv k) (hqp:RdB w pv p):Ctr Tryz.prog 137 [kv,pv] w (fun _=>False) (fun v _=>v=.agg ((hmac k p).map B).toArray):=by
  obtain ⟨kad,kcap,rfl,hkc,hkm⟩:=Rd.sl hqk
  refine fn_start (N:=65) Tryz.func137 rfl rfl rfl fun ac hk=>?_
  have hs:=St.start hk w
  refine wp_seq (wp_reg ?_)
  refine s_alloc hs ty24 rfl fun ac ww g4 hs=>?_
  refine s_end (then_n (wp_seq (wp_reg ?_)))
  refine s_alloc hs ty255 rfl fun ac ww g5 hs=>?_
  refine s_end (then_n (wp_seq (wp_seq (wp_reg ?_))))
  refine zM hs fun ac hs=>?_
  refine s_q hs (c_lenS un177 (hs.ev rfl)) rfl fun ac hs=>?_
  refine s_q hs (c_gtrI (hs.ev rfl) (hs.ev rfl)) rfl fun ac hs=>?_
  refine s_end ?_
  replace hs:=hs.sub (F':=[(0,_),(1,_),(4,_),(5,_),(15,_)]) ⟨rfl,rfl,rfl,rfl,rfl,trivial⟩
  refine then_n ?_
  refine s_cond hs rfl (fun hc=>?_) (fun hc=>?_)
  · try simp only [z1,z2,z3,z4,z5,z6,z7] at hc
    refine wp_seq (wp_reg ?_)
    refine zM hs fun ac hs=>?_
    refine s_call hs fu141 (.cons (hs.ev rfl) .nil) (ref04_Sum k _ hkl _ (hqk.fr0 hs.fr)) rfl fun ac ww v17 hf hp hs=>?_
    obtain rfl:=hp
    replace hs:=hs [] (.nil _ _)
    refine s_alloc hs ty24 rfl fun ac ww g6 hs=>?_
    refine s_storeW (i:=0) hs ty24 rfl rfl rfl (by simp) (all_map_B _) (by simp) fun ww hs=>?_
    refine s_end ?_
    replace hs:=hs.sub (F':=[(0,_),(1,_),(4,_),(5,_),(6,_)]) ⟨rfl,rfl,rfl,rfl,rfl,trivial⟩
    refine then_n (wp_seq (wp_reg ?_))
    refine zA hs fun ac hs=>?_
    refine s_end (then_n (wp_block ?_))
    refine s_loop hs (X:=Nat) (fun j=>[(7,I j)]) [(0,_),(1,_),(4,_),(5,_),(6,_)] (fun j=>[.seg g6 ((sum k).map B) 24,.seg g5 ((upto (sum k) 64 j).map B) 255,.seg g4 ((List.replicate 32 (0:UInt8)).map B) 24]) (fun n j=>j≤32∧n=32 - j) (32) (0) (⟨Nat.zero_le _,rfl⟩) ⟨rfl,rfl,rfl,rfl,rfl,rfl,trivial⟩ (by rw [upto_zero]; try rfl) ?_
    rintro n j ac ww hok hs
    simp only [List.cons_append,List.nil_append] at hs
    obtain ⟨hj,rfl⟩:=hok
    have hsl:=sum_length k
    have hz:=upto_len (sum k) 64 j (by omega) (by omega)
    refine wp_seq (wp_seq (wp_reg ?_))
    refine zM hs fun ac hs=>?_
    refine s_q hs (c_lssI (hs.ev rfl) (hs.ev rfl)) rfl fun ac hs=>?_
    refine s_end (then_n ?_)
    refine s_cond hs rfl (fun hc=>?_) (fun hc=>?_)
    · try simp only [z1,z2,z3,z4,z5,z6,z7] at hc
      refine wp_skip (then_n (wp_seq (wp_block (wp_reg ?_))))
      refine zM hs fun ac hs=>?_
      refine zM hs fun ac hs=>?_
      refine s_q hs (c_idxA (j:=j) un24 ty5 (hs.ev rfl) (hs.ev rfl) (by omega) (by omega)) rfl fun ac hs=>?_
      refine s_q hs (c_loadS un5 rfl (hs.ev rfl) (hs.seg (i:=0) rfl) (map_get 0 (by omega))) rfl fun ac hs=>?_
      refine s_q hs (c_idxA (j:=j) un255 ty5 (hs.ev rfl) (hs.ev rfl) (by omega) (by omega)) rfl fun ac hs=>?_
      refine s_store (i:=1) hs ty5 rfl rfl rfl rfl rfl rfl (by rw [List.length_map]; omega) ((map_set _ (by omega)).trans (congrArg (List.map B) (upto_set _ _ j (by omega) (by omega)))) fun ww hs=>?_
      refine s_end (blk_n (then_n (wp_reg ?_)))
      refine zM hs fun ac hs=>?_
      refine s_q hs (c_addI (hs.ev rfl) (hs.ev rfl) (by omega) (by omega)) rfl fun ac hs=>?_
      refine zA hs fun ac hs=>?_
      refine s_end (then_n ?_)
      exact ⟨32 - (j + 1),by omega,j + 1,⟨by omega,rfl⟩,St.next hs ⟨rfl,rfl,rfl,rfl,rfl,rfl,trivial⟩ rfl⟩
    · try simp only [z1,z2,z3,z4,z5,z6,z7] at hc
      obtain rfl:j=32:=by omega
      rw [upto_long k (by omega)] at hs
      replace hs:=hs.pick (L':=[_,_]) (.cons _ (.refl _))
      refine wp_exit (then_e (then_e (blk_hit (then_n (wp_seq (wp_reg ?_))))))
      refine zA hs fun ac hs=>?_
      refine zA hs fun ac hs=>?_
      refine s_end ?_
      replace hs:=(hs.nilrow 5 1).nilrow 5 1
      replace hs:=hs.sub (F':=[(1,_),(4,_),(5,_),(9,_),(10,_)]) ⟨rfl,rfl,rfl,rfl,rfl,trivial⟩
      refine then_n (wp_seq (wp_seq (wp_reg ?_)))
      refine zA hs fun ac hs=>?_
      refine s_end (then_n (wp_block ?_))
      refine s_loop hs (X:=Nat × Value × Value) (fun x=>[(9,x.2.1),(10,x.2.2),(11,I x.1)]) [(1,_),(4,_),(5,_)] (fun x=>[.row x.2.1 (((keyB k).take x.1).map (· ^^^ 0x36)).length ((((keyB k).take x.1).map (· ^^^ 0x36)).map B) 5 1,.row x.2.2 (((keyB k).take x.1).map (· ^^^ 0x5c)).length ((((keyB k).take x.1).map (· ^^^ 0x5c)).map B) 5 1,.seg g5 ((keyB k).map B) 255,.seg g4 ((List.replicate 32 (0:UInt8)).map B) 24]) (fun n x=>x.1≤64∧n=64 - x.1) (64) ((0,_,_)) (⟨Nat.zero_le _,rfl⟩) ⟨rfl,rfl,rfl,rfl,rfl,rfl,trivial⟩ rfl ?_
      rintro n ⟨i,v,u⟩ ac ww hok hs
      simp only [List.cons_append,List.nil_append] at hs
      obtain ⟨hi,rfl⟩:=hok
      simp only at hi hs
      have hkb:=keyB_length k
      refine wp_seq (wp_seq (wp_reg ?_))
      refine zM hs fun ac hs=>?_
      refine s_q hs (c_lssI (hs.ev rfl) (hs.ev rfl)) rfl fun ac hs=>?_
      refine s_end (then_n ?_)
      refine s_cond hs rfl (fun hc=>?_) (fun hc=>?_)
      · try simp only [z1,z2,z3,z4,z5,z6,z7] at hc
        refine wp_skip (then_n (wp_seq (wp_block (wp_seq (wp_reg ?_)))))
        refine zM hs fun ac hs=>?_
        refine zM hs fun ac hs=>?_
        refine s_q hs (c_idxA (j:=i) un255 ty5 (hs.ev rfl) (hs.ev rfl) (by omega) (by omega)) rfl fun ac hs=>?_
        refine s_q hs (c_loadS un5 rfl (hs.ev rfl) (hs.seg (i:=2) rfl) (map_get 0 (by omega))) rfl fun ac hs=>?_
        refine s_q hs (c_xorB (hs.ev rfl) (St.ev (v:=B 54) hs rfl)) rfl fun ac hs=>?_
        refine s_bslice hs un177 ty5 (.cons (hs.ev rfl) .nil) rfl (by simp [Value.cells]) (by decide) rfl rfl fun ac ww g48 hs=>?_
        refine s_appB (i:=1) hs un177 ty5 rfl rfl rfl (RdB.seg (l:=[_]) (hs.seg (i:=0) rfl) (by show 1≤maxLen; decide)) (by simp; omega) rfl fun ac ww v49 hf hnil hs=>?_
        replace hs:=hs.pick (L':=[_,_,_,_]) (.cons _ (.refl _))
        refine zA hs fun ac hs=>?_
        refine s_end (then_n (wp_reg ?_))
        refine zM hs fun ac hs=>?_
        refine zM hs fun ac hs=>?_
        refine s_q hs (c_idxA (j:=i) un255 ty5 (hs.ev rfl) (hs.ev rfl) (by omega) (by omega)) rfl fun ac hs=>?_
        refine s_q hs (c_loadS un5 rfl (hs.ev rfl) (hs.seg (i:=2) rfl) (map_get 0 (by omega))) rfl fun ac hs=>?_
        refine s_q hs (c_xorB (hs.ev rfl) (St.ev (v:=B 92) hs rfl)) rfl fun ac hs=>?_
        refine s_bslice hs un177 ty5 (.cons (hs.ev rfl) .nil) rfl (by simp [Value.cells]) (by decide) rfl rfl fun ac ww g55 hs=>?_
        refine s_appB (i:=2) hs un177 ty5 rfl rfl rfl (RdB.seg (l:=[_]) (hs.seg (i:=0) rfl) (by show 1≤maxLen; decide)) (by simp; omega) rfl fun ac ww v56 hf hnil hs=>?_
        refine zA hs fun ac hs=>?_
        refine s_end (blk_n (then_n (wp_reg ?_)))
        refine zM hs fun ac hs=>?_
        refine s_q hs (c_addI (hs.ev rfl) (hs.ev rfl) (by omega) (by omega)) rfl fun ac hs=>?_
        refine zA hs fun ac hs=>?_
        refine s_end (then_n ?_)
        replace hs:=hs.pick (L':=[_,_,_,_]) (.cons _ (.refl _))
        exact ⟨64 - (i + 1),by (try simp only); omega,(i + 1,_,_),⟨by (try simp only); omega,rfl⟩,St.next hs ⟨rfl,rfl,rfl,rfl,rfl,rfl,trivial⟩ (by simp only [take_xor _ _ i (show i < (keyB k).length by omega)]; try rfl)⟩
      · try simp only [z1,z2,z3,z4,z5,z6,z7] at hc
        obtain rfl:i=64:=by omega
        rw [List.take_of_length_le (by omega)] at hs
        refine wp_exit (then_e (then_e (blk_hit (then_n (wp_seq (wp_reg ?_))))))
        refine zM hs fun ac hs=>?_
        refine zM hs fun ac hs=>?_
        refine s_appB (i:=0) hs un177 ty5 rfl rfl rfl (hqp.fr0 hs.fr) (by rw [List.length_map,hkb]; omega) rfl fun ac ww v59 hf hnil hs=>?_
        refine s_call hs fu141 (.cons (hs.ev rfl) .nil) (ref04_Sum (((keyB k).map (· ^^^ 0x36))++p) _ (by rw [List.length_append,List.length_map,hkb]; omega) _ (RdB.row (hs.get (i:=0) rfl))) rfl fun ac ww v60 hf hp hs=>?_
        obtain rfl:=hp
        replace hs:=hs [] (.nil _ _)
        refine s_alloc hs ty24 rfl fun ac ww g12 hs=>?_
        refine s_storeW (i:=0) hs ty24 rfl rfl rfl (by simp) (all_map_B _) (by simp) fun ww hs=>?_
        refine s_end ?_
        replace hs:=hs.sub (F':=[(4,_),(10,_),(12,_)]) ⟨rfl,rfl,rfl,trivial⟩
        refine then_n (wp_seq (wp_reg ?_))
        refine zM hs fun ac hs=>?_
        refine s_q hs (c_sliceA un24 ty5 (hs.ev rfl)) rfl fun ac hs=>?_
        refine s_appB (i:=2) hs un177 ty5 rfl rfl rfl (RdB.segn (l:=sum (((keyB k).map (· ^^^ 0x36))++p)) (hs.seg (i:=0) rfl) (sum_length _) (by decide)) (by rw [List.length_map,hkb,sum_length]; decide) rfl fun ac ww v63 hf hnil hs=>?_
        refine s_call hs fu141 (.cons (hs.ev rfl) .nil) (ref04_Sum (((keyB k).map (· ^^^ 0x5c))++sum (((keyB k).map (· ^^^ 0x36))++p)) _ (by rw [List.length_append,List.length_map,hkb,sum_length]; decide) _ (RdB.row (hs.get (i:=2) rfl))) rfl fun ac ww v64 hf hp hs=>?_
        obtain rfl:=hp
        replace hs:=hs [] (.nil _ _)
        refine s_storeW (i:=4) hs ty24 rfl rfl rfl (by simp) (all_map_B _) (by simp) fun ww hs=>?_
        refine s_end ?_
        replace hs:=hs.sub (F':=[(4,_)]) ⟨rfl,trivial⟩
        refine then_n (wp_ret ?_)
        refine s_ret hs rfl (.cell (hs.tmp rfl) (run_loadA ty24 rfl (hs.seg (i:=4) rfl) (List.take_of_length_le (by simp)) (by simp)) .nil) rfl ⟨_,rfl,hs.fr,?_⟩
        rfl
  · try simp only [z1,z2,z3,z4,z5,z6,z7] at hc
    refine wp_seq (wp_reg ?_)
    refine zA hs fun ac hs=>?_
    refine s_end ?_
    replace hs:=hs.sub (F':=[(0,_),(1,_),(4,_),(5,_),(8,_)]) ⟨rfl,rfl,rfl,rfl,rfl,trivial⟩
    refine then_n (wp_block ?_)
    refine s_loop hs (X:=Nat) (fun j=>[(8,I j)]) [(0,_),(1,_),(4,_),(5,_)] (fun j=>[.seg g5 ((upto k 64 j).map B) 255,.seg g4 ((List.replicate 32 (0:UInt8)).map B) 24]) (fun n j=>j≤k.length∧n=k.length - j) (k.length) (0) (⟨Nat.zero_le _,rfl⟩) ⟨rfl,rfl,rfl,rfl,rfl,trivial⟩ (by rw [upto_zero]; try rfl) ?_
    rintro n j ac ww hok hs
    simp only [List.cons_append,List.nil_append] at hs
    obtain ⟨hj,rfl⟩:=hok
    have hz:=upto_len k 64 j (by omega) (by omega)
    refine wp_seq (wp_seq (wp_reg ?_))
    refine zM hs fun ac hs=>?_
    refine zM hs fun ac hs=>?_
    refine s_q hs (c_lenS un177 (hs.ev rfl)) rfl fun ac hs=>?_
    refine s_q hs (c_lssI (hs.ev rfl) (hs.ev rfl)) rfl fun ac hs=>?_
    refine s_end (then_n ?_)
    refine s_cond hs rfl (fun hc=>?_) (fun hc=>?_)
    · try simp only [z1,z2,z3,z4,z5,z6,z7] at hc
      obtain ⟨pb,po,pT,pf,pall,rfl,hpb,hps⟩:=hqk.at' (by omega)
      refine wp_skip (then_n (wp_seq (wp_block (wp_reg ?_))))
      refine zM hs fun ac hs=>?_
      refine zM hs fun ac hs=>?_
      refine zM hs fun ac hs=>?_
      refine s_q hs (c_idxS (j:=j) un177 ty5 (hs.ev rfl) (hs.ev rfl) (by omega) (by omega)) rfl fun ac hs=>?_
      refine s_q hs (c_loadS un5 rfl (hs.ev rfl) (hs.old hpb id) (seg_get 0 hps (by omega))) rfl fun ac hs=>?_
      refine s_q hs (c_idxA (j:=j) un255 ty5 (hs.ev rfl) (hs.ev rfl) (by omega) (by omega)) rfl fun ac hs=>?_
      refine s_store (i:=0) hs ty5 rfl rfl rfl rfl rfl rfl (by rw [List.length_map]; omega) ((map_set _ (by omega)).trans (congrArg (List.map B) (upto_set _ _ j (by omega) (by omega)))) fun ww hs=>?_
      refine s_end (blk_n (then_n (wp_reg ?_)))
      refine zM hs fun ac hs=>?_
      refine s_q hs (c_addI (hs.ev rfl) (hs.ev rfl) (by omega) (by omega)) rfl fun ac hs=>?_
      refine zA hs fun ac hs=>?_
      refine s_end (then_n ?_)
      exact ⟨k.length - (j + 1),by omega,j + 1,⟨by omega,rfl⟩,St.next hs ⟨rfl,rfl,rfl,rfl,rfl,trivial⟩ rfl⟩
    · try simp only [z1,z2,z3,z4,z5,z6,z7] at hc
      obtain rfl:j=k.length:=by omega
      rw [upto_small k (by omega)] at hs
      refine wp_exit (then_e (then_e (blk_hit (then_n (wp_seq (wp_reg ?_))))))
      refine zA hs fun ac hs=>?_
      refine zA hs fun ac hs=>?_
      refine s_end ?_
      replace hs:=(hs.nilrow 5 1).nilrow 5 1
      replace hs:=hs.sub (F':=[(1,_),(4,_),(5,_),(9,_),(10,_)]) ⟨rfl,rfl,rfl,rfl,rfl,trivial⟩
      refine then_n (wp_seq (wp_seq (wp_reg ?_)))
      refine zA hs fun ac hs=>?_
      refine s_end (then_n (wp_block ?_))
      refine s_loop hs (X:=Nat × Value × Value) (fun x=>[(9,x.2.1),(10,x.2.2),(11,I x.1)]) [(1,_),(4,_),(5,_)] (fun x=>[.row x.2.1 (((keyB k).take x.1).map (· ^^^ 0x36)).length ((((keyB k).take x.1).map (· ^^^ 0x36)).map B) 5 1,.row x.2.2 (((keyB k).take x.1).map (· ^^^ 0x5c)).length ((((keyB k).take x.1).map (· ^^^ 0x5c)).map B) 5 1,.seg g5 ((keyB k).map B) 255,.seg g4 ((List.replicate 32 (0:UInt8)).map B) 24]) (fun n x=>x.1≤64∧n=64 - x.1) (64) ((0,_,_)) (⟨Nat.zero_le _,rfl⟩) ⟨rfl,rfl,rfl,rfl,rfl,rfl,trivial⟩ rfl ?_
      rintro n ⟨i,v,u⟩ ac ww hok hs
      simp only [List.cons_append,List.nil_append] at hs
      obtain ⟨hi,rfl⟩:=hok
      simp only at hi hs
      have hkb:=keyB_length k
      refine wp_seq (wp_seq (wp_reg ?_))
      refine zM hs fun ac hs=>?_
      refine s_q hs (c_lssI (hs.ev rfl) (hs.ev rfl)) rfl fun ac hs=>?_
      refine s_end (then_n ?_)
      refine s_cond hs rfl (fun hc=>?_) (fun hc=>?_)
      · try simp only [z1,z2,z3,z4,z5,z6,z7] at hc
        refine wp_skip (then_n (wp_seq (wp_block (wp_seq (wp_reg ?_)))))
        refine zM hs fun ac hs=>?_
        refine zM hs fun ac hs=>?_
        refine s_q hs (c_idxA (j:=i) un255 ty5 (hs.ev rfl) (hs.ev rfl) (by omega) (by omega)) rfl fun ac hs=>?_
        refine s_q hs (c_loadS un5 rfl (hs.ev rfl) (hs.seg (i:=2) rfl) (map_get 0 (by omega))) rfl fun ac hs=>?_
        refine s_q hs (c_xorB (hs.ev rfl) (St.ev (v:=B 54) hs rfl)) rfl fun ac hs=>?_
        refine s_bslice hs un177 ty5 (.cons (hs.ev rfl) .nil) rfl (by simp [Value.cells]) (by decide) rfl rfl fun ac ww g48 hs=>?_
        refine s_appB (i:=1) hs un177 ty5 rfl rfl rfl (RdB.seg (l:=[_]) (hs.seg (i:=0) rfl) (by show 1≤maxLen; decide)) (by simp; omega) rfl fun ac ww v49 hf hnil hs=>?_
        replace hs:=hs.pick (L':=[_,_,_,_]) (.cons _ (.refl _))
        refine zA hs fun ac hs=>?_
        refine s_end (then_n (wp_reg ?_))
        refine zM hs fun ac hs=>?_
        refine zM hs fun ac hs=>?_
        refine s_q hs (c_idxA (j:=i) un255 ty5 (hs.ev rfl) (hs.ev rfl) (by omega) (by omega)) rfl fun ac hs=>?_
        refine s_q hs (c_loadS un5 rfl (hs.ev rfl) (hs.seg (i:=2) rfl) (map_get 0 (by omega))) rfl fun ac hs=>?_
        refine s_q hs (c_xorB (hs.ev rfl) (St.ev (v:=B 92) hs rfl)) rfl fun ac hs=>?_
        refine s_bslice hs un177 ty5 (.cons (hs.ev rfl) .nil) rfl (by simp [Value.cells]) (by decide) rfl rfl fun ac ww g55 hs=>?_
        refine s_appB (i:=2) hs un177 ty5 rfl rfl rfl (RdB.seg (l:=[_]) (hs.seg (i:=0) rfl) (by show 1≤maxLen; decide)) (by simp; omega) rfl fun ac ww v56 hf hnil hs=>?_
        refine zA hs fun ac hs=>?_
        refine s_end (blk_n (then_n (wp_reg ?_)))
        refine zM hs fun ac hs=>?_
        refine s_q hs (c_addI (hs.ev rfl) (hs.ev rfl) (by omega) (by omega)) rfl fun ac hs=>?_
        refine zA hs fun ac hs=>?_
        refine s_end (then_n ?_)
        replace hs:=hs.pick (L':=[_,_,_,_]) (.cons _ (.refl _))
        exact ⟨64 - (i + 1),by (try simp only); omega,(i + 1,_,_),⟨by (try simp only); omega,rfl⟩,St.next hs ⟨rfl,rfl,rfl,rfl,rfl,rfl,trivial⟩ (by simp only [take_xor _ _ i (show i < (keyB k).length by omega)]; try rfl)⟩
      · try simp only [z1,z2,z3,z4,z5,z6,z7] at hc
        obtain rfl:i=64:=by omega
        rw [List.take_of_length_le (by omega)] at hs
        refine wp_exit (then_e (then_e (blk_hit (then_n (wp_seq (wp_reg ?_))))))
        refine zM hs fun ac hs=>?_
        refine zM hs fun ac hs=>?_
        refine s_appB (i:=0) hs un177 ty5 rfl rfl rfl (hqp.fr0 hs.fr) (by rw [List.length_map,hkb]; omega) rfl fun ac ww v59 hf hnil hs=>?_
        refine s_call hs fu141 (.cons (hs.ev rfl) .nil) (ref04_Sum (((keyB k).map (· ^^^ 0x36))++p) _ (by rw [List.length_append,List.length_map,hkb]; omega) _ (RdB.row (hs.get (i:=0) rfl))) rfl fun ac ww v60 hf hp hs=>?_
        obtain rfl:=hp
        replace hs:=hs [] (.nil _ _)
        refine s_alloc hs ty24 rfl fun ac ww g12 hs=>?_
        refine s_storeW (i:=0) hs ty24 rfl rfl rfl (by simp) (all_map_B _) (by simp) fun ww hs=>?_
        refine s_end ?_
        replace hs:=hs.sub (F':=[(4,_),(10,_),(12,_)]) ⟨rfl,rfl,rfl,trivial⟩
        refine then_n (wp_seq (wp_reg ?_))
        refine zM hs fun ac hs=>?_
        refine s_q hs (c_sliceA un24 ty5 (hs.ev rfl)) rfl fun ac hs=>?_
        refine s_appB (i:=2) hs un177 ty5 rfl rfl rfl (RdB.segn (l:=sum (((keyB k).map (· ^^^ 0x36))++p)) (hs.seg (i:=0) rfl) (sum_length _) (by decide)) (by rw [List.length_map,hkb,sum_length]; decide) rfl fun ac ww v63 hf hnil hs=>?_
        refine s_call hs fu141 (.cons (hs.ev rfl) .nil) (ref04_Sum (((keyB k).map (· ^^^ 0x5c))++sum (((keyB k).map (· ^^^ 0x36))++p)) _ (by rw [List.length_append,List.length_map,hkb,sum_length]; decide) _ (RdB.row (hs.get (i:=2) rfl))) rfl fun ac ww v64 hf hp hs=>?_
        obtain rfl:=hp
        replace hs:=hs [] (.nil _ _)
        refine s_storeW (i:=4) hs ty24 rfl rfl rfl (by simp) (all_map_B _) (by simp) fun ww hs=>?_
        refine s_end ?_
        replace hs:=hs.sub (F':=[(4,_)]) ⟨rfl,trivial⟩
        refine then_n (wp_ret ?_)
        refine s_ret hs rfl (.cell (hs.tmp rfl) (run_loadA ty24 rfl (hs.seg (i:=4) rfl) (List.take_of_length_le (by simp)) (by simp)) .nil) rfl ⟨_,rfl,hs.fr,?_⟩
        rfl
theorem ref05_Tag (k p:List UInt8) (kv pv:Value) (hkl:k.length≤140737488355200) (hle:p.length≤140737488355136) (w:World) (hqk:RdB w kv k) (hqp:RdB w pv p):Ctr Tryz.prog 110 [kv,pv] w (fun _=>False) (fun v _=>v=.agg ((tag k p).map B).toArray):=by
  refine fn_start (N:=9) Tryz.func110 rfl rfl rfl fun ac hk=>?_
  have hs:=St.start hk w
  refine wp_seq (wp_reg ?_)
  refine s_alloc hs ty35 rfl fun ac ww g4 hs=>?_
  refine s_end (then_n (wp_seq (wp_reg ?_)))
  refine zM hs fun ac hs=>?_
  refine zM hs fun ac hs=>?_
  refine s_call hs fu137 (.cons (hs.ev rfl) (.cons (hs.ev rfl) .nil)) (ref05_Mac k p _ _ hkl hle _ (hqk.fr0 hs.fr) (hqp.fr0 hs.fr)) rfl fun ac ww v7 hf hp hs=>?_
  obtain rfl:=hp
  replace hs:=hs [] (.nil _ _)
  refine s_call hs fu136 (.cons (hs.ev rfl) .nil) (ref05_Half (hmac k p) (hmac_length k p) _) rfl fun ac ww v8 hf hp hs=>?_
  obtain rfl:=hp
  replace hs:=hs [] (.nil _ _)
  refine s_storeW (i:=0) hs ty35 rfl rfl rfl (by simp) (all_map_B _) (by simp) fun ww hs=>?_
  refine s_end ?_
  replace hs:=hs.sub (F':=[(4,_)]) ⟨rfl,trivial⟩
  refine then_n (wp_ret ?_)
  refine s_ret hs rfl (.cell (hs.tmp rfl) (run_loadA ty35 rfl (hs.seg (i:=0) rfl) (List.take_of_length_le (by simp)) (by simp)) .nil) rfl ⟨_,rfl,hs.fr,?_⟩
  rfl
theorem mac_number (x:UInt64) (w:World) :Ctr Tryz.prog 149 [V x] w (fun _=>False) (fun v w'=>∃ v',v=v'∧Has w.heap.size w' [.row v' (be64 x).length ((be64 x).map B) 5 1]):=by
  generalize hxy:x=y
  refine fn_start (N:=17) Tryz.func149 rfl rfl rfl fun ac hk=>?_
  have hs:=St.start hk w
  refine wp_seq (wp_reg ?_)
  refine zA hs fun ac hs=>?_
  refine s_end (then_n (wp_seq (wp_reg ?_)))
  refine zA hs fun ac hs=>?_
  refine s_end ?_
  replace hs:=hs.nilrow 5 1
  refine then_n (wp_seq (wp_seq (wp_reg ?_)))
  refine zA hs fun ac hs=>?_
  refine s_end (then_n (wp_block ?_))
  refine s_loop hs (X:=Nat × Value) (fun x=>[(3,x.2),(4,I (56 - 8 * (x.1:Int)))]) [(0,_),(2,_)] (fun x=>[.row x.2 ((be64 y).take x.1).length (((be64 y).take x.1).map B) 5 1]) (fun n x=>x.1≤8∧n=8 - x.1) (8) ((0,_)) (⟨Nat.zero_le _,rfl⟩) ⟨rfl,rfl,rfl,rfl,trivial⟩ rfl ?_
  rintro n ⟨k,v⟩ ac ww hok hs
  simp only [List.cons_append,List.nil_append] at hs
  obtain ⟨hk,rfl⟩:=hok
  simp only at hk hs
  refine wp_seq (wp_seq (wp_reg ?_))
  refine zM hs fun ac hs=>?_
  refine s_q hs (c_geqI (hs.ev rfl) (hs.ev rfl)) rfl fun ac hs=>?_
  refine s_end (then_n ?_)
  refine s_cond hs rfl (fun hc=>?_) (fun hc=>?_)
  · try simp only [z1,z2,z3,z4,z5,z6,z7] at hc
    refine wp_skip (then_n (wp_seq (wp_block (wp_reg ?_))))
    refine zM hs fun ac hs=>?_
    refine zM hs fun ac hs=>?_
    refine zM hs fun ac hs=>?_
    refine s_q hs (c_shrV (n:=56 - 8 * k) (hs.ev rfl) ((hs.ev rfl).trans (congrArg I (by omega))) (by omega)) rfl fun ac hs=>?_
    refine s_q hs (c_cvVB un124 un5 (hs.ev rfl)) rfl fun ac hs=>?_
    refine s_bslice hs un177 ty5 (.cons (hs.ev rfl) .nil) rfl (by simp [Value.cells]) (by decide) rfl rfl fun ac ww g14 hs=>?_
    refine s_appB (i:=1) hs un177 ty5 rfl rfl rfl (RdB.seg (l:=[_]) (hs.seg (i:=0) rfl) (by show 1≤maxLen; decide)) (by simp; omega) rfl fun ac ww v15 hf hnil hs=>?_
    refine zA hs fun ac hs=>?_
    refine s_end (blk_n (then_n (wp_reg ?_)))
    refine zM hs fun ac hs=>?_
    refine s_q hs (c_subI (hs.ev rfl) (hs.ev rfl) (by omega) (by omega)) rfl fun ac hs=>?_
    refine zA hs fun ac hs=>?_
    refine s_end (then_n ?_)
    replace hs:=hs.pick (L':=[_]) (.cons _ (.refl _))
    exact ⟨8 - (k + 1),by (try simp only); omega,(k + 1,_),⟨by (try simp only); omega,rfl⟩,St.next hs ⟨rfl,(congrArg (fun z=>some (I z)) (by omega)),rfl,rfl,trivial⟩ (by rw [be64_take _ k (by omega)]; try rfl)⟩
  · try simp only [z1,z2,z3,z4,z5,z6,z7] at hc
    obtain rfl:k=8:=by omega
    rw [List.take_of_length_le (by simp)] at hs
    refine wp_exit (then_e (then_e (blk_hit (then_n (wp_seq (wp_reg ?_))))))
    refine zM hs fun ac hs=>?_
    refine zA hs fun ac hs=>?_
    refine s_end ?_
    replace hs:=hs.sub (F':=[(2,_)]) ⟨rfl,trivial⟩
    refine then_n (wp_ret ?_)
    refine s_ret hs rfl (.tmp (hs.tmp rfl) .nil) rfl ⟨_,rfl,hs.fr,?_⟩
    exact ⟨_,rfl,hs.made⟩
end Go.Proofs.YtklajbdbnnceiaaGreat
end

section
/- What a seed gives. -/
namespace Go.Proofs.YtklajbdbnnceiaaGreat
open Go Go.Fw
open Sha
theorem i8_nat (n:Nat):i8 (n:Int)=UInt8.ofNat n:=by
  apply UInt8.toNat_inj.1
  have h:=i8_toNat (n:Int)
  rw [UInt8.toNat_ofNat']
  omega
theorem i8_mod (n:Nat):i8 ((n:Int) % 256)=UInt8.ofNat n:=by
  apply UInt8.toNat_inj.1
  have h:=i8_toNat ((n:Int) % 256)
  rw [UInt8.toNat_ofNat']
  omega
theorem nums_succ (nums:List UInt64) (i:Nat) (h:i < nums.length):(nums.take (i + 1)).flatMap be64=(nums.take i).flatMap be64++be64 (nums.getD i 0):=by
  rw [List.take_succ_eq_append_getElem h,List.flatMap_append]
  have h2:nums.getD i 0=nums[i]:=by simp [List.getD,h]
  rw [h2]
  simp
theorem nums_len (nums:List UInt64):(nums.flatMap be64).length=8 * nums.length:=by
  induction nums with
  | nil=>rfl
  | cons x t ih=>rw [List.flatMap_cons,List.length_append,ih,be64_length,List.length_cons]; omega
theorem mac_Prf (seed:List UInt8) (kind:UInt8) (nums:List UInt64) (nv:Value) (hsd:seed.length=32) (hle:nums.length≤17592186044000) (w:World) (hq:RdV w nv nums):Ctr Tryz.prog 131 [.agg (seed.map B).toArray,B kind,nv] w (fun _=>False) (fun v _=>v=.agg ((prf seed kind nums).map B).toArray):=by
  have hpl:=hq.le
  obtain ⟨nad,ncap,rfl,hnc,hnm⟩:=hq.sl
  refine fn_start (N:=29) Tryz.func131 rfl rfl rfl fun ac hk=>?_
  have hs:=St.start hk w
  refine wp_seq (wp_reg ?_)
  refine s_box hs rfl rfl rfl fun ac ww g3 hs=>?_
  refine s_alloc hs ty36 rfl fun ac ww g6 hs=>?_
  refine s_end ?_
  replace hs:=hs.sub (F':=[(1,_),(2,_),(3,_),(6,_)]) ⟨rfl,rfl,rfl,rfl,trivial⟩
  refine then_n (wp_seq (wp_reg ?_))
  refine zM hs fun ac hs=>?_
  refine zM hs fun ac hs=>?_
  refine s_q hs (c_lenS un155 (hs.ev rfl)) rfl fun ac hs=>?_
  refine s_q hs (c_cvIB un3 un5 (hs.ev rfl)) rfl fun ac hs=>?_
  refine s_bslice hs un177 ty5 (.cons (hs.ev rfl) (.cons (hs.ev rfl) .nil)) rfl (by simp [Value.cells]) (by decide) rfl rfl fun ac ww g14 hs=>?_
  refine zA hs fun ac hs=>?_
  refine s_end ?_
  replace hs:=(hs.segrow (i:=0) (n:=2) (sz:=1) rfl rfl (by decide)).toL (show _=[.row _ (kind::UInt8.ofNat nums.length::(nums.take 0).flatMap be64).length ((kind::UInt8.ofNat nums.length::(nums.take 0).flatMap be64).map B) 5 1,_,_] from by rw [i8_nat]; rfl)
  replace hs:=hs.sub (F':=[(2,_),(3,_),(6,_),(7,_)]) ⟨rfl,rfl,rfl,rfl,trivial⟩
  refine then_n (wp_seq (wp_seq (wp_reg ?_)))
  refine zM hs fun ac hs=>?_
  refine s_q hs (c_lenS un155 (hs.ev rfl)) rfl fun ac hs=>?_
  refine zM hs fun ac hs=>?_
  refine s_end ?_
  replace hs:=hs.sub (F':=[(3,_),(6,_),(7,_),(15,_),(16,_),(17,_)]) ⟨rfl,rfl,rfl,rfl,rfl,rfl,trivial⟩
  refine then_n (wp_block ?_)
  refine s_loop hs (X:=Nat × Value) (fun x=>[(7,x.2),(17,I x.1)]) [(3,_),(6,_),(15,_),(16,_)] (fun x=>[.row x.2 (kind::UInt8.ofNat nums.length::(nums.take x.1).flatMap be64).length ((kind::UInt8.ofNat nums.length::(nums.take x.1).flatMap be64).map B) 5 1,.seg g6 ((List.replicate 16 (0:UInt8)).map B) 36,.seg g3 (seed.map B) 129]) (fun n x=>x.1≤nums.length∧n=nums.length - x.1) (nums.length) ((0,_)) (⟨Nat.zero_le _,rfl⟩) ⟨rfl,rfl,rfl,rfl,rfl,rfl,trivial⟩ rfl ?_
  rintro n ⟨i,v⟩ ac ww hok hs
  simp only [List.cons_append,List.nil_append] at hs
  obtain ⟨hi,rfl⟩:=hok
  simp only at hi hs
  have hnl:((nums.take i).flatMap be64).length=8 * i:=by rw [nums_len,List.length_take]; omega
  refine wp_seq (wp_reg ?_)
  refine s_q hs (c_lssI (hs.ev rfl) (hs.ev rfl)) rfl fun ac hs=>?_
  refine s_end (then_n (wp_seq ?_))
  refine s_cond hs rfl (fun hc=>?_) (fun hc=>?_)
  · try simp only [z1,z2,z3,z4,z5,z6,z7] at hc
    obtain ⟨pb,po,pT,pf,pall,rfl,hpb,hps⟩:=hq.at' (by omega)
    refine wp_skip (then_n (wp_seq (wp_block (wp_seq (wp_reg ?_)))))
    refine s_q hs (c_idxS (j:=i) un155 ty124 (hs.ev rfl) (hs.ev rfl) (by omega) (by omega)) rfl fun ac hs=>?_
    refine s_q hs (c_loadS un124 rfl (hs.ev rfl) (hs.old hpb id) (seg_get 0 hps (by omega))) rfl fun ac hs=>?_
    refine zA hs fun ac hs=>?_
    refine s_end (then_n (wp_reg ?_))
    refine zM hs fun ac hs=>?_
    refine zM hs fun ac hs=>?_
    refine s_call hs fu149 (.cons (hs.ev rfl) .nil) (mac_number _ _) rfl fun ac ww v23 hf hp hs=>?_
    obtain ⟨qv,rfl,hh⟩:=hp
    replace hs:=hs _ hh
    refine s_appB (i:=1) hs un177 ty5 rfl rfl rfl (RdB.row (hs.get (i:=0) rfl)) (by simp only [List.length_cons,hnl,be64_length]; omega) rfl fun ac ww v24 hf hnil hs=>?_
    refine zA hs fun ac hs=>?_
    refine s_end (blk_n (then_n (wp_reg ?_)))
    refine s_q hs (c_addI (hs.ev rfl) (hs.ev rfl) (by omega) (by omega)) rfl fun ac hs=>?_
    refine zM hs fun ac hs=>?_
    refine s_end (then_n ?_)
    replace hs:=hs.pick (L':=[_,_,_]) (.cons _ (.refl _))
    exact ⟨nums.length - (i + 1),by (try simp only); omega,(i + 1,_),⟨by (try simp only); omega,rfl⟩,St.next hs ⟨rfl,rfl,rfl,rfl,rfl,rfl,trivial⟩ (by rw [nums_succ nums i (by omega)]; rfl)⟩
  · try simp only [z1,z2,z3,z4,z5,z6,z7] at hc
    obtain rfl:i=nums.length:=by omega
    rw [List.take_length] at hs hnl
    refine wp_exit (then_e (then_e (blk_hit (then_n (wp_seq (wp_reg ?_))))))
    refine s_q hs (c_sliceA un129 ty5 (hs.ev rfl)) rfl fun ac hs=>?_
    refine zM hs fun ac hs=>?_
    refine s_call hs fu150 (.cons (hs.ev rfl) (.cons (hs.ev rfl) .nil)) (mac_Tag seed (kind::UInt8.ofNat nums.length::nums.flatMap be64) _ _ (by omega) (by simp only [List.length_cons,hnl]; omega) _ (RdB.segn (l:=seed) (hs.seg (i:=2) rfl) hsd (by decide)) (RdB.row (hs.get (i:=0) rfl))) rfl fun ac ww v28 hf hp hs=>?_
    obtain rfl:=hp
    replace hs:=hs [] (.nil _ _)
    refine s_storeW (i:=1) hs ty36 rfl rfl rfl (by simp) (all_map_B _) (by simp) fun ww hs=>?_
    refine s_end ?_
    replace hs:=hs.sub (F':=[(6,_)]) ⟨rfl,trivial⟩
    refine then_n (wp_ret ?_)
    refine s_ret hs rfl (.cell (hs.tmp rfl) (run_loadA ty36 rfl (hs.seg (i:=1) rfl) (List.take_of_length_le (by simp)) (by simp)) .nil) rfl ⟨_,rfl,hs.fr,?_⟩
    rfl
theorem ref05_Prf (seed:List UInt8) (kind:UInt8) (nums:List UInt64) (nv:Value) (hsd:seed.length=32) (hle:nums.length≤17592186044000) (w:World) (hq:RdV w nv nums):Ctr Tryz.prog 70 [.agg (seed.map B).toArray,B kind,nv] w (fun _=>False) (fun v _=>v=.agg ((prf seed kind nums).map B).toArray):=by
  have hpl:=hq.le
  obtain ⟨nad,ncap,rfl,hnc,hnm⟩:=hq.sl
  refine fn_start (N:=31) Tryz.func70 rfl rfl rfl fun ac hk=>?_
  have hs:=St.start hk w
  refine wp_seq (wp_reg ?_)
  refine s_box hs rfl rfl rfl fun ac ww g3 hs=>?_
  refine s_alloc hs ty35 rfl fun ac ww g6 hs=>?_
  refine s_end ?_
  replace hs:=hs.sub (F':=[(1,_),(2,_),(3,_),(6,_)]) ⟨rfl,rfl,rfl,rfl,trivial⟩
  refine then_n (wp_seq (wp_reg ?_))
  refine zM hs fun ac hs=>?_
  refine zM hs fun ac hs=>?_
  refine s_q hs (c_lenS un155 (hs.ev rfl)) rfl fun ac hs=>?_
  refine s_q hs (c_remI (hs.ev rfl) (hs.ev rfl) (by omega) (by omega)) rfl fun ac hs=>?_
  refine s_q hs (c_cvIB un3 un5 (hs.ev rfl)) rfl fun ac hs=>?_
  refine s_bslice hs un177 ty5 (.cons (hs.ev rfl) (.cons (hs.ev rfl) .nil)) rfl (by simp [Value.cells]) (by decide) rfl rfl fun ac ww g14 hs=>?_
  refine zA hs fun ac hs=>?_
  refine s_end ?_
  replace hs:=(hs.segrow (i:=0) (n:=2) (sz:=1) rfl rfl (by decide)).toL (show _=[.row _ (kind::UInt8.ofNat nums.length::(nums.take 0).flatMap be64).length ((kind::UInt8.ofNat nums.length::(nums.take 0).flatMap be64).map B) 5 1,_,_] from by rw [i8_mod]; rfl)
  replace hs:=hs.sub (F':=[(2,_),(3,_),(6,_),(7,_)]) ⟨rfl,rfl,rfl,rfl,trivial⟩
  refine then_n (wp_seq (wp_seq (wp_reg ?_)))
  refine zA hs fun ac hs=>?_
  refine s_end (then_n (wp_block ?_))
  refine s_loop hs (X:=Nat × Value) (fun x=>[(7,x.2),(8,I x.1)]) [(2,_),(3,_),(6,_)] (fun x=>[.row x.2 (kind::UInt8.ofNat nums.length::(nums.take x.1).flatMap be64).length ((kind::UInt8.ofNat nums.length::(nums.take x.1).flatMap be64).map B) 5 1,.seg g6 ((List.replicate 16 (0:UInt8)).map B) 35,.seg g3 (seed.map B) 24]) (fun n x=>x.1≤nums.length∧n=nums.length - x.1) (nums.length) ((0,_)) (⟨Nat.zero_le _,rfl⟩) ⟨rfl,rfl,rfl,rfl,rfl,trivial⟩ rfl ?_
  rintro n ⟨i,v⟩ ac ww hok hs
  simp only [List.cons_append,List.nil_append] at hs
  obtain ⟨hi,rfl⟩:=hok
  simp only at hi hs
  have hnl:((nums.take i).flatMap be64).length=8 * i:=by rw [nums_len,List.length_take]; omega
  refine wp_seq (wp_seq (wp_reg ?_))
  refine zM hs fun ac hs=>?_
  refine zM hs fun ac hs=>?_
  refine s_q hs (c_lenS un155 (hs.ev rfl)) rfl fun ac hs=>?_
  refine s_q hs (c_lssI (hs.ev rfl) (hs.ev rfl)) rfl fun ac hs=>?_
  refine s_end (then_n ?_)
  refine s_cond hs rfl (fun hc=>?_) (fun hc=>?_)
  · try simp only [z1,z2,z3,z4,z5,z6,z7] at hc
    obtain ⟨pb,po,pT,pf,pall,rfl,hpb,hps⟩:=hq.at' (by omega)
    refine wp_skip (then_n (wp_seq (wp_block (wp_reg ?_))))
    refine zM hs fun ac hs=>?_
    refine zM hs fun ac hs=>?_
    refine zM hs fun ac hs=>?_
    refine s_q hs (c_idxS (j:=i) un155 ty124 (hs.ev rfl) (hs.ev rfl) (by omega) (by omega)) rfl fun ac hs=>?_
    refine s_q hs (c_loadS un124 rfl (hs.ev rfl) (hs.old hpb id) (seg_get 0 hps (by omega))) rfl fun ac hs=>?_
    refine s_call hs fu109 (.cons (hs.ev rfl) (.cons (hs.ev rfl) .nil)) (ref05_Num _ 8 (by omega) _) rfl fun ac ww v26 hf hp hs=>?_
    obtain ⟨gn,rfl,hh⟩:=hp
    replace hs:=hs _ hh
    refine s_appB (i:=1) hs un177 ty5 rfl rfl rfl (RdB.segn (l:=be64 _) (hs.seg (i:=0) rfl) (be64_length _) (by decide)) (by simp only [List.length_cons,hnl,be64_length]; omega) rfl fun ac ww v27 hf hnil hs=>?_
    refine zA hs fun ac hs=>?_
    refine s_end (blk_n (then_n (wp_reg ?_)))
    refine zM hs fun ac hs=>?_
    refine s_q hs (c_addI (hs.ev rfl) (hs.ev rfl) (by omega) (by omega)) rfl fun ac hs=>?_
    refine zA hs fun ac hs=>?_
    refine s_end (then_n ?_)
    replace hs:=hs.pick (L':=[_,_,_]) (.cons _ (.refl _))
    exact ⟨nums.length - (i + 1),by (try simp only); omega,(i + 1,_),⟨by (try simp only); omega,rfl⟩,St.next hs ⟨rfl,rfl,rfl,rfl,rfl,trivial⟩ (by rw [nums_succ nums i (by omega)]; rfl)⟩
  · try simp only [z1,z2,z3,z4,z5,z6,z7] at hc
    obtain rfl:i=nums.length:=by omega
    rw [List.take_length] at hs hnl
    refine wp_exit (then_e (then_e (blk_hit (then_n (wp_seq (wp_reg ?_))))))
    refine s_q hs (c_sliceA un24 ty5 (hs.ev rfl)) rfl fun ac hs=>?_
    refine zM hs fun ac hs=>?_
    refine s_call hs fu110 (.cons (hs.ev rfl) (.cons (hs.ev rfl) .nil)) (ref05_Tag seed (kind::UInt8.ofNat nums.length::nums.flatMap be64) _ _ (by omega) (by simp only [List.length_cons,hnl]; omega) _ (RdB.segn (l:=seed) (hs.seg (i:=2) rfl) hsd (by decide)) (RdB.row (hs.get (i:=0) rfl))) rfl fun ac ww v30 hf hp hs=>?_
    obtain rfl:=hp
    replace hs:=hs [] (.nil _ _)
    refine s_storeW (i:=1) hs ty35 rfl rfl rfl (by simp) (all_map_B _) (by simp) fun ww hs=>?_
    refine s_end ?_
    replace hs:=hs.sub (F':=[(6,_)]) ⟨rfl,trivial⟩
    refine then_n (wp_ret ?_)
    refine s_ret hs rfl (.cell (hs.tmp rfl) (run_loadA ty35 rfl (hs.seg (i:=1) rfl) (List.take_of_length_le (by simp)) (by simp)) .nil) rfl ⟨_,rfl,hs.fr,?_⟩
    rfl
end Go.Proofs.YtklajbdbnnceiaaGreat
end

section
/- The laws of the sums,walked. -/
namespace Go.Proofs.YtklajbdbnnceiaaGreat
open Go Go.Fw
open Sha
theorem RdB.segn {w:World} {g n:Nat} {T:TypeId} {l:List UInt8} (h:w.heap[g]?=some (.cells (l.map B).toArray T (0,0))) (hl:l.length=n) (hn:n≤maxLen):RdB w (.slice (some ⟨g,0,none⟩) n n) l:=by
  subst hl; exact RdB.seg h hn
end Go.Proofs.YtklajbdbnnceiaaGreat
end

section
/- Laws of keyed sums,walked. -/
namespace Go.Proofs.YtklajbdbnnceiaaGreat
open Go Go.Fw
open Sha
def what:List UInt8:=[119,104,97,116,32,100,111,32,121,97,32,119,97,110,116,32,102,111,114,32,110,111,116,104,105,110,103,63]
end Go.Proofs.YtklajbdbnnceiaaGreat
end

section
/- A message,its digits,and why of two unlike messages each has a lower digit. -/
namespace Go.Proofs.YtklajbdbnnceiaaGreat
/-! A message's digits. -/
namespace Ots
def dig (m:List UInt8) (i:Nat):UInt8:=m.getD (i / 4) 0 >>> UInt8.ofNat (6 - 2 * (i % 4)) &&& 3
def left (m:List UInt8):Nat→Nat
  | 0=>0
  | n + 1=>left m n + (3 - (dig m n).toNat)
/-! Of two unlike messages each has a lower digit. -/
end Ots
end Go.Proofs.YtklajbdbnnceiaaGreat
end

section
/- Names as bytes,links. -/
namespace Go.Proofs.YtklajbdbnnceiaaGreat
open Go Go.Fw
open Sha
theorem num4 (i:UInt32):num i.toUInt64 4 4=be32 i:=by
  have h:(be64 i.toUInt64).drop 4=be32 i:=by
    simp only [be64,be32,List.drop_succ_cons,List.drop_zero]
    have e1:∀ k:Nat,k < 32→(i.toUInt64 >>> UInt64.ofNat k).toUInt8=(i >>> UInt32.ofNat k).toUInt8:=fun k hk=>by
      apply UInt8.toNat_inj.1
      rw [UInt64.toNat_toUInt8,UInt32.toNat_toUInt8,UInt64.toNat_shiftRight,UInt32.toNat_shiftRight,UInt32.toNat_toUInt64,UInt64.toNat_ofNat',UInt32.toNat_ofNat']
      rw [show k % 2 ^ 64 % 64=k from by omega,show k % 2 ^ 32 % 32=k from by omega]
    have e2:i.toUInt64.toUInt8=i.toUInt8:=by
      apply UInt8.toNat_inj.1
      rw [UInt64.toNat_toUInt8,UInt32.toNat_toUInt8,UInt32.toNat_toUInt64]
    exact List.cons_eq_cons.2 ⟨e1 24 (by omega),List.cons_eq_cons.2 ⟨e1 16 (by omega),List.cons_eq_cons.2 ⟨e1 8 (by omega),List.cons_eq_cons.2 ⟨e2,rfl⟩⟩⟩⟩
  rw [← h]
  rfl
def segE (l:List UInt8):Value→List Ent→World→Prop:=fun v L _=>∃ g,v=.slice (some ⟨g,0,none⟩) l.length l.length∧L=[.seg g (l.map B) 5]
def rowE (l:List UInt8):Value→List Ent→World→Prop:=fun v L _=>L=[.row v l.length (l.map B) 5 1]
def outE (E:Value→List Ent→World→Prop) (w:World):Value→World→Prop:=fun v w'=>∃ L',E v L' w'∧Has w.heap.size w' L'
end Go.Proofs.YtklajbdbnnceiaaGreat
end

section
/- Chains of links,what is summed for them,how many blocks that takes. -/
namespace Go.Proofs.YtklajbdbnnceiaaGreat
open Go Go.Fw
open Sha Ots
theorem part_at {A s:List UInt8} {c:Nat} (hA:A.length=16 * c):(A++s.drop (16 * c)).drop (16 * c)=s.drop (16 * c):=by rw [List.drop_append_of_le_length (by omega),List.drop_of_length_le (by omega),List.nil_append]
theorem part_set {A s x:List UInt8} {c:Nat} (hA:A.length=16 * c):(A++s.drop (16 * c)).take (16 * c)++x++(A++s.drop (16 * c)).drop (16 * c + 16)=A++x++s.drop (16 * (c + 1)):=by
  rw [List.take_append_of_le_length (by omega),List.take_of_length_le (by omega),← List.drop_drop,part_at hA,List.drop_drop]
  rfl
theorem chunk_set {A s x:List UInt8} {c:Nat} (hA:A.length=16 * c):((A++s.drop (16 * c)).map B).take (0 + c * 16)++x.map B++((A++s.drop (16 * c)).map B).drop (0 + c * 16 + 16)=(A++x++s.drop (16 * (c + 1))).map B:=by
  rw [← part_set hA,Nat.zero_add,Nat.mul_comm c 16]
  simp only [List.map_append,List.map_take,List.map_drop]
theorem take_chunk (l:List UInt8) (k:Nat):l.take (16 * (k + 1))=l.take (16 * k)++chunk l k:=by
  rw [chunk,show 16 * (k + 1)=16 * k + 16 from by omega,List.take_add]
end Go.Proofs.YtklajbdbnnceiaaGreat
end

section
/- Rungs: what is summed for them,how many levels and blocks there are. -/
namespace Go.Proofs.YtklajbdbnnceiaaGreat
open Go Go.Fw
open Sha
def placeB (d:Int) (ep sq:UInt32) (r:Int):List UInt8:=i8 d::(be32 ep++be32 sq++[i8 r])
@[simp] theorem placeB_length (d:Int) (ep sq:UInt32) (r:Int):(placeB d ep sq r).length=10:=rfl
def leafX (d:Int) (ep sq:UInt32) (r:Int) (e:List UInt8) (id:Int):List UInt8:=76::(placeB d ep sq r++e++[i8 id])
def joinX (d:Int) (ep sq:UInt32) (r:Int) (a b:List UInt8):List UInt8:=74::(placeB d ep sq r++a++b)
theorem joinX_inj {d:Int} {ep sq:UInt32} {r:Int} {a b a' b':List UInt8} (ha:a.length=16) (ha':a'.length=16) (h:joinX d ep sq r a b=joinX d ep sq r a' b'):a=a'∧b=b':=by
  have h2:=(List.cons.inj h).2
  rw [List.append_assoc,List.append_assoc] at h2
  exact List.append_inj (List.append_cancel_left h2) (by omega)
def lJ (d:Int) (ep sq:UInt32) (r:Int) (_:Nat) (a b:List UInt8):List UInt8:=joinX d ep sq r a b
def lLeaf (d:Int) (ep sq:UInt32) (r:Int) (e:List UInt8) (id:Int):List UInt8:=ofT (leafX d ep sq r e id)
def lLf (d:Int) (ep sq:UInt32) (r:Int) (e:List UInt8) (q:Nat):List UInt8:=lLeaf d ep sq r e (q:Int)
def lLt (d:Int) (ep sq:UInt32) (r:Int) (e:List UInt8) (q:Nat):List (List UInt8):=[leafX d ep sq r e (q:Int)]
abbrev lNode (d:Int) (ep sq:UInt32) (r:Int) (e:List UInt8):Nat→Nat→List UInt8:=node (lJ d ep sq r) (lLf d ep sq r e)
abbrev lNodeTs (d:Int) (ep sq:UInt32) (r:Int) (e:List UInt8):Nat→Nat→List (List UInt8):=nodeTs (lJ d ep sq r) (lLf d ep sq r e) (lLt d ep sq r e)
def levels (w:Int):Int:=if w=1 then 0 else if w=2 then 1 else if w=4 then 2 else if w=8 then 3 else -1
theorem levels_cases (w:Int):(w=1∧levels w=0)∨(w=2∧levels w=1)∨(w=4∧levels w=2)∨(w=8∧levels w=3)∨(w ≠ 1∧w ≠ 2∧w ≠ 4∧w ≠ 8∧levels w=-1):=by
  unfold levels
  split
  · exact .inl ⟨by assumption,rfl⟩
  · split
    · exact .inr (.inl ⟨by assumption,rfl⟩)
    · split
      · exact .inr (.inr (.inl ⟨by assumption,rfl⟩))
      · split
        · exact .inr (.inr (.inr (.inl ⟨by assumption,rfl⟩)))
        · exact .inr (.inr (.inr (.inr ⟨by assumption,by assumption,by assumption,by assumption,rfl⟩)))
def rightB (r w:Int):Bool:=decide (0≤r) && decide (r≤15) && decide (0≤levels w)
end Go.Proofs.YtklajbdbnnceiaaGreat
end

section
/- Levels,places,leaves,joins. -/
namespace Go.Proofs.YtklajbdbnnceiaaGreat
open Go Go.Fw
open Sha
theorem levels_no {w:Int} (h:∀ j:Nat,j < 4→w ≠ 2 ^ j):levels w=-1:=by
  have h0:=h 0 (by omega)
  have h1:=h 1 (by omega)
  have h2:=h 2 (by omega)
  have h3:=h 3 (by omega)
  rcases levels_cases w with e | e | e | e | e
  · exact absurd e.1 (by simpa using h0)
  · exact absurd e.1 (by simpa using h1)
  · exact absurd e.1 (by simpa using h2)
  · exact absurd e.1 (by simpa using h3)
  · exact e.2.2.2.2
theorem levels_pow:∀ j:Nat,j < 4→levels (2 ^ j)=j
  | 0,_=>rfl | 1,_=>rfl | 2,_=>rfl | 3,_=>rfl | j + 4,h=>absurd h (by omega)
theorem pow_le8:∀ j:Nat,j < 4→(2:Int) ^ j≤8
  | 0,_=>by decide | 1,_=>by decide | 2,_=>by decide | 3,_=>by decide | j + 4,h=>absurd h (by omega)
theorem pow_pos (j:Nat):(0:Int) < 2 ^ j:=Int.pow_pos (by decide)
theorem ladder_Levels (x:Int) (w:World) :Ctr Tryz.prog 101 [I x] w (fun _=>False) (fun v _=>v=I (levels x)):=by
  refine fn_start (N:=13) Tryz.func101 rfl rfl rfl fun ac hk=>?_
  have hs:=St.start hk w
  refine wp_seq (wp_reg ?_)
  refine zA hs fun ac hs=>?_
  refine s_end (then_n (wp_seq (wp_seq (wp_reg ?_))))
  refine zM hs fun ac hs=>?_
  refine s_end (then_n (wp_block ?_))
  refine s_loop hs (X:=Nat) (fun k=>[(4,I k)]) [(0,_)] (fun _=>[]) (fun n k=>k≤4∧n=4 - k∧∀ j:Nat,j < k→x ≠ 2 ^ j) (_) (0) (⟨Nat.zero_le _,rfl,fun _ h=>absurd h (by omega)⟩) ⟨rfl,rfl,trivial⟩ rfl ?_
  rintro n k ac ww hok hs
  simp only [List.cons_append,List.nil_append] at hs
  obtain ⟨hk,rfl,hno⟩:=hok
  refine wp_seq (wp_reg ?_)
  refine s_q hs (c_lssI (hs.ev rfl) (hs.ev rfl)) rfl fun ac hs=>?_
  refine s_end (then_n (wp_seq ?_))
  refine s_cond hs rfl (fun hc=>?_) (fun hc=>?_)
  · try simp only [z1,z2,z3,z4,z5,z6,z7] at hc
    have hk4:k < 4:=by omega
    have hp8:=pow_le8 k hk4
    have hp0:=pow_pos k
    refine wp_skip (then_n (wp_seq (wp_block (wp_seq (wp_reg ?_)))))
    refine zM hs fun ac hs=>?_
    refine zA hs fun ac hs=>?_
    refine s_end (then_n (wp_seq (wp_reg ?_)))
    refine zM hs fun ac hs=>?_
    refine zM hs fun ac hs=>?_
    refine s_q hs (c_shlI (hs.ev rfl) (hs.ev rfl) (by omega) (by rw [Int.one_mul]; omega) (by rw [Int.one_mul]; omega)) rfl fun ac hs=>?_
    refine s_q hs (c_eqlI (hs.ev rfl) (hs.ev rfl)) rfl fun ac hs=>?_
    refine s_end (then_n ?_)
    refine s_cond hs rfl (fun hc=>?_) (fun hc=>?_)
    · try simp only [z1,z2,z3,z4,z5,z6,z7] at hc
      refine wp_seq (wp_reg ?_)
      refine zM hs fun ac hs=>?_
      refine zA hs fun ac hs=>?_
      refine s_end (then_n (wp_ret (blk_r (then_r (then_r (blk_r (then_r ?_)))))))
      refine s_ret hs rfl (.tmp (hs.tmp rfl) .nil) rfl ⟨_,rfl,hs.fr,?_⟩
      show I _=I _
      rw [hc,Int.one_mul,levels_pow k hk4]
    · try simp only [z1,z2,z3,z4,z5,z6,z7] at hc
      refine wp_skip (blk_n (then_n (wp_reg ?_)))
      refine s_q hs (c_addI (hs.ev rfl) (hs.ev rfl) (by omega) (by omega)) rfl fun ac hs=>?_
      refine zM hs fun ac hs=>?_
      refine s_end (then_n ?_)
      exact ⟨4 - (k + 1),by omega,k + 1,⟨by omega,rfl,fun j hj=>by
          by_cases e:j=k
          · subst e; exact fun e=>hc (by rw [e]; simp)
          · exact hno j (by omega)⟩,St.next hs ⟨rfl,rfl,trivial⟩ rfl⟩
  · try simp only [z1,z2,z3,z4,z5,z6,z7] at hc
    obtain rfl:k=4:=by omega
    refine wp_exit (then_e (then_e (blk_hit (then_n (wp_seq (wp_reg ?_))))))
    refine zA hs fun ac hs=>?_
    refine s_end ?_
    replace hs:=hs.sub (F':=[(2,_)]) ⟨rfl,trivial⟩
    refine then_n (wp_ret ?_)
    refine s_ret hs rfl (.tmp (hs.tmp rfl) .nil) rfl ⟨_,rfl,hs.fr,?_⟩
    show I _=I _
    rw [levels_no hno]
theorem ref06_Levels (x:Int) (w:World) :Ctr Tryz.prog 88 [I x] w (fun _=>False) (fun v _=>v=I (levels x)):=by
  refine fn_start (N:=12) Tryz.func88 rfl rfl rfl fun ac hk=>?_
  have hs:=St.start hk w
  refine wp_seq (wp_reg ?_)
  refine zA hs fun ac hs=>?_
  refine s_end (then_n (wp_seq (wp_seq (wp_reg ?_))))
  refine zM hs fun ac hs=>?_
  refine s_end ?_
  replace hs:=hs.sub (F':=[(2,_),(3,_)]) ⟨rfl,rfl,trivial⟩
  refine then_n (wp_block (wp_seq (wp_reg ?_)))
  refine s_q hs (c_eqlI (hs.ev rfl) (hs.ev rfl)) rfl fun ac hs=>?_
  refine zA hs fun ac hs=>?_
  refine s_end ?_
  replace hs:=hs.sub (F':=[(2,_),(3,_),(4,_)]) ⟨rfl,rfl,rfl,trivial⟩
  refine then_n ?_
  refine s_cond hs rfl (fun hc=>?_) (fun hc=>?_)
  · try simp only [z1,z2,z3,z4,z5,z6,z7] at hc
    refine wp_seq (wp_reg ?_)
    refine zA hs fun ac hs=>?_
    refine s_end ?_
    replace hs:=hs.sub (F':=[(2,_),(3,_)]) ⟨rfl,rfl,trivial⟩
    refine then_n (wp_ret (blk_r (then_r ?_)))
    refine s_ret hs rfl (.tmp (hs.tmp rfl) .nil) rfl ⟨_,rfl,hs.fr,?_⟩
    show I _=I _
    rw [hc]; rfl
  · try simp only [z1,z2,z3,z4,z5,z6,z7] at hc
    have n1:=hc
    refine wp_seq (wp_reg ?_)
    refine s_q hs (c_eqlI (hs.ev rfl) (hs.ev rfl)) rfl fun ac hs=>?_
    refine zA hs fun ac hs=>?_
    refine s_end ?_
    replace hs:=hs.sub (F':=[(2,_),(3,_),(6,_)]) ⟨rfl,rfl,rfl,trivial⟩
    refine then_n ?_
    refine s_cond hs rfl (fun hc=>?_) (fun hc=>?_)
    · try simp only [z1,z2,z3,z4,z5,z6,z7] at hc
      refine wp_seq (wp_reg ?_)
      refine zA hs fun ac hs=>?_
      refine s_end ?_
      replace hs:=hs.sub (F':=[(2,_),(3,_)]) ⟨rfl,rfl,trivial⟩
      refine then_n (wp_ret (blk_r (then_r ?_)))
      refine s_ret hs rfl (.tmp (hs.tmp rfl) .nil) rfl ⟨_,rfl,hs.fr,?_⟩
      show I _=I _
      rw [hc]; rfl
    · try simp only [z1,z2,z3,z4,z5,z6,z7] at hc
      have n2:=hc
      refine wp_seq (wp_reg ?_)
      refine s_q hs (c_eqlI (hs.ev rfl) (hs.ev rfl)) rfl fun ac hs=>?_
      refine zA hs fun ac hs=>?_
      refine s_end ?_
      replace hs:=hs.sub (F':=[(2,_),(3,_),(8,_)]) ⟨rfl,rfl,rfl,trivial⟩
      refine then_n ?_
      refine s_cond hs rfl (fun hc=>?_) (fun hc=>?_)
      · try simp only [z1,z2,z3,z4,z5,z6,z7] at hc
        refine wp_seq (wp_reg ?_)
        refine zA hs fun ac hs=>?_
        refine s_end ?_
        replace hs:=hs.sub (F':=[(2,_),(3,_)]) ⟨rfl,rfl,trivial⟩
        refine then_n (wp_ret (blk_r (then_r ?_)))
        refine s_ret hs rfl (.tmp (hs.tmp rfl) .nil) rfl ⟨_,rfl,hs.fr,?_⟩
        show I _=I _
        rw [hc]; rfl
      · try simp only [z1,z2,z3,z4,z5,z6,z7] at hc
        have n4:=hc
        refine wp_seq (wp_reg ?_)
        refine s_q hs (c_eqlI (hs.ev rfl) (hs.ev rfl)) rfl fun ac hs=>?_
        refine zA hs fun ac hs=>?_
        refine s_end ?_
        replace hs:=hs.sub (F':=[(2,_),(10,_)]) ⟨rfl,rfl,trivial⟩
        refine then_n ?_
        refine s_cond hs rfl (fun hc=>?_) (fun hc=>?_)
        · try simp only [z1,z2,z3,z4,z5,z6,z7] at hc
          refine wp_seq (wp_reg ?_)
          refine zA hs fun ac hs=>?_
          refine s_end ?_
          replace hs:=hs.sub (F':=[(2,_)]) ⟨rfl,trivial⟩
          refine then_n (wp_ret (blk_r (then_r ?_)))
          refine s_ret hs rfl (.tmp (hs.tmp rfl) .nil) rfl ⟨_,rfl,hs.fr,?_⟩
          show I _=I _
          rw [hc]; rfl
        · try simp only [z1,z2,z3,z4,z5,z6,z7] at hc
          refine wp_skip (blk_n (then_n (wp_seq (wp_reg ?_))))
          refine zA hs fun ac hs=>?_
          refine s_end ?_
          replace hs:=hs.sub (F':=[(2,_)]) ⟨rfl,trivial⟩
          refine then_n (wp_ret ?_)
          refine s_ret hs rfl (.tmp (hs.tmp rfl) .nil) rfl ⟨_,rfl,hs.fr,?_⟩
          show I _=I _
          rw [levels,if_neg n1,if_neg n2,if_neg n4,if_neg hc]
theorem ladder_right (r x:Int) (w:World) :Ctr Tryz.prog 114 [I r,I x] w (fun _=>False) (fun v _=>v=.bool (rightB r x)):=by
  refine fn_start (N:=16) Tryz.func114 rfl rfl rfl fun ac hk=>?_
  have hs:=St.start hk w
  refine wp_seq (wp_reg ?_)
  refine zA hs fun ac hs=>?_
  refine s_end (then_n (wp_seq (wp_reg ?_)))
  refine zM hs fun ac hs=>?_
  refine s_q hs (c_geqI (hs.ev rfl) (hs.ev rfl)) rfl fun ac hs=>?_
  refine zM hs fun ac hs=>?_
  refine s_g hs rfl rfl (fun hg=>c_move (hs.ev rfl)) rfl fun ac hs=>?_
  refine s_g hs rfl rfl (fun hg=>c_leqI (gev (hs.ev rfl) hg) (hs.ev rfl)) rfl fun ac hs=>?_
  refine s_q hs (c_and (hs.ev rfl) (hs.ev rfl)) rfl fun ac hs=>?_
  refine zM hs fun ac hs=>?_
  refine s_g hs rfl rfl (fun hg=>c_move (hs.ev rfl)) rfl fun ac hs=>?_
  refine s_gcall hs rfl rfl fu101 (fun hg=>(.cons (gev (hs.ev rfl) hg) .nil)) (fun hg=>ladder_Levels x _) rfl fun ac ww hf hs=>?_
  refine s_g hs rfl rfl (fun hg=>c_geqI (gev (hs.ev rfl) hg) (hs.ev rfl)) rfl fun ac hs=>?_
  refine s_q hs (c_and (hs.ev rfl) (hs.ev rfl)) rfl fun ac hs=>?_
  refine zA hs fun ac hs=>?_
  refine s_end ?_
  replace hs:=hs.sub (F':=[(4,_)]) ⟨rfl,trivial⟩
  refine then_n (wp_ret ?_)
  refine s_ret hs rfl (.tmp (hs.tmp rfl) .nil) rfl ⟨_,rfl,hs.fr,?_⟩
  rfl
theorem ref06_Right (r x:Int) (w:World) :Ctr Tryz.prog 116 [I r,I x] w (fun _=>False) (fun v _=>v=.bool (rightB r x)):=by
  refine fn_start (N:=16) Tryz.func116 rfl rfl rfl fun ac hk=>?_
  have hs:=St.start hk w
  refine wp_seq (wp_reg ?_)
  refine zA hs fun ac hs=>?_
  refine s_end (then_n (wp_seq (wp_reg ?_)))
  refine zM hs fun ac hs=>?_
  refine s_q hs (c_geqI (hs.ev rfl) (hs.ev rfl)) rfl fun ac hs=>?_
  refine zM hs fun ac hs=>?_
  refine s_g hs rfl rfl (fun hg=>c_move (hs.ev rfl)) rfl fun ac hs=>?_
  refine s_g hs rfl rfl (fun hg=>c_leqI (gev (hs.ev rfl) hg) (hs.ev rfl)) rfl fun ac hs=>?_
  refine s_q hs (c_and (hs.ev rfl) (hs.ev rfl)) rfl fun ac hs=>?_
  refine zM hs fun ac hs=>?_
  refine s_g hs rfl rfl (fun hg=>c_move (hs.ev rfl)) rfl fun ac hs=>?_
  refine s_gcall hs rfl rfl fu88 (fun hg=>(.cons (gev (hs.ev rfl) hg) .nil)) (fun hg=>ref06_Levels x _) rfl fun ac ww hf hs=>?_
  refine s_g hs rfl rfl (fun hg=>c_geqI (gev (hs.ev rfl) hg) (hs.ev rfl)) rfl fun ac hs=>?_
  refine s_q hs (c_and (hs.ev rfl) (hs.ev rfl)) rfl fun ac hs=>?_
  refine zA hs fun ac hs=>?_
  refine s_end ?_
  replace hs:=hs.sub (F':=[(4,_)]) ⟨rfl,trivial⟩
  refine then_n (wp_ret ?_)
  refine s_ret hs rfl (.tmp (hs.tmp rfl) .nil) rfl ⟨_,rfl,hs.fr,?_⟩
  rfl
theorem ladder_bytes (d:Int) (ep sq:UInt32) (r:Int) (w:World) :Ctr Tryz.prog 140 [.agg #[I d,U ep,U sq],I r] w (fun _=>False) (outE (segE (placeB d ep sq r)) w):=by
  refine fn_start (N:=41) Tryz.func140 rfl rfl rfl fun ac hk=>?_
  have hs:=St.start hk w
  refine wp_seq (wp_reg ?_)
  refine s_box hs rfl rfl rfl fun ac ww g2 hs=>?_
  refine zA hs fun ac hs=>?_
  refine s_end ?_
  replace hs:=hs.sub (F':=[(1,_),(2,_),(4,_)]) ⟨rfl,rfl,rfl,trivial⟩
  refine then_n (wp_seq (wp_reg ?_))
  refine s_q hs (c_fld fl165_0 (hs.ev rfl)) rfl fun ac hs=>?_
  refine s_q hs (c_loadS un3 rfl (hs.ev rfl) (hs.seg (i:=0) rfl) rfl) rfl fun ac hs=>?_
  refine s_q hs (c_cvIB un3 un5 (hs.ev rfl)) rfl fun ac hs=>?_
  refine s_q hs (c_fld fl165_1 (hs.ev rfl)) rfl fun ac hs=>?_
  refine s_q hs (c_loadS un25 rfl (hs.ev rfl) (hs.seg (i:=0) rfl) rfl) rfl fun ac hs=>?_
  refine s_q hs (c_shrU (hs.ev rfl) (hs.ev rfl) (by decide)) rfl fun ac hs=>?_
  refine s_q hs (c_cvUB un25 un5 (hs.ev rfl)) rfl fun ac hs=>?_
  refine s_q hs (c_fld fl165_1 (hs.ev rfl)) rfl fun ac hs=>?_
  refine s_q hs (c_loadS un25 rfl (hs.ev rfl) (hs.seg (i:=0) rfl) rfl) rfl fun ac hs=>?_
  refine s_q hs (c_shrU (hs.ev rfl) (hs.ev rfl) (by decide)) rfl fun ac hs=>?_
  refine s_q hs (c_cvUB un25 un5 (hs.ev rfl)) rfl fun ac hs=>?_
  refine s_q hs (c_fld fl165_1 (hs.ev rfl)) rfl fun ac hs=>?_
  refine s_q hs (c_loadS un25 rfl (hs.ev rfl) (hs.seg (i:=0) rfl) rfl) rfl fun ac hs=>?_
  refine s_q hs (c_shrU (hs.ev rfl) (hs.ev rfl) (by decide)) rfl fun ac hs=>?_
  refine s_q hs (c_cvUB un25 un5 (hs.ev rfl)) rfl fun ac hs=>?_
  refine s_q hs (c_fld fl165_1 (hs.ev rfl)) rfl fun ac hs=>?_
  refine s_q hs (c_loadS un25 rfl (hs.ev rfl) (hs.seg (i:=0) rfl) rfl) rfl fun ac hs=>?_
  refine s_q hs (c_cvUB un25 un5 (hs.ev rfl)) rfl fun ac hs=>?_
  refine s_q hs (c_fld fl165_2 (hs.ev rfl)) rfl fun ac hs=>?_
  refine s_q hs (c_loadS un25 rfl (hs.ev rfl) (hs.seg (i:=0) rfl) rfl) rfl fun ac hs=>?_
  refine s_q hs (c_shrU (hs.ev rfl) (hs.ev rfl) (by decide)) rfl fun ac hs=>?_
  refine s_q hs (c_cvUB un25 un5 (hs.ev rfl)) rfl fun ac hs=>?_
  refine s_q hs (c_fld fl165_2 (hs.ev rfl)) rfl fun ac hs=>?_
  refine s_q hs (c_loadS un25 rfl (hs.ev rfl) (hs.seg (i:=0) rfl) rfl) rfl fun ac hs=>?_
  refine s_q hs (c_shrU (hs.ev rfl) (hs.ev rfl) (by decide)) rfl fun ac hs=>?_
  refine s_q hs (c_cvUB un25 un5 (hs.ev rfl)) rfl fun ac hs=>?_
  refine s_q hs (c_fld fl165_2 (hs.ev rfl)) rfl fun ac hs=>?_
  refine s_q hs (c_loadS un25 rfl (hs.ev rfl) (hs.seg (i:=0) rfl) rfl) rfl fun ac hs=>?_
  refine s_q hs (c_shrU (hs.ev rfl) (hs.ev rfl) (by decide)) rfl fun ac hs=>?_
  refine s_q hs (c_cvUB un25 un5 (hs.ev rfl)) rfl fun ac hs=>?_
  refine s_q hs (c_fld fl165_2 (hs.ev rfl)) rfl fun ac hs=>?_
  refine s_q hs (c_loadS un25 rfl (hs.ev rfl) (hs.seg (i:=0) rfl) rfl) rfl fun ac hs=>?_
  refine s_q hs (c_cvUB un25 un5 (hs.ev rfl)) rfl fun ac hs=>?_
  refine zM hs fun ac hs=>?_
  refine s_q hs (c_cvIB un3 un5 (hs.ev rfl)) rfl fun ac hs=>?_
  refine s_bslice hs un177 ty5 (.cons (hs.ev rfl) (.cons (hs.ev rfl) (.cons (hs.ev rfl) (.cons (hs.ev rfl) (.cons (hs.ev rfl) (.cons (hs.ev rfl) (.cons (hs.ev rfl) (.cons (hs.ev rfl) (.cons (hs.ev rfl) (.cons (hs.ev rfl) .nil)))))))))) rfl (by simp [Value.cells]) (by decide) rfl rfl fun ac ww g40 hs=>?_
  refine zA hs fun ac hs=>?_
  refine s_end ?_
  replace hs:=hs.sub (F':=[(4,_)]) ⟨rfl,trivial⟩
  refine then_n (wp_ret ?_)
  refine s_ret hs rfl (.tmp (hs.tmp rfl) .nil) rfl ⟨_,rfl,hs.fr,?_⟩
  exact ⟨_,⟨_,rfl,rfl⟩,(hs.pick (L':=[_]) (.cons_cons _ (.cons _ .slnil))).made⟩
theorem ref06_Text (d:Int) (ep sq:UInt32) (r:Int) (w:World) :Ctr Tryz.prog 143 [.agg #[I d,U ep,U sq],I r] w (fun _=>False) (outE (rowE (placeB d ep sq r)) w):=by
  refine fn_start (N:=27) Tryz.func143 rfl rfl rfl fun ac hk=>?_
  have hs:=St.start hk w
  refine wp_seq (wp_reg ?_)
  refine s_box hs rfl rfl rfl fun ac ww g2 hs=>?_
  refine zA hs fun ac hs=>?_
  refine s_end ?_
  replace hs:=hs.sub (F':=[(1,_),(2,_),(4,_)]) ⟨rfl,rfl,rfl,trivial⟩
  refine then_n (wp_seq (wp_reg ?_))
  refine s_q hs (c_fld fl157_0 (hs.ev rfl)) rfl fun ac hs=>?_
  refine s_q hs (c_loadS un3 rfl (hs.ev rfl) (hs.seg (i:=0) rfl) rfl) rfl fun ac hs=>?_
  refine s_q hs (c_cvIB un3 un5 (hs.ev rfl)) rfl fun ac hs=>?_
  refine s_bslice hs un177 ty5 (.cons (hs.ev rfl) .nil) rfl (by simp [Value.cells]) (by decide) rfl rfl fun ac ww g9 hs=>?_
  refine zA hs fun ac hs=>?_
  refine s_end ?_
  replace hs:=(hs.segrow (i:=0) (n:=1) (sz:=1) rfl rfl (by decide)).toL (show _=[.row _ ([i8 d]:List UInt8).length (([i8 d]:List UInt8).map B) 5 1,_] from rfl)
  replace hs:=hs.sub (F':=[(1,_),(2,_),(4,_),(5,_)]) ⟨rfl,rfl,rfl,rfl,trivial⟩
  refine then_n (wp_seq (wp_reg ?_))
  refine zM hs fun ac hs=>?_
  refine s_q hs (c_fld fl157_1 (hs.ev rfl)) rfl fun ac hs=>?_
  refine s_q hs (c_loadS un25 rfl (hs.ev rfl) (hs.seg (i:=1) rfl) rfl) rfl fun ac hs=>?_
  refine s_q hs (c_cvUV un25 un124 (hs.ev rfl)) rfl fun ac hs=>?_
  refine s_call hs fu109 (.cons (hs.ev rfl) (.cons (hs.ev rfl) .nil)) (ref05_Num ep.toUInt64 4 (by omega) _) rfl fun ac ww v14 hf hp hs=>?_
  obtain ⟨gn,rfl,hh⟩:=hp
  replace hs:=hs _ hh
  refine s_appB (i:=1) hs un177 ty5 rfl rfl rfl (RdB.segn (l:=num ep.toUInt64 4 4) (hs.seg (i:=0) rfl) (by rw [num4]; rfl) (by decide)) (by rw [num4]; simp) rfl fun ac ww v15 hf hnil hs=>?_
  rw [num4] at hs
  refine zA hs fun ac hs=>?_
  refine s_end ?_
  replace hs:=hs.pick (L':=[_,_]) (.cons _ (.refl _))
  replace hs:=hs.sub (F':=[(1,_),(2,_),(4,_),(5,_)]) ⟨rfl,rfl,rfl,rfl,trivial⟩
  refine then_n (wp_seq (wp_reg ?_))
  refine zM hs fun ac hs=>?_
  refine s_q hs (c_fld fl157_2 (hs.ev rfl)) rfl fun ac hs=>?_
  refine s_q hs (c_loadS un25 rfl (hs.ev rfl) (hs.seg (i:=1) rfl) rfl) rfl fun ac hs=>?_
  refine s_q hs (c_cvUV un25 un124 (hs.ev rfl)) rfl fun ac hs=>?_
  refine s_call hs fu109 (.cons (hs.ev rfl) (.cons (hs.ev rfl) .nil)) (ref05_Num sq.toUInt64 4 (by omega) _) rfl fun ac ww v20 hf hp hs=>?_
  obtain ⟨gn,rfl,hh⟩:=hp
  replace hs:=hs _ hh
  refine s_appB (i:=1) hs un177 ty5 rfl rfl rfl (RdB.segn (l:=num sq.toUInt64 4 4) (hs.seg (i:=0) rfl) (by rw [num4]; rfl) (by decide)) (by rw [num4]; simp) rfl fun ac ww v21 hf hnil hs=>?_
  rw [num4] at hs
  refine zA hs fun ac hs=>?_
  refine s_end ?_
  replace hs:=hs.pick (L':=[_,_]) (.cons _ (.refl _))
  replace hs:=hs.sub (F':=[(1,_),(4,_),(5,_)]) ⟨rfl,rfl,rfl,trivial⟩
  refine then_n (wp_seq (wp_reg ?_))
  refine zM hs fun ac hs=>?_
  refine zM hs fun ac hs=>?_
  refine s_q hs (c_cvIB un3 un5 (hs.ev rfl)) rfl fun ac hs=>?_
  refine s_bslice hs un177 ty5 (.cons (hs.ev rfl) .nil) rfl (by simp [Value.cells]) (by decide) rfl rfl fun ac ww g25 hs=>?_
  refine s_appB (i:=1) hs un177 ty5 rfl rfl rfl (RdB.seg (l:=[i8 r]) (hs.seg (i:=0) rfl) (by show 1≤maxLen; decide)) (by simp) rfl fun ac ww v26 hf hnil hs=>?_
  refine zA hs fun ac hs=>?_
  refine s_end ?_
  replace hs:=hs.sub (F':=[(4,_)]) ⟨rfl,trivial⟩
  refine then_n (wp_ret ?_)
  refine s_ret hs rfl (.tmp (hs.tmp rfl) .nil) rfl ⟨_,rfl,hs.fr,?_⟩
  exact ⟨_,rfl,(hs.pick (L':=[_]) (.cons _ (.cons_cons _ (.cons _ .slnil)))).made⟩
theorem ladder_Leaf (d:Int) (ep sq:UInt32) (r:Int) (e:List UInt8) (id:Int) (hel:e.length=16) (w:World) :Ctr Tryz.prog 138 [.agg #[I d,U ep,U sq],I r,.agg (e.map B).toArray,I id] w (fun _=>False) (fun v _=>v=.agg ((lLeaf d ep sq r e id).map B).toArray):=by
  refine fn_start (N:=18) Tryz.func138 rfl rfl rfl fun ac hk=>?_
  have hs:=St.start hk w
  refine wp_seq (wp_reg ?_)
  refine s_box hs rfl rfl rfl fun ac ww g4 hs=>?_
  refine s_box hs rfl rfl rfl fun ac ww g6 hs=>?_
  refine s_alloc hs ty36 rfl fun ac ww g8 hs=>?_
  refine s_end ?_
  replace hs:=hs.sub (F':=[(1,_),(3,_),(4,_),(6,_),(8,_)]) ⟨rfl,rfl,rfl,rfl,rfl,trivial⟩
  refine then_n (wp_seq ?_)
  refine wp_region_rg pmix 7 (by kernel_rfl) rfl hs ?_
  simp only [List.take_succ_cons,List.take_zero]
  refine rg_q (fun ac ww h=>c_loadW ty165 ag165 (h.ev rfl) (h.blk (hs.seg (i:=2) rfl)) (by rfl)) rfl ?_
  refine rg_q (fun ac ww h=>c_move (h.ev rfl)) rfl ?_
  refine rg_callE (segE (placeB d ep sq r)) (fun _ _ _ _ _ h=>h) fu140 (fun ac ww h=>?_) rfl ?_
  · exact ⟨_,.cons (h.ev rfl) (.cons (h.ev rfl) .nil),ladder_bytes d ep sq r _⟩
  refine rg_q (fun ac ww h=>c_sliceA un36 ty5 (h.ev rfl)) rfl ?_
  refine rg_q (fun ac ww h=>c_move (h.ev rfl)) rfl ?_
  refine rg_q (fun ac ww h=>c_cvIB un3 un5 (h.ev rfl)) rfl ?_
  refine rg_bslice un177 ty5 (fun ac ww h=>(.cons (h.ev rfl) .nil)) rfl (by simp [Value.cells]) (by decide) rfl rfl ?_
  refine rg_nil fun ac ww L' hf hfe hs=>?_
  simp only [List.drop_succ_cons,List.drop_zero]
  obtain ⟨v15,L15,M15,h15,e15,⟨v11,L11,M11,h11,e11,rfl,rfl⟩,rfl⟩:=hfe
  replace hs:=hs.add h15
  replace hs:=hs.add h11
  obtain ⟨g15,rfl,rfl⟩:=e15
  obtain ⟨g11,rfl,rfl⟩:=e11
  refine s_bslice hs un87 ty177 (.cons (hs.ev rfl) (.cons (hs.ev rfl) (.cons (hs.ev rfl) .nil))) rfl (by simp [Value.cells]) (by decide) rfl rfl fun ac ww g16 hs=>?_
  refine s_call hs fu139 (.cons (hs.ev rfl) (.cons (hs.ev rfl) .nil)) (mac_Short 76 [(_,placeB d ep sq r),(_,e),(_,[i8 id])] _ (by simp [flat,hel]) _ (RdP.seg (ps:=[(_,placeB d ep sq r),(_,e),(_,[i8 id])]) (hs.seg (i:=0) rfl) (by show 3≤maxLen; decide) (.cons (RdB.seg (hs.seg (i:=2) rfl) (by rw [placeB_length]; decide)) (.cons (RdB.segn (hs.seg (i:=4) rfl) hel (by decide)) (.cons (RdB.seg (l:=[i8 id]) (hs.seg (i:=1) rfl) (by show 1≤maxLen; decide)) .nil))))) rfl fun ac ww v17 hf hp hs=>?_
  obtain rfl:=hp
  replace hs:=hs [] (.nil _ _)
  refine s_storeW (i:=3) hs ty36 rfl rfl rfl (by simp) (all_map_B _) (by simp) fun ww hs=>?_
  refine s_end ?_
  replace hs:=hs.sub (F':=[(8,_)]) ⟨rfl,trivial⟩
  refine then_n (wp_ret ?_)
  refine s_ret hs rfl (.cell (hs.tmp rfl) (run_loadA ty36 rfl (hs.seg (i:=3) rfl) (List.take_of_length_le (by simp)) (by simp)) .nil) rfl ⟨_,rfl,hs.fr,?_⟩
  show Value.agg _=Value.agg _
  rw [show flat [(_,placeB d ep sq r),(_,e),(_,[i8 id])]=placeB d ep sq r++e++[i8 id] from by simp [flat]]
  rfl
theorem ladder_Join (d:Int) (ep sq:UInt32) (r:Int) (a b:List UInt8) (hal:a.length=16) (hbl:b.length=16) (w:World) :Ctr Tryz.prog 117 [.agg #[I d,U ep,U sq],I r,.agg (a.map B).toArray,.agg (b.map B).toArray] w (fun _=>False) (fun v _=>v=.agg ((ofT (joinX d ep sq r a b)).map B).toArray):=by
  refine fn_start (N:=16) Tryz.func117 rfl rfl rfl fun ac hk=>?_
  have hs:=St.start hk w
  refine wp_seq (wp_reg ?_)
  refine s_box hs rfl rfl rfl fun ac ww g4 hs=>?_
  refine s_box hs rfl rfl rfl fun ac ww g6 hs=>?_
  refine s_box hs rfl rfl rfl fun ac ww g7 hs=>?_
  refine s_alloc hs ty36 rfl fun ac ww g8 hs=>?_
  refine s_end ?_
  replace hs:=hs.sub (F':=[(1,_),(4,_),(6,_),(7,_),(8,_)]) ⟨rfl,rfl,rfl,rfl,rfl,trivial⟩
  refine then_n (wp_seq ?_)
  refine wp_region_rg pmix 5 (by kernel_rfl) rfl hs ?_
  simp only [List.take_succ_cons,List.take_zero]
  refine rg_q (fun ac ww h=>c_loadW ty165 ag165 (h.ev rfl) (h.blk (hs.seg (i:=3) rfl)) (by rfl)) rfl ?_
  refine rg_q (fun ac ww h=>c_move (h.ev rfl)) rfl ?_
  refine rg_callE (segE (placeB d ep sq r)) (fun _ _ _ _ _ h=>h) fu140 (fun ac ww h=>?_) rfl ?_
  · exact ⟨_,.cons (h.ev rfl) (.cons (h.ev rfl) .nil),ladder_bytes d ep sq r _⟩
  refine rg_q (fun ac ww h=>c_sliceA un36 ty5 (h.ev rfl)) rfl ?_
  refine rg_q (fun ac ww h=>c_sliceA un36 ty5 (h.ev rfl)) rfl ?_
  refine rg_nil fun ac ww L' hf hfe hs=>?_
  simp only [List.drop_succ_cons,List.drop_zero]
  obtain ⟨v11,L11,M11,h11,e11,rfl,rfl⟩:=hfe
  replace hs:=hs.add h11
  obtain ⟨g11,rfl,rfl⟩:=e11
  refine s_bslice hs un87 ty177 (.cons (hs.ev rfl) (.cons (hs.ev rfl) (.cons (hs.ev rfl) .nil))) rfl (by simp [Value.cells]) (by decide) rfl rfl fun ac ww g14 hs=>?_
  refine s_call hs fu139 (.cons (hs.ev rfl) (.cons (hs.ev rfl) .nil)) (mac_Short 74 [(_,placeB d ep sq r),(_,a),(_,b)] _ (by simp [flat,hal,hbl]) _ (RdP.seg (ps:=[(_,placeB d ep sq r),(_,a),(_,b)]) (hs.seg (i:=0) rfl) (by show 3≤maxLen; decide) (.cons (RdB.seg (hs.seg (i:=1) rfl) (by rw [placeB_length]; decide)) (.cons (RdB.segn (hs.seg (i:=4) rfl) hal (by decide)) (.cons (RdB.segn (hs.seg (i:=3) rfl) hbl (by decide)) .nil))))) rfl fun ac ww v15 hf hp hs=>?_
  obtain rfl:=hp
  replace hs:=hs [] (.nil _ _)
  refine s_storeW (i:=2) hs ty36 rfl rfl rfl (by simp) (all_map_B _) (by simp) fun ww hs=>?_
  refine s_end ?_
  replace hs:=hs.sub (F':=[(8,_)]) ⟨rfl,trivial⟩
  refine then_n (wp_ret ?_)
  refine s_ret hs rfl (.cell (hs.tmp rfl) (run_loadA ty36 rfl (hs.seg (i:=2) rfl) (List.take_of_length_le (by simp)) (by simp)) .nil) rfl ⟨_,rfl,hs.fr,?_⟩
  show Value.agg _=Value.agg _
  rw [show flat [(_,placeB d ep sq r),(_,a),(_,b)]=placeB d ep sq r++a++b from by simp [flat]]
  rfl
theorem ref06_LeafText (d:Int) (ep sq:UInt32) (r:Int) (e:List UInt8) (id:Int) (hel:e.length=16) (w:World) :Ctr Tryz.prog 121 [.agg #[I d,U ep,U sq],I r,.agg (e.map B).toArray,I id] w (fun _=>False) (outE (rowE (leafX d ep sq r e id)) w):=by
  refine fn_start (N:=18) Tryz.func121 rfl rfl rfl fun ac hk=>?_
  have hs:=St.start hk w
  refine wp_seq (wp_reg ?_)
  refine s_box hs rfl rfl rfl fun ac ww g4 hs=>?_
  refine s_box hs rfl rfl rfl fun ac ww g6 hs=>?_
  refine zA hs fun ac hs=>?_
  refine s_end ?_
  replace hs:=hs.sub (F':=[(1,_),(3,_),(4,_),(6,_),(8,_)]) ⟨rfl,rfl,rfl,rfl,rfl,trivial⟩
  refine then_n (wp_seq ?_)
  refine wp_region_rg pmix 7 (by kernel_rfl) rfl hs ?_
  simp only [List.take_succ_cons,List.take_zero]
  refine rg_q (fun ac ww h=>c_loadW ty157 ag157 (h.ev rfl) (h.blk (hs.seg (i:=1) rfl)) (by rfl)) rfl ?_
  refine rg_q (fun ac ww h=>c_move (h.ev rfl)) rfl ?_
  refine rg_callE (rowE (placeB d ep sq r)) (fun _ _ _ _ _ h=>h) fu143 (fun ac ww h=>?_) rfl ?_
  · exact ⟨_,.cons (h.ev rfl) (.cons (h.ev rfl) .nil),ref06_Text d ep sq r _⟩
  refine rg_q (fun ac ww h=>c_sliceA un35 ty5 (h.ev rfl)) rfl ?_
  refine rg_q (fun ac ww h=>c_move (h.ev rfl)) rfl ?_
  refine rg_q (fun ac ww h=>c_cvIB un3 un5 (h.ev rfl)) rfl ?_
  refine rg_bslice un177 ty5 (fun ac ww h=>(.cons (h.ev rfl) .nil)) rfl (by simp [Value.cells]) (by decide) rfl rfl ?_
  refine rg_nil fun ac ww L' hf hfe hs=>?_
  simp only [List.drop_succ_cons,List.drop_zero]
  obtain ⟨v15,L15,M15,h15,e15,⟨v11,L11,M11,h11,e11,rfl,rfl⟩,rfl⟩:=hfe
  replace hs:=hs.add h15
  replace hs:=hs.add h11
  obtain ⟨g15,rfl,rfl⟩:=e15
  obtain rfl:=e11
  obtain ⟨ad11,cap11,rfl,_,_⟩:=Rd.sl (RdB.row (hs.get (i:=1) rfl))
  refine s_bslice hs un87 ty177 (.cons (hs.ev rfl) (.cons (hs.ev rfl) (.cons (hs.ev rfl) .nil))) rfl (by simp [Value.cells]) (by decide) rfl rfl fun ac ww g16 hs=>?_
  refine s_call hs fu142 (.cons (hs.ev rfl) (.cons (hs.ev rfl) .nil)) (ref05_Text 76 [(_,placeB d ep sq r),(_,e),(_,[i8 id])] _ (by simp [flat,hel]) _ (RdP.seg (ps:=[(_,placeB d ep sq r),(_,e),(_,[i8 id])]) (hs.seg (i:=0) rfl) (by show 3≤maxLen; decide) (.cons (RdB.row (hs.get (i:=2) rfl)) (.cons (RdB.segn (hs.seg (i:=3) rfl) hel (by decide)) (.cons (RdB.seg (l:=[i8 id]) (hs.seg (i:=1) rfl) (by show 1≤maxLen; decide)) .nil))))) rfl fun ac ww v17 hf hp hs=>?_
  obtain ⟨qv,rfl,hh⟩:=hp
  rw [show flat [(_,placeB d ep sq r),(_,e),(_,[i8 id])]=placeB d ep sq r++e++[i8 id] from by simp [flat]] at hh
  replace hs:=hs _ hh
  refine zA hs fun ac hs=>?_
  refine s_end ?_
  replace hs:=hs.sub (F':=[(8,_)]) ⟨rfl,trivial⟩
  refine then_n (wp_ret ?_)
  refine s_ret hs rfl (.tmp (hs.tmp rfl) .nil) rfl ⟨_,rfl,hs.fr,?_⟩
  exact ⟨_,rfl,(hs.pick (L':=[_]) (.cons_cons _ (List.nil_sublist _))).made⟩
theorem ref06_JoinText (d:Int) (ep sq:UInt32) (r:Int) (a b:List UInt8) (hal:a.length=16) (hbl:b.length=16) (w:World) :Ctr Tryz.prog 122 [.agg #[I d,U ep,U sq],I r,.agg (a.map B).toArray,.agg (b.map B).toArray] w (fun _=>False) (outE (rowE (joinX d ep sq r a b)) w):=by
  refine fn_start (N:=16) Tryz.func122 rfl rfl rfl fun ac hk=>?_
  have hs:=St.start hk w
  refine wp_seq (wp_reg ?_)
  refine s_box hs rfl rfl rfl fun ac ww g4 hs=>?_
  refine s_box hs rfl rfl rfl fun ac ww g6 hs=>?_
  refine s_box hs rfl rfl rfl fun ac ww g7 hs=>?_
  refine zA hs fun ac hs=>?_
  refine s_end ?_
  replace hs:=hs.sub (F':=[(1,_),(4,_),(6,_),(7,_),(8,_)]) ⟨rfl,rfl,rfl,rfl,rfl,trivial⟩
  refine then_n (wp_seq ?_)
  refine wp_region_rg pmix 5 (by kernel_rfl) rfl hs ?_
  simp only [List.take_succ_cons,List.take_zero]
  refine rg_q (fun ac ww h=>c_loadW ty157 ag157 (h.ev rfl) (h.blk (hs.seg (i:=2) rfl)) (by rfl)) rfl ?_
  refine rg_q (fun ac ww h=>c_move (h.ev rfl)) rfl ?_
  refine rg_callE (rowE (placeB d ep sq r)) (fun _ _ _ _ _ h=>h) fu143 (fun ac ww h=>?_) rfl ?_
  · exact ⟨_,.cons (h.ev rfl) (.cons (h.ev rfl) .nil),ref06_Text d ep sq r _⟩
  refine rg_q (fun ac ww h=>c_sliceA un35 ty5 (h.ev rfl)) rfl ?_
  refine rg_q (fun ac ww h=>c_sliceA un35 ty5 (h.ev rfl)) rfl ?_
  refine rg_nil fun ac ww L' hf hfe hs=>?_
  simp only [List.drop_succ_cons,List.drop_zero]
  obtain ⟨v11,L11,M11,h11,e11,rfl,rfl⟩:=hfe
  replace hs:=hs.add h11
  obtain rfl:=e11
  obtain ⟨ad11,cap11,rfl,_,_⟩:=Rd.sl (RdB.row (hs.get (i:=0) rfl))
  refine s_bslice hs un87 ty177 (.cons (hs.ev rfl) (.cons (hs.ev rfl) (.cons (hs.ev rfl) .nil))) rfl (by simp [Value.cells]) (by decide) rfl rfl fun ac ww g14 hs=>?_
  refine s_call hs fu142 (.cons (hs.ev rfl) (.cons (hs.ev rfl) .nil)) (ref05_Text 74 [(_,placeB d ep sq r),(_,a),(_,b)] _ (by simp [flat,hal,hbl]) _ (RdP.seg (ps:=[(_,placeB d ep sq r),(_,a),(_,b)]) (hs.seg (i:=0) rfl) (by show 3≤maxLen; decide) (.cons (RdB.row (hs.get (i:=1) rfl)) (.cons (RdB.segn (hs.seg (i:=3) rfl) hal (by decide)) (.cons (RdB.segn (hs.seg (i:=2) rfl) hbl (by decide)) .nil))))) rfl fun ac ww v15 hf hp hs=>?_
  obtain ⟨qv,rfl,hh⟩:=hp
  rw [show flat [(_,placeB d ep sq r),(_,a),(_,b)]=placeB d ep sq r++a++b from by simp [flat]] at hh
  replace hs:=hs _ hh
  refine zA hs fun ac hs=>?_
  refine s_end ?_
  replace hs:=hs.sub (F':=[(8,_)]) ⟨rfl,trivial⟩
  refine then_n (wp_ret ?_)
  refine s_ret hs rfl (.tmp (hs.tmp rfl) .nil) rfl ⟨_,rfl,hs.fr,?_⟩
  exact ⟨_,rfl,(hs.pick (L':=[_]) (.cons_cons _ (List.nil_sublist _))).made⟩
end Go.Proofs.YtklajbdbnnceiaaGreat
end

section
/- The tree of a rung. -/
namespace Go.Proofs.YtklajbdbnnceiaaGreat
open Go Go.Fw
open Sha
def lRow (d:Int) (ep sq:UInt32) (r:Int) (e:List UInt8) (lv n:Nat):Nat × List UInt8:=(2 ^ (lv - n),rows (lNode d ep sq r e n) (2 ^ (lv - n)))
def treeE (d:Int) (ep sq:UInt32) (r:Int) (e:List UInt8) (lv:Nat):Value→List Ent→World→Prop:=fun v L _ =>
  ∃ ps:List (Value × Nat × List UInt8),ps.map (·.2)=(List.range (lv + 1)).map (lRow d ep sq r e lv)∧L=[.texts 39 (Ent.partS 36 16) v ps]
theorem lNode_length (d:Int) (ep sq:UInt32) (r:Int) (e:List UInt8) (n q:Nat):(lNode d ep sq r e n q).length=16:=node_length (fun _=>rfl) n q
theorem lrows_length (d:Int) (ep sq:UInt32) (r:Int) (e:List UInt8) (n k:Nat):(rows (lNode d ep sq r e n) k).length=16 * k:=rows_length (N:=k) (fun c _=>lNode_length d ep sq r e n c) k (Nat.le_refl _)
theorem rows_piece {f:Nat→List UInt8} {n i:Nat} (hf:∀ c,(f c).length=16) (h:i < n):((rows f n).drop (i * 16)).take 16=f i:=by
  have:=rows_chunk (N:=n) (fun c _=>hf c) n (Nat.le_refl _) i h
  rw [chunk,Nat.mul_comm] at this
  exact this
theorem pow8:∀ {lv:Nat},lv≤3→2 ^ lv≤8
  | 0,_=>by decide | 1,_=>by decide | 2,_=>by decide | 3,_=>by decide | lv + 4,h=>absurd h (by omega)
theorem pow_pos' (k:Nat):0 < 2 ^ k:=Nat.two_pow_pos k
theorem pow_one {k:Nat} (h:¬ 1 < 2 ^ k):k=0:=by
  cases k with
  | zero=>rfl
  | succ k=>exfalso; have:=Nat.two_pow_pos k; rw [Nat.pow_succ] at h; omega
theorem pow_more {k:Nat} (h:1 < 2 ^ k):0 < k:=by
  cases k with
  | zero=>simp at h
  | succ k=>omega
theorem snd_at {α β:Type} {ps:List (α × β)} {f:Nat→β} {n k:Nat} (h:ps.map (·.2)=(List.range n).map f) (hk:k < n) (d:α × β):(ps.getD k d).2=f k:=by
  have hl:ps.length=n:=by have:=congrArg List.length h; simpa using this
  have h2:=congrArg (fun l:List β=>l[k]?) h
  simp only [List.getElem?_map,List.getElem?_range hk,List.getElem?_eq_getElem (show k < ps.length by omega),Option.map_some] at h2
  rw [List.getD,List.getElem?_eq_getElem (by omega)]
  exact Option.some.inj h2
theorem ladder_tree (d:Int) (ep sq:UInt32) (r:Int) (e:List UInt8) (W lv:Nat) (hW:W=2 ^ lv) (hlv:lv≤3) (hel:e.length=16) (w:World) :Ctr Tryz.prog 115 [.agg #[I d,U ep,U sq],I r,.agg (e.map B).toArray,I W] w (fun _=>False) (outE (treeE d ep sq r e lv) w):=by
  have hW8:W≤8:=by rw [hW]; exact pow8 hlv
  refine fn_start (N:=68) Tryz.func115 rfl rfl rfl fun ac hk=>?_
  have hs:=St.start hk w
  refine wp_seq (wp_reg ?_)
  refine s_box hs rfl rfl rfl fun ac ww g4 hs=>?_
  refine s_box hs rfl rfl rfl fun ac ww g6 hs=>?_
  refine zA hs fun ac hs=>?_
  refine s_end ?_
  replace hs:=hs.sub (F':=[(1,_),(3,_),(4,_),(6,_),(8,_)]) ⟨rfl,rfl,rfl,rfl,rfl,trivial⟩
  refine then_n (wp_seq (wp_reg ?_))
  refine zM hs fun ac hs=>?_
  refine s_make (n:=W) hs un39 ty36 rfl rfl rfl rfl (by omega) (by unfold maxLen; omega) rfl fun ac ww g15 hs=>?_
  refine zA hs fun ac hs=>?_
  refine s_end ?_
  replace hs:=hs.toL (show _=[.seg g15 (((List.replicate (16 * W) (0:UInt8))).map B) 36,_,_] from by rw [show (List.replicate W _).flatten=(List.replicate (W * 16) (0:UInt8)).map B from flatZ W 16,Nat.mul_comm])
  replace hs:=hs.sub (F':=[(1,_),(4,_),(6,_),(8,_),(9,_)]) ⟨rfl,rfl,rfl,rfl,rfl,trivial⟩
  refine then_n (wp_seq (wp_seq (wp_reg ?_)))
  refine zM hs fun ac hs=>?_
  refine s_q hs (c_lenS un39 (hs.ev rfl)) rfl fun ac hs=>?_
  refine zM hs fun ac hs=>?_
  refine s_end ?_
  replace hs:=hs.sub (F':=[(1,_),(4,_),(6,_),(8,_),(9,_),(17,_),(18,_)]) ⟨rfl,rfl,rfl,rfl,rfl,rfl,rfl,trivial⟩
  refine then_n (wp_block ?_)
  refine s_loop hs (X:=Nat) (fun k=>[(18,I k)]) [(1,_),(4,_),(6,_),(8,_),(9,_),(17,_)] (fun k=>[.seg g15 ((rows (lNode d ep sq r e 0) k++(List.replicate (16 * W) (0:UInt8)).drop (16 * k)).map B) 36,_,_]) (fun n k=>k≤W∧n=W - k) (_) (0) (⟨Nat.zero_le _,rfl⟩) ⟨rfl,rfl,rfl,rfl,rfl,rfl,rfl,trivial⟩ rfl ?_
  rintro n k ac ww hok hs
  simp only [List.cons_append,List.nil_append] at hs
  obtain ⟨hk,rfl⟩:=hok
  have hrl:=lrows_length d ep sq r e 0 k
  refine wp_seq (wp_reg ?_)
  refine s_q hs (c_lssI (hs.ev rfl) (hs.ev rfl)) rfl fun ac hs=>?_
  refine s_end (then_n (wp_seq ?_))
  refine s_cond hs rfl (fun hc=>?_) (fun hc=>?_)
  · try simp only [z1,z2,z3,z4,z5,z6,z7] at hc
    refine wp_skip (then_n (wp_seq (wp_block (wp_seq (wp_reg ?_)))))
    refine zM hs fun ac hs=>?_
    refine zA hs fun ac hs=>?_
    refine s_end (then_n (wp_reg ?_))
    refine zM hs fun ac hs=>?_
    refine zM hs fun ac hs=>?_
    refine s_q hs (c_loadW ty165 ag165 (hs.ev rfl) (hs.seg (i:=2) rfl) (by rfl)) rfl fun ac hs=>?_
    refine zM hs fun ac hs=>?_
    refine s_q hs (c_loadW ty36 rfl (hs.ev rfl) (hs.seg (i:=1) rfl) (by rw [List.length_map,hel])) rfl fun ac hs=>?_
    refine zM hs fun ac hs=>?_
    refine s_call hs fu138 (.cons (hs.ev rfl) (.cons (hs.ev rfl) (.cons (hs.ev rfl) (.cons (hs.ev rfl) .nil)))) (ladder_Leaf d ep sq r e (k:Int) hel _) rfl fun ac ww v27 hf hp hs=>?_
    obtain rfl:=hp
    replace hs:=hs [] (.nil _ _)
    refine s_q hs (c_idxS (j:=k) un39 ty36 (hs.ev rfl) (hs.ev rfl) (by omega) (by omega)) rfl fun ac hs=>?_
    refine s_store (i:=0) hs ty36 rfl rfl rfl rfl (show (List.map B (lLeaf d ep sq r e (k:Int))).length=16 by rw [List.length_map]; rfl) (all_map_B _) (by rw [List.length_map,List.length_append,List.length_drop,List.length_replicate]; omega) (chunk_set hrl) fun ww hs=>?_
    refine s_end (blk_n (then_n (wp_reg ?_)))
    refine s_q hs (c_addI (hs.ev rfl) (hs.ev rfl) (by omega) (by omega)) rfl fun ac hs=>?_
    refine zM hs fun ac hs=>?_
    refine s_end (then_n ?_)
    exact ⟨W - (k + 1),by omega,k + 1,⟨by omega,rfl⟩,St.next hs ⟨rfl,rfl,rfl,rfl,rfl,rfl,rfl,trivial⟩ (by rw [rows_succ]; rfl)⟩
  · try simp only [z1,z2,z3,z4,z5,z6,z7] at hc
    obtain rfl:W=k:=by omega
    rw [List.drop_of_length_le (by simp),List.append_nil] at hs
    refine wp_exit (then_e (then_e (blk_hit (then_n (wp_seq (wp_reg ?_))))))
    refine zM hs fun ac hs=>?_
    refine s_bslice hs un209 ty39 (.cons (hs.ev rfl) .nil) rfl (by simp [Value.cells]) (by decide) rfl rfl fun ac ww g31 hs=>?_
    refine zA hs fun ac hs=>?_
    refine s_end ?_
    replace hs:=(((hs.segrow (i:=0) (n:=1) (sz:=1) rfl rfl (by decide)).segrow (i:=1) (n:=W) (sz:=16) rfl (by rw [List.length_map,lrows_length]; omega) (by unfold maxLen; omega)).texts1 (i:=0) (j:=1) (pt:=Ent.partS 36 16) (z:=(W,rows (lNode d ep sq r e 0) W)) rfl rfl rfl).pick (L':=[_,_,_]) (.cons_cons _ (.cons _ (.refl _)))
    replace hs:=hs.sub (F':=[(1,_),(4,_),(8,_),(9,_),(11,_)]) ⟨rfl,rfl,rfl,rfl,rfl,trivial⟩
    refine then_n (wp_seq (wp_block ?_))
    refine s_loop hs (X:=Nat × Nat × Value × Value × List (Value × Nat × List UInt8)) (fun x=>[(9,x.2.2.1),(11,x.2.2.2.1)]) [(1,_),(4,_),(8,_)] (fun x=>[.texts 39 (Ent.partS 36 16) x.2.2.2.1 x.2.2.2.2,_,_]) (fun n x=>x.1≤lv∧n=lv - x.1∧x.2.1=2 ^ (lv - x.1)∧x.2.2.2.2.map (·.2)=(List.range (x.1 + 1)).map (lRow d ep sq r e lv)∧(x.2.2.2.2.getD x.1 (.nilIface,0,[])).1=x.2.2.1) (_) ((0,W,_,_,[(_,W,rows (lNode d ep sq r e 0) W)])) (⟨Nat.zero_le _,rfl,hW,by rw [hW]; rfl,rfl⟩) ⟨rfl,rfl,rfl,rfl,rfl,trivial⟩ rfl ?_
    rintro n ⟨n,m,rv,ov,ps⟩ ac ww hok hs
    simp only [List.cons_append,List.nil_append] at hs
    obtain ⟨hn,rfl,hm,hps,hrv⟩:=hok
    simp only at hn hm hps hrv hs
    have hpl:ps.length=n + 1:=by have:=congrArg List.length hps; simpa using this
    have hz:=snd_at hps (Nat.lt_succ_self n) (.nilIface,0,[])
    have ho:ww.ownsRow 0 36 16 (ps.getD n (.nilIface,0,[])).1 (ps.getD n (.nilIface,0,[])).2.1 ((ps.getD n (.nilIface,0,[])).2.2.map B):=texts_part (hs.get (i:=0) rfl) (k:=n) (by omega) (.nilIface,0,[])
    rw [hrv,hz] at ho
    simp only [lRow,← hm] at ho
    have hmp:0 < m:=by rw [hm]; exact pow_pos' _
    have hm8:m≤8:=by rw [hm]; exact pow8 (by omega)
    obtain ⟨rg,rcap,rcur,rfl,hrg,hrn,hrm,hrt⟩:=owns_at ho hmp
    refine wp_seq (wp_seq (wp_reg ?_))
    refine zM hs fun ac hs=>?_
    refine s_q hs (c_lenS un39 (hs.ev rfl)) rfl fun ac hs=>?_
    refine s_q hs (c_gtrI (hs.ev rfl) (hs.ev rfl)) rfl fun ac hs=>?_
    refine s_end (then_n ?_)
    refine s_cond hs rfl (fun hc=>?_) (fun hc=>?_)
    · try simp only [z1,z2,z3,z4,z5,z6,z7] at hc
      have hnl:n < lv:=by have:=pow_more (k:=lv - n) (by rw [← hm]; omega); omega
      obtain ⟨h,hh,hh2⟩:∃ h,m=2 * h∧h=2 ^ (lv - (n + 1)):=⟨_,by rw [hm,show lv - n=lv - (n + 1) + 1 from by omega,Nat.pow_succ]; omega,rfl⟩
      refine wp_skip (then_n (wp_block (wp_seq (wp_reg ?_))))
      refine zM hs fun ac hs=>?_
      refine s_q hs (c_lenS un39 (hs.ev rfl)) rfl fun ac hs=>?_
      refine s_q hs (c_quoI (hs.ev rfl) (hs.ev rfl) (by omega) (by omega) (by omega)) rfl fun ac hs=>?_
      refine s_make (n:=h) hs un39 ty36 rfl rfl (by omega) (by omega) (by omega) (by unfold maxLen; omega) rfl fun ac ww g38 hs=>?_
      refine zA hs fun ac hs=>?_
      refine s_end ?_
      replace hs:=hs.toL (show _=[.seg g38 (((List.replicate (16 * h) (0:UInt8))).map B) 36,_,_,_] from by rw [show (List.replicate h _).flatten=(List.replicate (h * 16) (0:UInt8)).map B from flatZ h 16,Nat.mul_comm])
      refine then_n (wp_seq (wp_seq (wp_reg ?_)))
      refine zM hs fun ac hs=>?_
      refine s_q hs (c_lenS un39 (hs.ev rfl)) rfl fun ac hs=>?_
      refine zM hs fun ac hs=>?_
      refine s_end (then_n (wp_block ?_))
      refine s_loop hs (X:=Nat) (fun q=>[(41,I q)]) [(1,_),(4,_),(8,_),(9,_),(11,_),(12,_),(32,_),(33,_),(34,_),(35,_),(36,_),(37,_),(38,_),(39,_),(40,_)] (fun q=>[.seg g38 ((rows (lNode d ep sq r e (n + 1)) q++(List.replicate (16 * h) (0:UInt8)).drop (16 * q)).map B) 36,_,_,_]) (fun n q=>q≤h∧n=h - q) (_) (0) (⟨Nat.zero_le _,rfl⟩) ⟨rfl,rfl,rfl,rfl,rfl,rfl,rfl,rfl,rfl,rfl,rfl,rfl,rfl,rfl,rfl,rfl,trivial⟩ rfl ?_
      rintro n q ac ww hok hs
      simp only [List.cons_append,List.nil_append] at hs
      obtain ⟨hq,rfl⟩:=hok
      have ho2:ww.ownsRow 0 36 16 (ps.getD n (.nilIface,0,[])).1 (ps.getD n (.nilIface,0,[])).2.1 ((ps.getD n (.nilIface,0,[])).2.2.map B):=texts_part (hs.get (i:=1) rfl) (k:=n) (by omega) (.nilIface,0,[])
      rw [hrv,hz] at ho2
      simp only [lRow,← hm] at ho2
      obtain ⟨rg2,rcap2,rcur2,hre,hrg2,_,_,hrt2⟩:=owns_at ho2 hmp
      cases hre
      have hrl:=lrows_length d ep sq r e (n + 1) q
      refine wp_seq (wp_reg ?_)
      refine s_q hs (c_lssI (hs.ev rfl) (hs.ev rfl)) rfl fun ac hs=>?_
      refine s_end (then_n (wp_seq ?_))
      refine s_cond hs rfl (fun hc=>?_) (fun hc=>?_)
      · try simp only [z1,z2,z3,z4,z5,z6,z7] at hc
        have hqh:q < h:=by omega
        refine wp_skip (then_n (wp_seq (wp_block (wp_seq (wp_reg ?_)))))
        refine zM hs fun ac hs=>?_
        refine zA hs fun ac hs=>?_
        refine s_end (then_n ?_)
        refine wp_region_rg pmix 16 (by kernel_rfl) rfl hs ?_
        simp only [List.take_succ_cons,List.take_zero]
        refine rg_q (fun ac ww h=>c_move (h.ev rfl)) rfl ?_
        refine rg_q (fun ac ww h=>c_move (h.ev rfl)) rfl ?_
        refine rg_q (fun ac ww h=>c_loadW ty165 ag165 (h.ev rfl) (h.blk (hs.seg (i:=3) rfl)) (by rfl)) rfl ?_
        refine rg_q (fun ac ww h=>c_move (h.ev rfl)) rfl ?_
        refine rg_q (fun ac ww h=>c_move (h.ev rfl)) rfl ?_
        refine rg_q (fun ac ww h=>c_move (h.ev rfl)) rfl ?_
        refine rg_q (fun ac ww h=>c_mulI (h.ev rfl) (h.ev rfl) (by omega) (by omega)) rfl ?_
        refine rg_q (fun ac ww h=>c_idxS (j:=2 * q) un39 ty36 (h.ev rfl) (h.ev rfl) (by omega) (by omega)) rfl ?_
        refine rg_q (fun ac ww h=>c_loadA ty36 rfl (h.ev rfl) (h.blk hrg2) ((rowpiece hrt2 (by rw [lrows_length]; omega) (show 2 * q < m by omega)).trans (by rw [rows_piece (lNode_length d ep sq r e n) (show 2 * q < m by omega)])) (by rw [List.length_map]; exact lNode_length _ _ _ _ _ _ _)) rfl ?_
        refine rg_q (fun ac ww h=>c_move (h.ev rfl)) rfl ?_
        refine rg_q (fun ac ww h=>c_move (h.ev rfl)) rfl ?_
        refine rg_q (fun ac ww h=>c_mulI (h.ev rfl) (h.ev rfl) (by omega) (by omega)) rfl ?_
        refine rg_q (fun ac ww h=>c_addI (h.ev rfl) (h.ev rfl) (by omega) (by omega)) rfl ?_
        refine rg_q (fun ac ww h=>c_idxS (j:=2 * q + 1) un39 ty36 (h.ev rfl) (h.ev rfl) (by omega) (by omega)) rfl ?_
        refine rg_q (fun ac ww h=>c_loadA ty36 rfl (h.ev rfl) (h.blk hrg2) ((rowpiece hrt2 (by rw [lrows_length]; omega) (show 2 * q + 1 < m by omega)).trans (by rw [rows_piece (lNode_length d ep sq r e n) (show 2 * q + 1 < m by omega)])) (by rw [List.length_map]; exact lNode_length _ _ _ _ _ _ _)) rfl ?_
        refine rg_call fu117 (fun ac ww h=>(.cons (h.ev rfl) (.cons (h.ev rfl) (.cons (h.ev rfl) (.cons (h.ev rfl) .nil))))) (fun ww hf=>ladder_Join d ep sq r (lNode d ep sq r e n (2 * q)) (lNode d ep sq r e n (2 * q + 1)) (lNode_length _ _ _ _ _ _ _) (lNode_length _ _ _ _ _ _ _) ww) rfl ?_
        refine rg_nil fun ac ww L' hf hfe hs=>?_
        simp only [List.drop_succ_cons,List.drop_zero]
        obtain rfl:L'=[]:=hfe
        replace hs:=hs.toL (List.nil_append _)
        refine s_q hs (c_idxS (j:=q) un39 ty36 (hs.ev rfl) (hs.ev rfl) (by omega) (by omega)) rfl fun ac hs=>?_
        refine s_store (i:=0) hs ty36 rfl rfl rfl rfl (show (List.map B (ofT (joinX d ep sq r (lNode d ep sq r e n (2 * q)) (lNode d ep sq r e n (2 * q + 1))))).length=16 by rw [List.length_map]; rfl) (all_map_B _) (by rw [List.length_map,List.length_append,List.length_drop,List.length_replicate]; omega) (chunk_set hrl) fun ww hs=>?_
        refine s_end (blk_n (then_n (wp_reg ?_)))
        refine s_q hs (c_addI (hs.ev rfl) (hs.ev rfl) (by omega) (by omega)) rfl fun ac hs=>?_
        refine zM hs fun ac hs=>?_
        refine s_end (then_n ?_)
        exact ⟨h - (q + 1),by omega,q + 1,⟨by omega,rfl⟩,St.next hs ⟨rfl,rfl,rfl,rfl,rfl,rfl,rfl,rfl,rfl,rfl,rfl,rfl,rfl,rfl,rfl,rfl,trivial⟩ (by rw [rows_succ]; rfl)⟩
      · try simp only [z1,z2,z3,z4,z5,z6,z7] at hc
        obtain rfl:h=q:=by omega
        rw [List.drop_of_length_le (by simp),List.append_nil] at hs
        refine wp_exit (then_e (then_e (blk_hit (then_n (wp_reg ?_)))))
        refine zM hs fun ac hs=>?_
        refine zM hs fun ac hs=>?_
        refine s_bslice hs un209 ty39 (.cons (hs.ev rfl) .nil) rfl (by simp [Value.cells]) (by decide) rfl rfl fun ac ww g64 hs=>?_
        replace hs:=hs.segrow (i:=1) (n:=h) (sz:=16) rfl (by rw [List.length_map,lrows_length]; omega) (by unfold maxLen; omega)
        refine s_appP (i:=2) (j:=1) (pt:=Ent.partS 36 16) (z:=(h,rows (lNode d ep sq r e (n + 1)) h)) hs un209 ty39 rfl rfl rfl rfl rfl (hs.seg (i:=0) rfl) rfl (by omega) rfl fun ac ww v65 hs=>?_
        refine zM hs fun ac hs=>?_
        refine zA hs fun ac hs=>?_
        refine zA hs fun ac hs=>?_
        refine s_end ?_
        replace hs:=hs.pick (L':=[_,_,_]) (.cons _ (.cons _ (.refl _)))
        refine blk_n (then_n ?_)
        exact ⟨lv - (n + 1),by (try simp only); omega,(n + 1,h,.slice (some ⟨g38,0,none⟩) h h,v65,ps++[(.slice (some ⟨g38,0,none⟩) h h,h,rows (lNode d ep sq r e (n + 1)) h)]),⟨by (try simp only); omega,rfl,hh2,by simp only [List.map_append]; rw [hps,List.range_succ (n:=n + 1),List.map_append]; simp only [List.map_cons,List.map_nil,lRow,← hh2],by simp only; rw [List.getD,List.getElem?_append_right (by omega),show n + 1 - ps.length=0 from by omega]; rfl⟩,St.next hs ⟨rfl,rfl,rfl,rfl,rfl,trivial⟩ rfl⟩
    · try simp only [z1,z2,z3,z4,z5,z6,z7] at hc
      have hnl:lv - n=0:=pow_one (by rw [← hm]; omega)
      obtain rfl:n=lv:=by omega
      refine wp_exit (then_e (then_e (blk_hit (then_n (wp_seq (wp_reg ?_))))))
      refine zM hs fun ac hs=>?_
      refine zA hs fun ac hs=>?_
      refine s_end ?_
      replace hs:=hs.sub (F':=[(8,_)]) ⟨rfl,trivial⟩
      refine then_n (wp_ret ?_)
      refine s_ret hs rfl (.tmp (hs.tmp rfl) .nil) rfl ⟨_,rfl,hs.fr,?_⟩
      exact ⟨_,⟨ps,hps,rfl⟩,(hs.pick (L':=[_]) (.cons_cons _ (.cons _ (.cons _ .slnil)))).made⟩
end Go.Proofs.YtklajbdbnnceiaaGreat
end

section
/- The next element,costs. -/
namespace Go.Proofs.YtklajbdbnnceiaaGreat
open Go Go.Fw
open Sha
def upB (d:Int) (ep sq:UInt32) (r:Int) (e:List UInt8) (x:Int):List UInt8:=if rightB r x=true then lNode d ep sq r e (levels x).toNat 0 else List.replicate 16 0
def upN (r x:Int):Int:=if rightB r x=true then 0 else 1
theorem upB_length (d:Int) (ep sq:UInt32) (r:Int) (e:List UInt8) (x:Int):(upB d ep sq r e x).length=16:=by
  unfold upB
  split
  · exact lNode_length _ _ _ _ _ _ _
  · simp
theorem levels_lv {x:Int} (h:0≤levels x):∃ lv W:Nat,lv≤3∧W=2 ^ lv∧x=(W:Int)∧levels x=lv:=by
  rcases levels_cases x with ⟨rfl,e⟩ | ⟨rfl,e⟩ | ⟨rfl,e⟩ | ⟨rfl,e⟩ | ⟨_,_,_,_,e⟩
  · exact ⟨0,1,by decide,rfl,rfl,e⟩
  · exact ⟨1,2,by decide,rfl,rfl,e⟩
  · exact ⟨2,4,by decide,rfl,rfl,e⟩
  · exact ⟨3,8,by decide,rfl,rfl,e⟩
  · omega
theorem right_lv {r x:Int} (h:rightB r x=true):∃ lv W:Nat,lv≤3∧W=2 ^ lv∧x=(W:Int)∧levels x=lv:=by
  unfold rightB at h
  rw [Bool.and_eq_true,decide_eq_true_iff] at h
  exact levels_lv h.2
theorem nodeTs_le (d:Int) (ep sq:UInt32) (r:Int) (e:List UInt8):∀ n q,n≤4→(lNodeTs d ep sq r e n q).length≤100
  | 0,q,_=>by simp [lNodeTs,nodeTs,lLt]
  | 1,q,_=>by simp [lNodeTs,nodeTs,lLt]
  | 2,q,_=>by simp [lNodeTs,nodeTs,lLt]
  | 3,q,_=>by simp [lNodeTs,nodeTs,lLt]
  | 4,q,_=>by simp [lNodeTs,nodeTs,lLt]
  | n + 5,q,h=>by omega
theorem ladder_Up (d:Int) (ep sq:UInt32) (r:Int) (e:List UInt8) (x:Int) (hel:e.length=16) (w:World) :Ctr Tryz.prog 118 [.agg #[I d,U ep,U sq],I r,.agg (e.map B).toArray,I x] w (fun _=>False) (fun v _=>v=.tuple #[.agg ((upB d ep sq r e x).map B).toArray,I (upN r x)]):=by
  refine fn_start (N:=29) Tryz.func118 rfl rfl rfl fun ac hk=>?_
  have hs:=St.start hk w
  refine wp_seq (wp_reg ?_)
  refine s_box hs rfl rfl rfl fun ac ww g4 hs=>?_
  refine s_box hs rfl rfl rfl fun ac ww g6 hs=>?_
  refine s_alloc hs ty36 rfl fun ac ww g8 hs=>?_
  refine zA hs fun ac hs=>?_
  refine s_end ?_
  replace hs:=hs.sub (F':=[(1,_),(3,_),(4,_),(6,_),(8,_),(9,_)]) ⟨rfl,rfl,rfl,rfl,rfl,rfl,trivial⟩
  refine then_n (wp_seq (wp_seq (wp_reg ?_)))
  refine zM hs fun ac hs=>?_
  refine zM hs fun ac hs=>?_
  refine s_call hs fu114 (.cons (hs.ev rfl) (.cons (hs.ev rfl) .nil)) (ladder_right r x _) rfl fun ac ww v13 hf hp hs=>?_
  obtain rfl:=hp
  replace hs:=hs [] (.nil _ _)
  refine s_q hs (c_not (hs.ev rfl)) rfl fun ac hs=>?_
  refine s_end ?_
  replace hs:=hs.sub (F':=[(1,_),(3,_),(4,_),(6,_),(8,_),(9,_),(14,_)]) ⟨rfl,rfl,rfl,rfl,rfl,rfl,rfl,trivial⟩
  refine then_n ?_
  refine s_cond hs rfl (fun hc=>?_) (fun hc=>?_)
  · try simp only [z1,z2,z3,z4,z5,z6,z7] at hc
    have hno:¬ rightB r x=true:=by simpa using hc
    refine wp_seq (wp_reg ?_)
    refine s_q hs (c_buildA ty36 un36 ty5 (zc:=(List.replicate 16 (0:UInt8)).map B) (vs:=[]) .nil (by simp) (by simp [flatCells]) rfl) rfl fun ac hs=>?_
    refine s_storeW (i:=0) hs ty36 rfl rfl rfl (by simp) (all_map_B _) rfl fun ww hs=>?_
    refine zA hs fun ac hs=>?_
    refine s_end ?_
    replace hs:=hs.sub (F':=[(1,_),(3,_),(4,_),(6,_),(8,_),(9,_)]) ⟨rfl,rfl,rfl,rfl,rfl,rfl,trivial⟩
    refine then_n (wp_ret (then_r ?_))
    refine s_ret hs rfl (.cell (hs.tmp rfl) (run_loadA ty36 rfl (hs.seg (i:=0) rfl) (List.take_of_length_le (by simp)) (by simp)) (.tmp (hs.tmp rfl) .nil)) rfl ⟨_,rfl,hs.fr,?_⟩
    show Value.tuple _=Value.tuple _
    rw [upB,upN,if_neg hno,if_neg hno]
    rfl
  · try simp only [z1,z2,z3,z4,z5,z6,z7] at hc
    have hr:rightB r x=true:=by simpa using hc
    obtain ⟨lv,W,hlv,hW,rfl,hxl⟩:=right_lv hr
    refine wp_skip (then_n (wp_seq (wp_reg ?_)))
    refine s_q hs (c_loadW ty165 ag165 (hs.ev rfl) (hs.seg (i:=2) rfl) (by rfl)) rfl fun ac hs=>?_
    refine zM hs fun ac hs=>?_
    refine s_q hs (c_loadW ty36 rfl (hs.ev rfl) (hs.seg (i:=1) rfl) (by rw [List.length_map,hel])) rfl fun ac hs=>?_
    refine zM hs fun ac hs=>?_
    refine s_call hs fu115 (.cons (hs.ev rfl) (.cons (hs.ev rfl) (.cons (hs.ev rfl) (.cons (hs.ev rfl) .nil)))) (ladder_tree d ep sq r e W lv hW hlv hel _) rfl fun ac ww v20 hf hp hs=>?_
    obtain ⟨L',⟨ps,hps,rfl⟩,hh⟩:=hp
    replace hs:=hs _ hh
    have hpl:ps.length=lv + 1:=by have:=congrArg List.length hps; simpa using this
    obtain ⟨og,ocap,ocur,rfl,hog,hon,hom,hot⟩:=texts_at (hs.get (i:=0) rfl) (by omega)
    have hz:=snd_at hps (Nat.lt_succ_self lv) (.nilIface,0,[])
    have ho:ww.ownsRow 0 36 16 (ps.getD lv (.nilIface,0,[])).1 (ps.getD lv (.nilIface,0,[])).2.1 ((ps.getD lv (.nilIface,0,[])).2.2.map B):=texts_part (hs.get (i:=0) rfl) (k:=lv) (by omega) (.nilIface,0,[])
    rw [hz] at ho
    simp only [lRow,Nat.sub_self,Nat.pow_zero] at ho
    obtain ⟨rg,rcap,rcur,hre,hrg,hrn,hrm,hrt⟩:=owns_at ho (by decide)
    refine zA hs fun ac hs=>?_
    refine s_end ?_
    replace hs:=hs.sub (F':=[(8,_),(9,_),(10,_)]) ⟨rfl,rfl,rfl,trivial⟩
    refine then_n (wp_seq (wp_reg ?_))
    refine zM hs fun ac hs=>?_
    refine zM hs fun ac hs=>?_
    refine s_q hs (c_lenS un209 (hs.ev rfl)) rfl fun ac hs=>?_
    refine s_q hs (c_subI (hs.ev rfl) (hs.ev rfl) (by omega) (by omega)) rfl fun ac hs=>?_
    refine s_q hs (c_idxS (j:=lv) un209 ty39 (hs.ev rfl) (hs.ev rfl) (by omega) (by omega)) rfl fun ac hs=>?_
    refine s_q hs (c_loadS un39 rfl (hs.ev rfl) hog ((outcell (.nilIface,0,[]) hot (by omega)).trans (congrArg some hre))) rfl fun ac hs=>?_
    refine s_q hs (c_idxS un39 ty36 (hs.ev rfl) (hs.ev rfl) rfl (show 0 < 1 by decide)) rfl fun ac hs=>?_
    refine s_q hs (c_loadA ty36 rfl (hs.ev rfl) hrg ((rowpiece (i:=0) hrt (by rw [lrows_length]) (by decide)).trans (by rw [rows_piece (lNode_length d ep sq r e lv) (by decide)])) (by rw [List.length_map]; exact lNode_length _ _ _ _ _ _ _)) rfl fun ac hs=>?_
    refine s_storeW (i:=1) hs ty36 rfl rfl rfl (by rw [List.length_map]; exact lNode_length _ _ _ _ _ _ _) (all_map_B _) rfl fun ww hs=>?_
    refine zA hs fun ac hs=>?_
    refine s_end ?_
    replace hs:=hs.sub (F':=[(8,_),(9,_)]) ⟨rfl,rfl,trivial⟩
    refine then_n (wp_ret ?_)
    refine s_ret hs rfl (.cell (hs.tmp rfl) (run_loadA ty36 rfl (hs.seg (i:=1) rfl) (List.take_of_length_le (show (List.map B (lNode d ep sq r e lv 0)).length≤16 by rw [List.length_map,lNode_length]; exact Nat.le_refl _)) (show (List.map B (lNode d ep sq r e lv 0)).length=16 by rw [List.length_map,lNode_length])) (.tmp (hs.tmp rfl) .nil)) rfl ⟨_,rfl,hs.fr,?_⟩
    show Value.tuple _=Value.tuple _
    rw [upB,upN,if_pos hr,if_pos hr,hxl]
    rfl
end Go.Proofs.YtklajbdbnnceiaaGreat
end

section
/- What stands in a tree,and the next element,as the document has them. -/
namespace Go.Proofs.YtklajbdbnnceiaaGreat
open Go Go.Fw
open Sha
theorem ref06_Node_step (d:Int) (ep sq:UInt32) (r:Int) (e:List UInt8) (hel:e.length=16) (n q:Nat) (hn:n≤3) (hq:q < 2 ^ (20 - n)) (ih:∀ m:Nat,m < n→∀ q2:Nat,q2 < 2 ^ (20 - m)→∀ w:World,Ctr Tryz.prog 87 [.agg #[I d,U ep,U sq],I r,.agg (e.map B).toArray,I (m:Nat),I (q2:Nat)] w (fun _=>False) (outE (tupE (.agg ((lNode d ep sq r e m q2).map B).toArray) (textsE 177 5 (lNodeTs d ep sq r e m q2))) w)) (w:World) :Ctr Tryz.prog 87 [.agg #[I d,U ep,U sq],I r,.agg (e.map B).toArray,I n,I q] w (fun _=>False) (outE (tupE (.agg ((lNode d ep sq r e n q).map B).toArray) (textsE 177 5 (lNodeTs d ep sq r e n q))) w):=by
  refine fn_start (N:=70) Tryz.func87 rfl rfl rfl fun ac hk=>?_
  have hs:=St.start hk w
  refine wp_seq (wp_reg ?_)
  refine s_box hs rfl rfl rfl fun ac ww g5 hs=>?_
  refine s_box hs rfl rfl rfl fun ac ww g7 hs=>?_
  refine s_alloc hs ty35 rfl fun ac ww g10 hs=>?_
  refine zA hs fun ac hs=>?_
  refine s_end ?_
  replace hs:=hs.sub (F':=[(1,_),(3,_),(4,_),(5,_),(7,_),(10,_),(11,_)]) ⟨rfl,rfl,rfl,rfl,rfl,rfl,rfl,trivial⟩
  refine then_n (wp_seq (wp_seq (wp_reg ?_)))
  refine zM hs fun ac hs=>?_
  refine s_q hs (c_eqlI (hs.ev rfl) (hs.ev rfl)) rfl fun ac hs=>?_
  refine s_end ?_
  replace hs:=hs.sub (F':=[(1,_),(3,_),(4,_),(5,_),(7,_),(10,_),(11,_),(20,_)]) ⟨rfl,rfl,rfl,rfl,rfl,rfl,rfl,rfl,trivial⟩
  refine then_n ?_
  refine s_cond hs rfl (fun hc=>?_) (fun hc=>?_)
  · try simp only [z1,z2,z3,z4,z5,z6,z7] at hc
    obtain rfl:n=0:=by omega
    refine wp_seq (wp_reg ?_)
    refine s_q hs (c_loadW ty157 ag157 (hs.ev rfl) (hs.seg (i:=2) rfl) (by rfl)) rfl fun ac hs=>?_
    refine zM hs fun ac hs=>?_
    refine s_q hs (c_loadW ty35 rfl (hs.ev rfl) (hs.seg (i:=1) rfl) (by rw [List.length_map,hel])) rfl fun ac hs=>?_
    refine zM hs fun ac hs=>?_
    refine s_call hs fu121 (.cons (hs.ev rfl) (.cons (hs.ev rfl) (.cons (hs.ev rfl) (.cons (hs.ev rfl) .nil)))) (ref06_LeafText d ep sq r e (q:Int) hel _) rfl fun ac ww v25 hf hp hs=>?_
    obtain ⟨L',hv,hh⟩:=hp
    subst hv
    replace hs:=hs _ hh
    obtain ⟨qad,qcap,rfl,_,_⟩:=Rd.sl (RdB.row (hs.get (i:=0) rfl))
    refine zA hs fun ac hs=>?_
    refine s_end ?_
    replace hs:=hs.sub (F':=[(1,_),(3,_),(4,_),(5,_),(7,_),(10,_),(11,_),(12,_)]) ⟨rfl,rfl,rfl,rfl,rfl,rfl,rfl,rfl,trivial⟩
    refine then_n (wp_seq (wp_reg ?_))
    refine zM hs fun ac hs=>?_
    refine s_call hs fu86 (.cons (hs.ev rfl) .nil) (ref06_Of 76 (placeB d ep sq r++e++[i8 q]) _ (by simp [hel]) _ (RdB.row (hs.get (i:=0) rfl))) rfl fun ac ww v27 hf hp hs=>?_
    obtain rfl:=hp
    replace hs:=hs [] (.nil _ _)
    refine zM hs fun ac hs=>?_
    refine s_bslice hs un87 ty177 (.cons (hs.ev rfl) .nil) rfl (by simp [Value.cells]) (by decide) rfl rfl fun ac ww g29 hs=>?_
    refine s_storeW (i:=2) hs ty35 rfl rfl rfl (by simp) (all_map_B _) rfl fun ww hs=>?_
    refine zA hs fun ac hs=>?_
    refine s_end ?_
    replace hs:=(hs.segrow (i:=0) (n:=1) (sz:=1) rfl rfl (by decide)).texts1 (i:=0) (j:=1) (pt:=Ent.part 5) (z:=leafX d ep sq r e (q:Int)) rfl rfl rfl
    replace hs:=hs.sub (F':=[(1,_),(3,_),(4,_),(5,_),(7,_),(10,_),(11,_)]) ⟨rfl,rfl,rfl,rfl,rfl,rfl,rfl,trivial⟩
    refine then_n (wp_ret (then_r ?_))
    refine s_ret hs rfl (.cell (hs.tmp rfl) (run_loadA ty35 rfl (hs.seg (i:=2) rfl) (List.take_of_length_le (by simp)) (by simp)) (.tmp (hs.tmp rfl) .nil)) rfl ⟨_,rfl,hs.fr,?_⟩
    exact ⟨_,⟨_,rfl,_,rfl,rfl⟩,(hs.pick (L':=[_]) (.cons_cons _ (List.nil_sublist _))).made⟩
  · try simp only [z1,z2,z3,z4,z5,z6,z7] at hc
    obtain ⟨m,rfl⟩:∃ m,n=m + 1:=⟨n - 1,by omega⟩
    have hq2:2 ^ (20 - m)=2 * 2 ^ (20 - (m + 1)):=by rw [show 20 - m=20 - (m + 1) + 1 from by omega,Nat.pow_succ]; omega
    refine wp_skip (then_n (wp_seq (wp_reg ?_)))
    refine s_q hs (c_loadW ty157 ag157 (hs.ev rfl) (hs.seg (i:=2) rfl) (by rfl)) rfl fun ac hs=>?_
    refine zM hs fun ac hs=>?_
    refine s_q hs (c_loadW ty35 rfl (hs.ev rfl) (hs.seg (i:=1) rfl) (by rw [List.length_map,hel])) rfl fun ac hs=>?_
    refine zM hs fun ac hs=>?_
    refine s_q hs (c_to (c_subI (hs.ev rfl) (hs.ev rfl) (by omega) (by omega)) ((congrArg I (show (((m + 1:Nat):Int) - 1=(m:Int)) by omega)))) rfl fun ac hs=>?_
    refine zM hs fun ac hs=>?_
    refine s_q hs (c_to (c_mulI (hs.ev rfl) (hs.ev rfl) (by have:=Nat.pow_le_pow_right (show 0 < 2 by decide) (show 20 - (m + 1)≤20 by omega); omega) (by have:=Nat.pow_le_pow_right (show 0 < 2 by decide) (show 20 - (m + 1)≤20 by omega); omega)) ((congrArg I (show (2 * (q:Int))=((2 * q:Nat):Int) by omega)))) rfl fun ac hs=>?_
    refine s_call hs fu87 (.cons (hs.ev rfl) (.cons (hs.ev rfl) (.cons (hs.ev rfl) (.cons (hs.ev rfl) (.cons (hs.ev rfl) .nil))))) (ih m (by omega) (2 * q) (by omega) _) rfl fun ac ww v38 hf hp hs=>?_
    obtain ⟨L',⟨tv1,rfl,ps1,hps1,rfl⟩,hh⟩:=hp
    replace hs:=hs _ hh
    have hpl1:ps1.length≤100:=by have:=congrArg List.length hps1; rw [List.length_map] at this; rw [this]; exact nodeTs_le _ _ _ _ _ _ _ (by omega)
    refine zM hs fun ac hs=>?_
    refine s_q hs (c_extract (hs.ev rfl) rfl) rfl fun ac hs=>?_
    refine s_q hs (c_extract (hs.ev rfl) rfl) rfl fun ac hs=>?_
    refine s_alloc hs ty35 rfl fun ac ww g13 hs=>?_
    refine s_storeW (i:=0) hs ty35 rfl rfl rfl (by rw [List.length_map]; exact lNode_length _ _ _ _ _ _ _) (all_map_B _) rfl fun ww hs=>?_
    refine zA hs fun ac hs=>?_
    refine s_end ?_
    replace hs:=hs.sub (F':=[(1,_),(3,_),(4,_),(5,_),(7,_),(10,_),(11,_),(13,_),(14,_)]) ⟨rfl,rfl,rfl,rfl,rfl,rfl,rfl,rfl,rfl,trivial⟩
    refine then_n (wp_seq (wp_reg ?_))
    refine s_q hs (c_loadW ty157 ag157 (hs.ev rfl) (hs.seg (i:=4) rfl) (by rfl)) rfl fun ac hs=>?_
    refine zM hs fun ac hs=>?_
    refine s_q hs (c_loadW ty35 rfl (hs.ev rfl) (hs.seg (i:=3) rfl) (by rw [List.length_map,hel])) rfl fun ac hs=>?_
    refine zM hs fun ac hs=>?_
    refine s_q hs (c_to (c_subI (hs.ev rfl) (hs.ev rfl) (by omega) (by omega)) ((congrArg I (show (((m + 1:Nat):Int) - 1=(m:Int)) by omega)))) rfl fun ac hs=>?_
    refine zM hs fun ac hs=>?_
    refine s_q hs (c_mulI (hs.ev rfl) (hs.ev rfl) (by have:=Nat.pow_le_pow_right (show 0 < 2 by decide) (show 20 - (m + 1)≤20 by omega); omega) (by have:=Nat.pow_le_pow_right (show 0 < 2 by decide) (show 20 - (m + 1)≤20 by omega); omega)) rfl fun ac hs=>?_
    refine s_q hs (c_to (c_addI (hs.ev rfl) (hs.ev rfl) (by omega) (by have:=Nat.pow_le_pow_right (show 0 < 2 by decide) (show 20 - (m + 1)≤20 by omega); omega)) ((congrArg I (show (2 * (q:Int) + 1)=((2 * q + 1:Nat):Int) by omega)))) rfl fun ac hs=>?_
    refine s_call hs fu87 (.cons (hs.ev rfl) (.cons (hs.ev rfl) (.cons (hs.ev rfl) (.cons (hs.ev rfl) (.cons (hs.ev rfl) .nil))))) (ih m (by omega) (2 * q + 1) (by omega) _) rfl fun ac ww v50 hf hp hs=>?_
    obtain ⟨L',⟨tv2,rfl,ps2,hps2,rfl⟩,hh⟩:=hp
    replace hs:=hs _ hh
    have hpl2:ps2.length≤100:=by have:=congrArg List.length hps2; rw [List.length_map] at this; rw [this]; exact nodeTs_le _ _ _ _ _ _ _ (by omega)
    refine zM hs fun ac hs=>?_
    refine s_q hs (c_extract (hs.ev rfl) rfl) rfl fun ac hs=>?_
    refine s_q hs (c_extract (hs.ev rfl) rfl) rfl fun ac hs=>?_
    refine s_alloc hs ty35 rfl fun ac ww g15 hs=>?_
    refine s_storeW (i:=0) hs ty35 rfl rfl rfl (by rw [List.length_map]; exact lNode_length _ _ _ _ _ _ _) (all_map_B _) rfl fun ww hs=>?_
    refine zA hs fun ac hs=>?_
    refine s_end ?_
    replace hs:=hs.sub (F':=[(1,_),(5,_),(10,_),(11,_),(13,_),(14,_),(15,_),(16,_)]) ⟨rfl,rfl,rfl,rfl,rfl,rfl,rfl,rfl,trivial⟩
    refine then_n (wp_seq (wp_reg ?_))
    refine s_q hs (c_loadW ty157 ag157 (hs.ev rfl) (hs.seg (i:=6) rfl) (by rfl)) rfl fun ac hs=>?_
    refine zM hs fun ac hs=>?_
    refine s_q hs (c_loadW ty35 rfl (hs.ev rfl) (hs.seg (i:=2) rfl) (by rw [List.length_map]; exact lNode_length _ _ _ _ _ _ _)) rfl fun ac hs=>?_
    refine s_q hs (c_loadW ty35 rfl (hs.ev rfl) (hs.seg (i:=0) rfl) (by rw [List.length_map]; exact lNode_length _ _ _ _ _ _ _)) rfl fun ac hs=>?_
    refine s_call hs fu122 (.cons (hs.ev rfl) (.cons (hs.ev rfl) (.cons (hs.ev rfl) (.cons (hs.ev rfl) .nil)))) (ref06_JoinText d ep sq r (lNode d ep sq r e m (2 * q)) (lNode d ep sq r e m (2 * q + 1)) (lNode_length _ _ _ _ _ _ _) (lNode_length _ _ _ _ _ _ _) _) rfl fun ac ww v57 hf hp hs=>?_
    obtain ⟨L',hv,hh⟩:=hp
    subst hv
    replace hs:=hs _ hh
    obtain ⟨qad,qcap,rfl,_,_⟩:=Rd.sl (RdB.row (hs.get (i:=0) rfl))
    refine zA hs fun ac hs=>?_
    refine s_end ?_
    replace hs:=hs.sub (F':=[(10,_),(11,_),(14,_),(16,_),(17,_)]) ⟨rfl,rfl,rfl,rfl,rfl,trivial⟩
    refine then_n (wp_seq (wp_reg ?_))
    refine zA hs fun ac hs=>?_
    refine s_end ?_
    replace hs:=hs.texts0 177 (Ent.part 5)
    refine then_n (wp_seq (wp_reg ?_))
    refine zM hs fun ac hs=>?_
    refine zM hs fun ac hs=>?_
    refine s_appTT (i:=0) (j:=5) hs un87 ty177 rfl rfl rfl rfl rfl (RdP.ones (RdP.texts (hs.get (i:=5) rfl))) (by simp only [List.length_nil]; omega) rfl fun ac ww v60 hs=>?_
    refine zA hs fun ac hs=>?_
    refine s_end ?_
    replace hs:=hs.sub (F':=[(10,_),(11,_),(16,_),(17,_),(18,_)]) ⟨rfl,rfl,rfl,rfl,rfl,trivial⟩
    refine then_n (wp_seq (wp_reg ?_))
    refine zM hs fun ac hs=>?_
    refine zM hs fun ac hs=>?_
    refine s_appTT (i:=0) (j:=3) hs un87 ty177 rfl rfl rfl rfl rfl (RdP.ones (RdP.texts (hs.get (i:=3) rfl))) (by simp only [List.length_append,List.length_nil]; omega) rfl fun ac ww v63 hs=>?_
    refine zA hs fun ac hs=>?_
    refine s_end ?_
    replace hs:=hs.sub (F':=[(10,_),(11,_),(17,_),(18,_)]) ⟨rfl,rfl,rfl,rfl,trivial⟩
    refine then_n (wp_seq (wp_reg ?_))
    refine zM hs fun ac hs=>?_
    refine s_call hs fu86 (.cons (hs.ev rfl) .nil) (ref06_Of 74 (placeB d ep sq r++lNode d ep sq r e m (2 * q)++lNode d ep sq r e m (2 * q + 1)) _ (by simp [lNode_length]) _ (RdB.row (hs.get (i:=1) rfl))) rfl fun ac ww v65 hf hp hs=>?_
    obtain rfl:=hp
    replace hs:=hs [] (.nil _ _)
    refine zM hs fun ac hs=>?_
    refine zM hs fun ac hs=>?_
    refine s_bslice hs un87 ty177 (.cons (hs.ev rfl) .nil) rfl (by simp [Value.cells]) (by decide) rfl rfl fun ac ww g68 hs=>?_
    refine s_appT (i:=1) (j:=2) hs un87 ty177 rfl rfl rfl rfl rfl (hs.seg (i:=0) rfl) rfl (by simp only [List.length_append,List.length_nil]; omega) rfl fun ac ww v69 hs=>?_
    refine s_storeW (i:=7) hs ty35 rfl rfl rfl (by simp) (all_map_B _) rfl fun ww hs=>?_
    refine zA hs fun ac hs=>?_
    refine s_end ?_
    replace hs:=hs.sub (F':=[(10,_),(11,_)]) ⟨rfl,rfl,trivial⟩
    refine then_n (wp_ret ?_)
    refine s_ret hs rfl (.cell (hs.tmp rfl) (run_loadA ty35 rfl (hs.seg (i:=7) rfl) (List.take_of_length_le (by simp)) (by simp)) (.tmp (hs.tmp rfl) .nil)) rfl ⟨_,rfl,hs.fr,?_⟩
    exact ⟨_,⟨_,rfl,_,by rw [List.map_append,List.map_append,List.map_append,hps1,hps2]; rfl,rfl⟩,(hs.pick (L':=[_]) (.cons _ (.cons_cons _ (List.nil_sublist _)))).made⟩
theorem ref06_Node (d:Int) (ep sq:UInt32) (r:Int) (e:List UInt8) (hel:e.length=16):∀ (n:Nat),n≤3→∀ q:Nat,q < 2 ^ (20 - n)→∀ w:World,Ctr Tryz.prog 87 [.agg #[I d,U ep,U sq],I r,.agg (e.map B).toArray,I (n:Nat),I (q:Nat)] w (fun _=>False) (outE (tupE (.agg ((lNode d ep sq r e n q).map B).toArray) (textsE 177 5 (lNodeTs d ep sq r e n q))) w):=by
  intro n
  induction n using Nat.strongRecOn with
  | _ n ih=>exact fun hn q hq w=>ref06_Node_step d ep sq r e hel n q hn hq (fun m hm q2 hq2 w=>ih m hm (by omega) q2 hq2 w) w
theorem ref06_Up (d:Int) (ep sq:UInt32) (r:Int) (e:List UInt8) (x:Int) (hel:e.length=16) (w:World) :Ctr Tryz.prog 111 [.agg #[I d,U ep,U sq],I r,.agg (e.map B).toArray,I x] w (fun _=>False) (fun v _=>v=.tuple #[.agg ((upB d ep sq r e x).map B).toArray,I (upN r x)]):=by
  refine fn_start (N:=27) Tryz.func111 rfl rfl rfl fun ac hk=>?_
  have hs:=St.start hk w
  refine wp_seq (wp_reg ?_)
  refine s_box hs rfl rfl rfl fun ac ww g4 hs=>?_
  refine s_box hs rfl rfl rfl fun ac ww g6 hs=>?_
  refine s_alloc hs ty35 rfl fun ac ww g8 hs=>?_
  refine zA hs fun ac hs=>?_
  refine s_end ?_
  replace hs:=hs.sub (F':=[(1,_),(3,_),(4,_),(6,_),(8,_),(9,_)]) ⟨rfl,rfl,rfl,rfl,rfl,rfl,trivial⟩
  refine then_n (wp_seq (wp_seq (wp_reg ?_)))
  refine zM hs fun ac hs=>?_
  refine zM hs fun ac hs=>?_
  refine s_call hs fu116 (.cons (hs.ev rfl) (.cons (hs.ev rfl) .nil)) (ref06_Right r x _) rfl fun ac ww v14 hf hp hs=>?_
  obtain rfl:=hp
  replace hs:=hs [] (.nil _ _)
  refine s_q hs (c_not (hs.ev rfl)) rfl fun ac hs=>?_
  refine s_end ?_
  replace hs:=hs.sub (F':=[(1,_),(3,_),(4,_),(6,_),(8,_),(9,_),(15,_)]) ⟨rfl,rfl,rfl,rfl,rfl,rfl,rfl,trivial⟩
  refine then_n ?_
  refine s_cond hs rfl (fun hc=>?_) (fun hc=>?_)
  · try simp only [z1,z2,z3,z4,z5,z6,z7] at hc
    have hno:¬ rightB r x=true:=by simpa using hc
    refine wp_seq (wp_reg ?_)
    refine s_q hs (c_buildA ty35 un35 ty5 (zc:=(List.replicate 16 (0:UInt8)).map B) (vs:=[]) .nil (by simp) (by simp [flatCells]) rfl) rfl fun ac hs=>?_
    refine s_storeW (i:=0) hs ty35 rfl rfl rfl (by simp) (all_map_B _) rfl fun ww hs=>?_
    refine zA hs fun ac hs=>?_
    refine s_end ?_
    replace hs:=hs.sub (F':=[(1,_),(3,_),(4,_),(6,_),(8,_),(9,_)]) ⟨rfl,rfl,rfl,rfl,rfl,rfl,trivial⟩
    refine then_n (wp_ret (then_r ?_))
    refine s_ret hs rfl (.cell (hs.tmp rfl) (run_loadA ty35 rfl (hs.seg (i:=0) rfl) (List.take_of_length_le (by simp)) (by simp)) (.tmp (hs.tmp rfl) .nil)) rfl ⟨_,rfl,hs.fr,?_⟩
    show Value.tuple _=Value.tuple _
    rw [upB,upN,if_neg hno,if_neg hno]
    rfl
  · try simp only [z1,z2,z3,z4,z5,z6,z7] at hc
    have hr:rightB r x=true:=by simpa using hc
    obtain ⟨lv,W,hlv,hW,rfl,hxl⟩:=right_lv hr
    refine wp_skip (then_n (wp_seq ?_))
    refine wp_region_rgX (J:=[8]) pmix 10 (by kernel_rfl) (by kernel_rfl) rfl rfl hs ?_
    simp only [List.take_succ_cons,List.take_zero]
    refine rg_q (fun ac ww h=>c_loadW ty157 ag157 (h.ev rfl) (h.blk (hs.seg (i:=2) rfl)) (by rfl)) rfl ?_
    refine rg_q (fun ac ww h=>c_move (h.ev rfl)) rfl ?_
    refine rg_q (fun ac ww h=>c_loadW ty35 rfl (h.ev rfl) (h.blk (hs.seg (i:=1) rfl)) (by rw [List.length_map,hel])) rfl ?_
    refine rg_q (fun ac ww h=>c_move (h.ev rfl)) rfl ?_
    refine rg_call fu88 (fun ac ww h=>(.cons (h.ev rfl) .nil)) (fun ww hf=>(by have h:=ref06_Levels (W:Int) ww; rw [hxl] at h; exact h)) rfl ?_
    refine rg_callE (tupE (.agg ((lNode d ep sq r e lv 0).map B).toArray) (textsE 177 5 (lNodeTs d ep sq r e lv 0))) (fun _ _ _ _ _ h=>h) fu87 (fun ac ww h=>?_) rfl ?_
    · exact ⟨_,.cons (h.ev rfl) (.cons (h.ev rfl) (.cons (h.ev rfl) (.cons (h.ev rfl) (.cons (h.ev rfl) .nil)))),ref06_Node d ep sq r e hel lv hlv 0 (Nat.two_pow_pos _) _⟩
    refine rg_moveT rfl rfl rfl ?_
    refine rg_ext0 rfl rfl rfl ?_
    refine rg_ext1 rfl rfl rfl ?_
    refine rg_alloc ty35 rfl ?_
    refine rg_nil fun ac ww L' hf hfe hs hlk=>?_
    simp only [List.drop_succ_cons,List.drop_zero]
    obtain ⟨v10,L10,M10,h10,e10,⟨v25,L25,M25,h25,e25,⟨v17,L17,M17,h17,e17,⟨v23,L23,M23,h23,e23,rfl,rfl⟩,rfl⟩,rfl⟩,rfl⟩:=hfe
    replace hs:=hs.add h10
    replace hs:=hs.add h25
    replace hs:=hs.add h17
    replace hs:=hs.add h23
    obtain ⟨g10,rfl,rfl⟩:=e10
    obtain ⟨tv23,rfl,e23⟩:=e23
    obtain ⟨-,rfl⟩:=e17
    obtain rfl:=lk_move (j:=6) hlk (by decide) rfl (by kernel_rfl) h17 h23
    obtain ⟨-,rfl⟩:=e25
    obtain rfl:=lk_ext (j:=8) hlk (by decide) rfl (by kernel_rfl) h25 h17 rfl
    obtain ⟨ps23,hps23,rfl⟩:=e23
    refine sk_storeW (i:=0) hs ty35 rfl rfl rfl (by rw [List.length_map]; exact lNode_length _ _ _ _ _ _ _) (all_map_B _) rfl (fun ww hs=>late_turn rfl rfl (late_nil)) fun ww hs=>?_
    refine zA hs fun ac hs=>?_
    refine s_end ?_
    replace hs:=hs.sub (F':=[(8,_),(9,_),(10,_)]) ⟨rfl,rfl,rfl,trivial⟩
    refine then_n (wp_seq (wp_reg ?_))
    refine s_q hs (c_loadW ty35 rfl (hs.ev rfl) (hs.seg (i:=0) rfl) (by rw [List.length_map]; exact lNode_length _ _ _ _ _ _ _)) rfl fun ac hs=>?_
    refine s_storeW (i:=2) hs ty35 rfl rfl rfl (by rw [List.length_map]; exact lNode_length _ _ _ _ _ _ _) (all_map_B _) rfl fun ww hs=>?_
    refine zA hs fun ac hs=>?_
    refine s_end ?_
    replace hs:=hs.sub (F':=[(8,_),(9,_)]) ⟨rfl,rfl,trivial⟩
    refine then_n (wp_ret ?_)
    refine s_ret hs rfl (.cell (hs.tmp rfl) (run_loadA ty35 rfl (hs.seg (i:=2) rfl) (List.take_of_length_le (show (List.map B (lNode d ep sq r e lv 0)).length≤16 by rw [List.length_map,lNode_length]; exact Nat.le_refl _)) (show (List.map B (lNode d ep sq r e lv 0)).length=16 by rw [List.length_map,lNode_length])) (.tmp (hs.tmp rfl) .nil)) rfl ⟨_,rfl,hs.fr,?_⟩
    show Value.tuple _=Value.tuple _
    rw [upB,upN,if_pos hr,if_pos hr,hxl]
    rfl
end Go.Proofs.YtklajbdbnnceiaaGreat
end

section
/- Climbing. -/
namespace Go.Proofs.YtklajbdbnnceiaaGreat
open Go Go.Fw
open Sha
def climbN (d:Int) (ep sq:UInt32) (e:List UInt8) (r x:Int):Nat→List UInt8
  | 0=>e
  | n + 1=>upB d ep sq (r + n) (climbN d ep sq e r x n) x
theorem climbN_length {d:Int} {ep sq:UInt32} {e:List UInt8} {r x:Int} (he:e.length=16):∀ n,(climbN d ep sq e r x n).length=16
  | 0=>he
  | n + 1=>upB_length _ _ _ _ _ _
theorem climbN_add (d:Int) (ep sq:UInt32) (e:List UInt8) (r x:Int) (m:Nat):∀ n,climbN d ep sq e r x (m + n)=climbN d ep sq (climbN d ep sq e r x m) (r + m) x n
  | 0=>rfl
  | n + 1=>by
    rw [← Nat.add_assoc]
    simp only [climbN,climbN_add d ep sq e r x m n]
    rw [Int.add_assoc]
    simp
def climbOk (fr to x:Int):Bool:=decide (0≤fr) && decide (to≤16) && decide (fr≤to) && decide (0≤levels x)
def climbB (d:Int) (ep sq:UInt32) (e:List UInt8) (fr to x:Int):List UInt8:=if climbOk fr to x=true then climbN d ep sq e fr x (to - fr).toNat else List.replicate 16 0
def climbE (fr to x:Int):Int:=if climbOk fr to x=true then 0 else 1
theorem climbB_length {d:Int} {ep sq:UInt32} {e:List UInt8} {fr to x:Int} (he:e.length=16):(climbB d ep sq e fr to x).length=16:=by
  unfold climbB
  split
  · exact climbN_length he _
  · simp
theorem climbOk_iff {fr to x:Int}:climbOk fr to x=true ↔ 0≤fr∧to≤16∧fr≤to∧0≤levels x:=by
  unfold climbOk
  simp only [Bool.and_eq_true,decide_eq_true_iff,and_assoc]
theorem climb_two {d:Int} {ep sq:UInt32} {e:List UInt8} {fr mid to x:Int} (h1:climbOk fr mid x=true) (h2:climbOk mid to x=true):climbOk fr to x=true∧climbB d ep sq (climbB d ep sq e fr mid x) mid to x=climbB d ep sq e fr to x:=by
  have g1:=climbOk_iff.1 h1
  have g2:=climbOk_iff.1 h2
  have h3:climbOk fr to x=true:=climbOk_iff.2 ⟨g1.1,g2.2.1,by omega,g1.2.2.2⟩
  refine ⟨h3,?_⟩
  have e1:climbB d ep sq e fr mid x=climbN d ep sq e fr x (mid - fr).toNat:=if_pos h1
  rw [e1]
  have e2:∀ f,climbB d ep sq f mid to x=climbN d ep sq f mid x (to - mid).toNat:=fun f=>if_pos h2
  rw [e2]
  have e3:climbB d ep sq e fr to x=climbN d ep sq e fr x (to - fr).toNat:=if_pos h3
  rw [e3,show (to - fr).toNat=(mid - fr).toNat + (to - mid).toNat from by omega,climbN_add,show fr + ((mid - fr).toNat:Int)=mid from by omega]
theorem ladder_Climb (d:Int) (ep sq:UInt32) (e:List UInt8) (fr to x:Int) (hel:e.length=16) (hfr:-9223372036854775808≤fr) (hto:to≤9223372036854775807) (w:World) :Ctr Tryz.prog 84 [.agg #[I d,U ep,U sq],.agg (e.map B).toArray,I fr,I to,I x] w (fun _=>False) (fun v _=>v=.tuple #[.agg ((climbB d ep sq e fr to x).map B).toArray,I (climbE fr to x)]):=by
  refine fn_start (N:=45) Tryz.func84 rfl rfl rfl fun ac hk=>?_
  have hs:=St.start hk w
  refine wp_seq (wp_reg ?_)
  refine s_box hs rfl rfl rfl fun ac ww g5 hs=>?_
  refine s_box hs rfl rfl rfl fun ac ww g6 hs=>?_
  refine s_alloc hs ty36 rfl fun ac ww g10 hs=>?_
  refine zA hs fun ac hs=>?_
  refine s_end ?_
  replace hs:=hs.sub (F':=[(2,_),(3,_),(4,_),(5,_),(6,_),(10,_),(11,_)]) ⟨rfl,rfl,rfl,rfl,rfl,rfl,rfl,trivial⟩
  refine then_n (wp_seq (wp_seq (wp_reg ?_)))
  refine zM hs fun ac hs=>?_
  refine s_q hs (c_lssI (hs.ev rfl) (hs.ev rfl)) rfl fun ac hs=>?_
  refine zM hs fun ac hs=>?_
  refine s_g hs rfl rfl (fun hg=>c_move (hs.ev rfl)) rfl fun ac hs=>?_
  refine s_g hs rfl rfl (fun hg=>c_gtrI (gev (hs.ev rfl) hg) (hs.ev rfl)) rfl fun ac hs=>?_
  refine s_q hs (c_or (hs.ev rfl) (hs.ev rfl)) rfl fun ac hs=>?_
  refine zM hs fun ac hs=>?_
  refine s_g hs rfl rfl (fun hg=>c_move (hs.ev rfl)) rfl fun ac hs=>?_
  refine s_g hs rfl rfl (fun hg=>c_move (hs.ev rfl)) rfl fun ac hs=>?_
  refine s_g hs rfl rfl (fun hg=>c_gtrI (gev (hs.ev rfl) hg) (gev (hs.ev rfl) hg)) rfl fun ac hs=>?_
  refine s_q hs (c_or (hs.ev rfl) (hs.ev rfl)) rfl fun ac hs=>?_
  refine zM hs fun ac hs=>?_
  refine s_g hs rfl rfl (fun hg=>c_move (hs.ev rfl)) rfl fun ac hs=>?_
  refine s_gcall hs rfl rfl fu101 (fun hg=>(.cons (gev (hs.ev rfl) hg) .nil)) (fun hg=>ladder_Levels x _) rfl fun ac ww hf hs=>?_
  refine s_g hs rfl rfl (fun hg=>c_lssI (gev (hs.ev rfl) hg) (hs.ev rfl)) rfl fun ac hs=>?_
  refine s_q hs (c_or (hs.ev rfl) (hs.ev rfl)) rfl fun ac hs=>?_
  refine s_end ?_
  replace hs:=hs.sub (F':=[(2,_),(3,_),(4,_),(5,_),(6,_),(10,_),(11,_),(28,_)]) ⟨rfl,rfl,rfl,rfl,rfl,rfl,rfl,rfl,trivial⟩
  refine then_n ?_
  refine s_cond hs rfl (fun hc=>?_) (fun hc=>?_)
  · skip
    have hno:¬ climbOk fr to x=true:=fun h=>by
      have g:=climbOk_iff.1 h
      simp only [Bool.or_eq_true,decide_eq_true_eq] at hc
      omega
    refine wp_seq (wp_reg ?_)
    refine s_q hs (c_buildA ty36 un36 ty5 (zc:=(List.replicate 16 (0:UInt8)).map B) (vs:=[]) .nil (by simp) (by simp [flatCells]) rfl) rfl fun ac hs=>?_
    refine s_storeW (i:=0) hs ty36 rfl rfl rfl (by simp) (all_map_B _) rfl fun ww hs=>?_
    refine zA hs fun ac hs=>?_
    refine s_end ?_
    replace hs:=hs.sub (F':=[(2,_),(3,_),(4,_),(5,_),(6,_),(10,_),(11,_)]) ⟨rfl,rfl,rfl,rfl,rfl,rfl,rfl,trivial⟩
    refine then_n (wp_ret (then_r ?_))
    refine s_ret hs rfl (.cell (hs.tmp rfl) (run_loadA ty36 rfl (hs.seg (i:=0) rfl) (List.take_of_length_le (by simp)) (by simp)) (.tmp (hs.tmp rfl) .nil)) rfl ⟨_,rfl,hs.fr,?_⟩
    show Value.tuple _=Value.tuple _
    rw [climbB,climbE,if_neg hno,if_neg hno]
    rfl
  · skip
    have hyes:climbOk fr to x=true:=climbOk_iff.2 (by
      simp only [Bool.or_eq_false_iff,decide_eq_false_iff_not] at hc
      omega)
    have g:=climbOk_iff.1 hyes
    refine wp_skip (then_n (wp_seq (wp_seq (wp_reg ?_))))
    refine zM hs fun ac hs=>?_
    refine zA hs fun ac hs=>?_
    refine s_end ?_
    replace hs:=hs.sub (F':=[(3,_),(4,_),(5,_),(6,_),(10,_),(11,_),(12,_)]) ⟨rfl,rfl,rfl,rfl,rfl,rfl,rfl,trivial⟩
    refine then_n (wp_block ?_)
    refine s_loop hs (X:=Nat) (fun k=>[(12,I (fr + k))]) [(3,_),(4,_),(5,_),(6,_),(10,_),(11,_)] (fun k=>[_,.seg g6 ((climbN d ep sq e fr x k).map B) 36,_]) (fun n k=>(k:Int)≤to - fr∧n=(to - fr).toNat - k) (_) (0) (⟨by omega,rfl⟩) ⟨(congrArg (fun z=>some (I z)) (by omega)),rfl,rfl,rfl,rfl,rfl,rfl,trivial⟩ rfl ?_
    rintro n k ac ww hok hs
    simp only [List.cons_append,List.nil_append] at hs
    obtain ⟨hk,rfl⟩:=hok
    have hcl:=climbN_length (d:=d) (ep:=ep) (sq:=sq) (r:=fr) (x:=x) hel k
    refine wp_seq (wp_seq (wp_reg ?_))
    refine zM hs fun ac hs=>?_
    refine zM hs fun ac hs=>?_
    refine s_q hs (c_lssI (hs.ev rfl) (hs.ev rfl)) rfl fun ac hs=>?_
    refine s_end (then_n ?_)
    refine s_cond hs rfl (fun hc=>?_) (fun hc=>?_)
    · try simp only [z1,z2,z3,z4,z5,z6,z7] at hc
      refine wp_skip (then_n (wp_seq (wp_block (wp_reg ?_))))
      refine s_q hs (c_loadW ty165 ag165 (hs.ev rfl) (hs.seg (i:=2) rfl) (by rfl)) rfl fun ac hs=>?_
      refine zM hs fun ac hs=>?_
      refine s_q hs (c_loadW ty36 rfl (hs.ev rfl) (hs.seg (i:=1) rfl) (by rw [List.length_map,hcl])) rfl fun ac hs=>?_
      refine zM hs fun ac hs=>?_
      refine s_call hs fu118 (.cons (hs.ev rfl) (.cons (hs.ev rfl) (.cons (hs.ev rfl) (.cons (hs.ev rfl) .nil)))) (ladder_Up d ep sq (fr + k) (climbN d ep sq e fr x k) x hcl _) rfl fun ac ww v41 hf hp hs=>?_
      obtain rfl:=hp
      replace hs:=hs [] (.nil _ _)
      refine zM hs fun ac hs=>?_
      refine s_q hs (c_extract (hs.ev rfl) rfl) rfl fun ac hs=>?_
      refine s_q hs (c_extract (hs.ev rfl) rfl) rfl fun ac hs=>?_
      refine s_storeW (i:=1) hs ty36 rfl rfl rfl (by rw [List.length_map,upB_length]) (all_map_B _) (by rw [List.length_map,hcl]) fun ww hs=>?_
      refine s_end ?_
      replace hs:=hs.sub (F':=[(3,_),(4,_),(5,_),(6,_),(10,_),(11,_),(12,_),(31,_),(32,_),(33,_),(36,_),(37,_),(38,_),(39,_),(40,_),(41,_),(42,_)]) ⟨rfl,rfl,rfl,rfl,rfl,rfl,rfl,rfl,rfl,rfl,rfl,rfl,rfl,rfl,rfl,rfl,rfl,trivial⟩
      refine blk_n (then_n (wp_reg ?_))
      refine zM hs fun ac hs=>?_
      refine s_q hs (c_addI (hs.ev rfl) (hs.ev rfl) (by omega) (by omega)) rfl fun ac hs=>?_
      refine zA hs fun ac hs=>?_
      refine s_end (then_n ?_)
      exact ⟨(to - fr).toNat - (k + 1),by omega,k + 1,⟨by omega,rfl⟩,St.next hs ⟨(congrArg (fun z=>some (I z)) (by omega)),rfl,rfl,rfl,rfl,rfl,rfl,trivial⟩ rfl⟩
    · try simp only [z1,z2,z3,z4,z5,z6,z7] at hc
      have hkt:(to - fr).toNat=k:=by omega
      refine wp_exit (then_e (then_e (blk_hit (then_n (wp_seq (wp_reg ?_))))))
      refine s_q hs (c_loadW ty36 rfl (hs.ev rfl) (hs.seg (i:=1) rfl) (by rw [List.length_map,hcl])) rfl fun ac hs=>?_
      refine s_storeW (i:=0) hs ty36 rfl rfl rfl (by rw [List.length_map,hcl]) (all_map_B _) rfl fun ww hs=>?_
      refine zA hs fun ac hs=>?_
      refine s_end ?_
      replace hs:=hs.sub (F':=[(10,_),(11,_)]) ⟨rfl,rfl,trivial⟩
      refine then_n (wp_ret ?_)
      refine s_ret hs rfl (.cell (hs.tmp rfl) (run_loadA ty36 rfl (hs.seg (i:=0) rfl) (List.take_of_length_le (show (List.map B (climbN d ep sq e fr x k)).length≤16 by rw [List.length_map,climbN_length hel]; exact Nat.le_refl _)) (show (List.map B (climbN d ep sq e fr x k)).length=16 by rw [List.length_map,climbN_length hel])) (.tmp (hs.tmp rfl) .nil)) rfl ⟨_,rfl,hs.fr,?_⟩
      show Value.tuple _=Value.tuple _
      rw [climbB,climbE,if_pos hyes,if_pos hyes,hkt]
      rfl
theorem ref06_Climb (d:Int) (ep sq:UInt32) (e:List UInt8) (fr to x:Int) (hel:e.length=16) (hfr:-9223372036854775808≤fr) (hto:to≤9223372036854775807) (w:World) :Ctr Tryz.prog 71 [.agg #[I d,U ep,U sq],.agg (e.map B).toArray,I fr,I to,I x] w (fun _=>False) (fun v _=>v=.tuple #[.agg ((climbB d ep sq e fr to x).map B).toArray,I (climbE fr to x)]):=by
  refine fn_start (N:=48) Tryz.func71 rfl rfl rfl fun ac hk=>?_
  have hs:=St.start hk w
  refine wp_seq (wp_reg ?_)
  refine s_box hs rfl rfl rfl fun ac ww g5 hs=>?_
  refine s_box hs rfl rfl rfl fun ac ww g6 hs=>?_
  refine s_alloc hs ty35 rfl fun ac ww g10 hs=>?_
  refine zA hs fun ac hs=>?_
  refine s_end ?_
  replace hs:=hs.sub (F':=[(2,_),(3,_),(4,_),(5,_),(6,_),(10,_),(11,_)]) ⟨rfl,rfl,rfl,rfl,rfl,rfl,rfl,trivial⟩
  refine then_n (wp_seq (wp_seq (wp_reg ?_)))
  refine zM hs fun ac hs=>?_
  refine s_q hs (c_lssI (hs.ev rfl) (hs.ev rfl)) rfl fun ac hs=>?_
  refine zM hs fun ac hs=>?_
  refine s_g hs rfl rfl (fun hg=>c_move (hs.ev rfl)) rfl fun ac hs=>?_
  refine s_g hs rfl rfl (fun hg=>c_gtrI (gev (hs.ev rfl) hg) (hs.ev rfl)) rfl fun ac hs=>?_
  refine s_q hs (c_or (hs.ev rfl) (hs.ev rfl)) rfl fun ac hs=>?_
  refine zM hs fun ac hs=>?_
  refine s_g hs rfl rfl (fun hg=>c_move (hs.ev rfl)) rfl fun ac hs=>?_
  refine s_g hs rfl rfl (fun hg=>c_move (hs.ev rfl)) rfl fun ac hs=>?_
  refine s_g hs rfl rfl (fun hg=>c_gtrI (gev (hs.ev rfl) hg) (gev (hs.ev rfl) hg)) rfl fun ac hs=>?_
  refine s_q hs (c_or (hs.ev rfl) (hs.ev rfl)) rfl fun ac hs=>?_
  refine zM hs fun ac hs=>?_
  refine s_g hs rfl rfl (fun hg=>c_move (hs.ev rfl)) rfl fun ac hs=>?_
  refine s_gcall hs rfl rfl fu88 (fun hg=>(.cons (gev (hs.ev rfl) hg) .nil)) (fun hg=>ref06_Levels x _) rfl fun ac ww hf hs=>?_
  refine s_g hs rfl rfl (fun hg=>c_lssI (gev (hs.ev rfl) hg) (hs.ev rfl)) rfl fun ac hs=>?_
  refine s_q hs (c_or (hs.ev rfl) (hs.ev rfl)) rfl fun ac hs=>?_
  refine s_end ?_
  replace hs:=hs.sub (F':=[(2,_),(3,_),(4,_),(5,_),(6,_),(10,_),(11,_),(30,_)]) ⟨rfl,rfl,rfl,rfl,rfl,rfl,rfl,rfl,trivial⟩
  refine then_n ?_
  refine s_cond hs rfl (fun hc=>?_) (fun hc=>?_)
  · skip
    have hno:¬ climbOk fr to x=true:=fun h=>by
      have g:=climbOk_iff.1 h
      simp only [Bool.or_eq_true,decide_eq_true_eq] at hc
      omega
    refine wp_seq (wp_reg ?_)
    refine s_q hs (c_buildA ty35 un35 ty5 (zc:=(List.replicate 16 (0:UInt8)).map B) (vs:=[]) .nil (by simp) (by simp [flatCells]) rfl) rfl fun ac hs=>?_
    refine s_storeW (i:=0) hs ty35 rfl rfl rfl (by simp) (all_map_B _) rfl fun ww hs=>?_
    refine zA hs fun ac hs=>?_
    refine s_end ?_
    replace hs:=hs.sub (F':=[(2,_),(3,_),(4,_),(5,_),(6,_),(10,_),(11,_)]) ⟨rfl,rfl,rfl,rfl,rfl,rfl,rfl,trivial⟩
    refine then_n (wp_ret (then_r ?_))
    refine s_ret hs rfl (.cell (hs.tmp rfl) (run_loadA ty35 rfl (hs.seg (i:=0) rfl) (List.take_of_length_le (by simp)) (by simp)) (.tmp (hs.tmp rfl) .nil)) rfl ⟨_,rfl,hs.fr,?_⟩
    show Value.tuple _=Value.tuple _
    rw [climbB,climbE,if_neg hno,if_neg hno]
    rfl
  · skip
    have hyes:climbOk fr to x=true:=climbOk_iff.2 (by
      simp only [Bool.or_eq_false_iff,decide_eq_false_iff_not] at hc
      omega)
    have g:=climbOk_iff.1 hyes
    refine wp_skip (then_n (wp_seq (wp_seq (wp_reg ?_))))
    refine zM hs fun ac hs=>?_
    refine zA hs fun ac hs=>?_
    refine s_end ?_
    replace hs:=hs.sub (F':=[(3,_),(4,_),(5,_),(6,_),(10,_),(11,_),(12,_)]) ⟨rfl,rfl,rfl,rfl,rfl,rfl,rfl,trivial⟩
    refine then_n (wp_block ?_)
    refine s_loop hs (X:=Nat) (fun k=>[(12,I (fr + k))]) [(3,_),(4,_),(5,_),(6,_),(10,_),(11,_)] (fun k=>[_,.seg g6 ((climbN d ep sq e fr x k).map B) 35,_]) (fun n k=>(k:Int)≤to - fr∧n=(to - fr).toNat - k) (_) (0) (⟨by omega,rfl⟩) ⟨(congrArg (fun z=>some (I z)) (by omega)),rfl,rfl,rfl,rfl,rfl,rfl,trivial⟩ rfl ?_
    rintro n k ac ww hok hs
    simp only [List.cons_append,List.nil_append] at hs
    obtain ⟨hk,rfl⟩:=hok
    have hcl:=climbN_length (d:=d) (ep:=ep) (sq:=sq) (r:=fr) (x:=x) hel k
    refine wp_seq (wp_seq (wp_reg ?_))
    refine zM hs fun ac hs=>?_
    refine zM hs fun ac hs=>?_
    refine s_q hs (c_lssI (hs.ev rfl) (hs.ev rfl)) rfl fun ac hs=>?_
    refine s_end (then_n ?_)
    refine s_cond hs rfl (fun hc=>?_) (fun hc=>?_)
    · try simp only [z1,z2,z3,z4,z5,z6,z7] at hc
      refine wp_skip (then_n (wp_seq (wp_block (wp_seq (wp_reg ?_)))))
      refine s_q hs (c_loadW ty157 ag157 (hs.ev rfl) (hs.seg (i:=2) rfl) (by rfl)) rfl fun ac hs=>?_
      refine zM hs fun ac hs=>?_
      refine s_q hs (c_loadW ty35 rfl (hs.ev rfl) (hs.seg (i:=1) rfl) (by rw [List.length_map,hcl])) rfl fun ac hs=>?_
      refine zM hs fun ac hs=>?_
      refine s_call hs fu111 (.cons (hs.ev rfl) (.cons (hs.ev rfl) (.cons (hs.ev rfl) (.cons (hs.ev rfl) .nil)))) (ref06_Up d ep sq (fr + k) (climbN d ep sq e fr x k) x hcl _) rfl fun ac ww v43 hf hp hs=>?_
      obtain rfl:=hp
      replace hs:=hs [] (.nil _ _)
      refine zM hs fun ac hs=>?_
      refine s_q hs (c_extract (hs.ev rfl) rfl) rfl fun ac hs=>?_
      refine s_q hs (c_extract (hs.ev rfl) rfl) rfl fun ac hs=>?_
      refine s_alloc hs ty35 rfl fun ac ww g13 hs=>?_
      refine s_storeW (i:=0) hs ty35 rfl rfl rfl (by rw [List.length_map,upB_length]) (all_map_B _) rfl fun ww hs=>?_
      refine zA hs fun ac hs=>?_
      refine s_end ?_
      replace hs:=hs.sub (F':=[(3,_),(4,_),(5,_),(6,_),(10,_),(11,_),(12,_),(13,_),(33,_),(34,_),(35,_),(38,_),(39,_),(40,_),(41,_),(42,_),(43,_),(44,_),(45,_)]) ⟨rfl,rfl,rfl,rfl,rfl,rfl,rfl,rfl,rfl,rfl,rfl,rfl,rfl,rfl,rfl,rfl,rfl,rfl,rfl,trivial⟩
      refine then_n (wp_reg ?_)
      refine s_q hs (c_loadW ty35 rfl (hs.ev rfl) (hs.seg (i:=0) rfl) (by rw [List.length_map,upB_length])) rfl fun ac hs=>?_
      refine s_storeW (i:=2) hs ty35 rfl rfl rfl (by rw [List.length_map,upB_length]) (all_map_B _) (by rw [List.length_map,hcl]) fun ww hs=>?_
      refine s_end ?_
      replace hs:=hs.pick (L':=[_,_,_]) (.cons _ (.refl _))
      refine blk_n (then_n (wp_reg ?_))
      refine zM hs fun ac hs=>?_
      refine s_q hs (c_addI (hs.ev rfl) (hs.ev rfl) (by omega) (by omega)) rfl fun ac hs=>?_
      refine zA hs fun ac hs=>?_
      refine s_end (then_n ?_)
      exact ⟨(to - fr).toNat - (k + 1),by omega,k + 1,⟨by omega,rfl⟩,St.next hs ⟨(congrArg (fun z=>some (I z)) (by omega)),rfl,rfl,rfl,rfl,rfl,rfl,trivial⟩ rfl⟩
    · try simp only [z1,z2,z3,z4,z5,z6,z7] at hc
      have hkt:(to - fr).toNat=k:=by omega
      refine wp_exit (then_e (then_e (blk_hit (then_n (wp_seq (wp_reg ?_))))))
      refine s_q hs (c_loadW ty35 rfl (hs.ev rfl) (hs.seg (i:=1) rfl) (by rw [List.length_map,hcl])) rfl fun ac hs=>?_
      refine s_storeW (i:=0) hs ty35 rfl rfl rfl (by rw [List.length_map,hcl]) (all_map_B _) rfl fun ww hs=>?_
      refine zA hs fun ac hs=>?_
      refine s_end ?_
      replace hs:=hs.sub (F':=[(10,_),(11,_)]) ⟨rfl,rfl,trivial⟩
      refine then_n (wp_ret ?_)
      refine s_ret hs rfl (.cell (hs.tmp rfl) (run_loadA ty35 rfl (hs.seg (i:=0) rfl) (List.take_of_length_le (show (List.map B (climbN d ep sq e fr x k)).length≤16 by rw [List.length_map,climbN_length hel]; exact Nat.le_refl _)) (show (List.map B (climbN d ep sq e fr x k)).length=16 by rw [List.length_map,climbN_length hel])) (.tmp (hs.tmp rfl) .nil)) rfl ⟨_,rfl,hs.fr,?_⟩
      show Value.tuple _=Value.tuple _
      rw [climbB,climbE,if_pos hyes,if_pos hyes,hkt]
      rfl
end Go.Proofs.YtklajbdbnnceiaaGreat
end

section
/- Groves: what is summed for them. -/
namespace Go.Proofs.YtklajbdbnnceiaaGreat
open Go Go.Fw
open Sha
def gHead (d:Int) (ep:UInt32) (level:Int):List UInt8:=i8 d::(be32 ep++[i8 level])
@[simp] theorem gHead_length (d:Int) (ep:UInt32) (level:Int):(gHead d ep level).length=6:=rfl
def aboveX (d:Int) (ep:UInt32) (level:Int) (a b:List UInt8):List UInt8:=71::(gHead d ep level++a++b)
theorem aboveX_inj {d:Int} {ep:UInt32} {level:Int} {a b a' b':List UInt8} (ha:a.length=16) (ha':a'.length=16) (h:aboveX d ep level a b=aboveX d ep level a' b'):a=a'∧b=b':=by
  have h2:=(List.cons.inj h).2
  rw [List.append_assoc,List.append_assoc] at h2
  exact List.append_inj (List.append_cancel_left h2) (by omega)
def gJ (d:Int) (ep:UInt32) (k:Nat) (a b:List UInt8):List UInt8:=aboveX d ep (k:Int) a b
def gLf (l:List UInt8) (q:Nat):List UInt8:=chunk l q
abbrev gNode (d:Int) (ep:UInt32) (l:List UInt8):Nat→Nat→List UInt8:=node (gJ d ep) (gLf l)
abbrev gNodeTs (d:Int) (ep:UInt32) (l:List UInt8):Nat→Nat→List (List UInt8):=nodeTs (gJ d ep) (gLf l) (fun _=>[])
def height (n:Int):Int:=if n=1 then 0 else if n=2 then 1 else if n=4 then 2 else if n=8 then 3 else if n=16 then 4 else if n=32 then 5 else if n=64 then 6 else -1
end Go.Proofs.YtklajbdbnnceiaaGreat
end

section
/- Clashes: two unlike texts with one short sum. -/
namespace Go.Proofs.YtklajbdbnnceiaaGreat
open Go Go.Fw
open Sha Ots
theorem bneL (a b:List UInt8):(a != b)=decide (a ≠ b):=by by_cases h:a=b <;> simp [h]
def txt (xs:List (Value × List UInt8)) (k:Nat):List UInt8:=(xs.getD k (.nilIface,[])).2
def hit (xs bs:List (Value × List UInt8)) (i q:Nat):Bool:=decide (ofT (txt xs i)=ofT (txt bs q)) && decide (txt xs i ≠ txt bs q)
theorem txt_mem {xs:List (Value × List UInt8)} {k:Nat} (h:k < xs.length):txt xs k∈xs.map (·.2):=by
  rw [txt,List.getD,List.getElem?_eq_getElem h]
  exact List.mem_map_of_mem (List.getElem_mem h)
theorem mem_txt {xs:List (Value × List UInt8)} {x:List UInt8} (h:x∈xs.map (·.2)):∃ k,k < xs.length∧txt xs k=x:=by
  obtain ⟨q,hq,rfl⟩:=List.mem_map.1 h
  obtain ⟨k,hk,rfl⟩:=List.getElem_of_mem hq
  exact ⟨k,hk,by simp [txt,List.getD,hk]⟩
theorem clash_hit {xs bs:List (Value × List UInt8)} {i q:Nat} (hi:i < xs.length) (hq:q < bs.length) (h:hit xs bs i q=true):clash (xs.map (·.2)) (bs.map (·.2))=true:=by
  unfold hit at h
  exact List.any_eq_true.2 ⟨_,txt_mem hi,List.any_eq_true.2 ⟨_,txt_mem hq,h⟩⟩
theorem clash_none {xs bs:List (Value × List UInt8)} (h:∀ i,i < xs.length→∀ q,q < bs.length→hit xs bs i q=false):clash (xs.map (·.2)) (bs.map (·.2))=false:=by
  apply Bool.eq_false_iff.2
  intro hc
  obtain ⟨x,hx,hz⟩:=List.any_eq_true.1 hc
  obtain ⟨y,hy,hxy⟩:=List.any_eq_true.1 hz
  obtain ⟨i,hi,rfl⟩:=mem_txt hx
  obtain ⟨q,hq,rfl⟩:=mem_txt hy
  have:=h i hi q hq
  unfold hit at this
  rw [this] at hxy
  cases hxy
def sums (xs:List (Value × List UInt8)) (n:Nat):List UInt8:=rows (fun k=>ofT (txt xs k)) n
theorem sums_len (xs:List (Value × List UInt8)) (n:Nat):(sums xs n).length=n * 16:=by rw [sums,rows_length (N:=n) (fun _ _=>rfl) n (Nat.le_refl _)]; omega
theorem sums_succ (xs:List (Value × List UInt8)) (n:Nat):sums xs (n + 1)=sums xs n++ofT (txt xs n):=rows_succ _ _
theorem sums_piece (xs:List (Value × List UInt8)) {n i:Nat} (h:i < n):((sums xs n).drop (i * 16)).take 16=ofT (txt xs i):=by
  have:=rows_chunk (f:=fun k=>ofT (txt xs k)) (N:=n) (fun _ _=>rfl) n (Nat.le_refl _) i h
  rw [← this,chunk,Nat.mul_comm]
  rfl
def Good (xs:List (Value × List UInt8)):Prop:=xs.length≤1000000∧∀ k,k < xs.length→∃ kd tx,txt xs k=kd::tx∧tx.length≤140737488355199
theorem good_of {ps:List (Value × List UInt8)} {ls:List (List UInt8)} (h:ps.map (·.2)=ls) (hl:ls.length≤1000000) (ha:∀ t∈ls,∃ kd tx,t=kd::tx∧tx.length≤140737488355199):Good ps:=by
  refine ⟨by rw [← h,List.length_map] at hl; exact hl,fun k hk=>?_⟩
  exact ha _ (h ▸ txt_mem hk)
theorem ref06_Clash (xs bs:List (Value × List UInt8)) (av bv:Value) (hga:Good xs) (hgb:Good bs) (w:World) (hqa:RdP w av xs) (hqb:RdP w bv bs):Ctr Tryz.prog 41 [av,bv] w (fun _=>False) (fun v _=>v=.bool (clash (xs.map (·.2)) (bs.map (·.2)))):=by
  have hal:=hqa.1.le
  have hbl:=hqb.1.le
  have hal2:=hga.1
  have hbl2:=hgb.1
  obtain ⟨aad,acap,rfl,hac,ham⟩:=hqa.sl
  obtain ⟨bad,bcap,rfl,hbc,hbm⟩:=hqb.sl
  refine fn_start (N:=73) Tryz.func41 rfl rfl rfl fun ac hk=>?_
  have hs:=St.start hk w
  refine wp_seq (wp_reg ?_)
  refine zA hs fun ac hs=>?_
  refine s_end (then_n (wp_seq (wp_reg ?_)))
  refine zA hs fun ac hs=>?_
  refine zA hs fun ac hs=>?_
  refine s_end ?_
  replace hs:=(hs.nilrow 35 16).nilrow 35 16
  refine then_n (wp_seq (wp_seq (wp_reg ?_)))
  refine zA hs fun ac hs=>?_
  refine s_end (then_n (wp_block ?_))
  refine s_loop hs (X:=Nat × Value) (fun x=>[(5,x.2),(7,I x.1)]) [(0,_),(1,_),(4,_),(6,_)] (fun x=>[_,.row x.2 (x.1) ((sums xs (x.1)).map B) 35 16]) (fun n x=>x.1≤xs.length∧n=xs.length - x.1) (_) ((0,_)) (⟨Nat.zero_le _,rfl⟩) ⟨rfl,rfl,rfl,rfl,rfl,rfl,trivial⟩ rfl ?_
  rintro n ⟨k,v⟩ ac ww hok hs
  simp only [List.cons_append,List.nil_append] at hs
  obtain ⟨hk,rfl⟩:=hok
  simp only at hk hs
  refine wp_seq (wp_seq (wp_reg ?_))
  refine zM hs fun ac hs=>?_
  refine zM hs fun ac hs=>?_
  refine s_q hs (c_lenS un87 (hs.ev rfl)) rfl fun ac hs=>?_
  refine s_q hs (c_lssI (hs.ev rfl) (hs.ev rfl)) rfl fun ac hs=>?_
  refine s_end (then_n ?_)
  refine s_cond hs rfl (fun hc=>?_) (fun hc=>?_)
  · try simp only [z1,z2,z3,z4,z5,z6,z7] at hc
    have hka:k < xs.length:=by omega
    obtain ⟨pb,po,pT,pf,pall,rfl,hpb,hps⟩:=hqa.at' (by omega)
    obtain ⟨kd,tx,htx,hxl⟩:=hga.2 k hka
    have hrd:=hqa.get hka
    rw [show (xs.getD k (.nilIface,[])).2=kd::tx from htx] at hrd
    refine wp_skip (then_n (wp_seq (wp_block (wp_reg ?_))))
    refine zM hs fun ac hs=>?_
    refine zM hs fun ac hs=>?_
    refine zM hs fun ac hs=>?_
    refine s_q hs (c_idxS (j:=k) un87 ty177 (hs.ev rfl) (hs.ev rfl) (by omega) (by omega)) rfl fun ac hs=>?_
    refine s_q hs (c_loadS un177 rfl (hs.ev rfl) (hs.old hpb id) (seg_get (.nilIface,[]) hps (by omega))) rfl fun ac hs=>?_
    refine s_call hs fu86 (.cons (hs.ev rfl) .nil) (ref06_Of kd tx _ hxl _ (hrd.fr0 hs.fr)) rfl fun ac ww v22 hf hp hs=>?_
    obtain rfl:=hp
    replace hs:=hs [] (.nil _ _)
    refine s_bslice hs un47 ty35 (.cons (hs.ev rfl) .nil) rfl (by intro v hv; simp only [List.mem_singleton] at hv; subst hv; simp [Value.cells]) (by decide) (show _=(short kd tx).map B by simp [flatCells,Value.cells]) rfl fun ac ww g23 hs=>?_
    refine s_append (i:=2) hs un47 ty35 (by decide) rfl rfl rfl (Rd.of_seg (n:=1) (hs.seg (i:=0) rfl) (Nat.le_refl _) (by decide) (List.take_of_length_le (by simp))) (by simp) (all_map_B _) (by unfold maxLen; omega) (by omega) rfl fun ac ww v24 hf hnil hs=>?_
    rw [show short kd tx=ofT (txt xs k) from by rw [htx]; rfl] at hs
    refine zA hs fun ac hs=>?_
    refine s_end ?_
    replace hs:=hs.pick (L':=[_,_]) (.cons _ (.refl _))
    refine blk_n (then_n (wp_reg ?_))
    refine zM hs fun ac hs=>?_
    refine s_q hs (c_addI (hs.ev rfl) (hs.ev rfl) (by omega) (by omega)) rfl fun ac hs=>?_
    refine zA hs fun ac hs=>?_
    refine s_end (then_n ?_)
    exact ⟨xs.length - (k + 1),by (try simp only); omega,(k + 1,_),⟨by (try simp only); omega,rfl⟩,St.next hs ⟨rfl,rfl,rfl,rfl,rfl,rfl,trivial⟩ (by rw [sums_succ,List.map_append]; try rfl)⟩
  · try simp only [z1,z2,z3,z4,z5,z6,z7] at hc
    obtain rfl:k=xs.length:=by omega
    refine wp_exit (then_e (then_e (blk_hit (then_n (wp_seq (wp_seq (wp_reg ?_)))))))
    refine zA hs fun ac hs=>?_
    refine s_end ?_
    replace hs:=hs.sub (F':=[(0,_),(1,_),(4,_),(5,_),(6,_),(8,_)]) ⟨rfl,rfl,rfl,rfl,rfl,rfl,trivial⟩
    refine then_n (wp_block ?_)
    refine s_loop hs (X:=Nat × Value) (fun x=>[(6,x.2),(8,I x.1)]) [(0,_),(1,_),(4,_),(5,_)] (fun x=>[.row x.2 (x.1) ((sums bs (x.1)).map B) 35 16,_]) (fun n x=>x.1≤bs.length∧n=bs.length - x.1) (_) ((0,_)) (⟨Nat.zero_le _,rfl⟩) ⟨rfl,rfl,rfl,rfl,rfl,rfl,trivial⟩ rfl ?_
    rintro n ⟨k,v⟩ ac ww hok hs
    simp only [List.cons_append,List.nil_append] at hs
    obtain ⟨hk,rfl⟩:=hok
    simp only at hk hs
    refine wp_seq (wp_seq (wp_reg ?_))
    refine zM hs fun ac hs=>?_
    refine zM hs fun ac hs=>?_
    refine s_q hs (c_lenS un87 (hs.ev rfl)) rfl fun ac hs=>?_
    refine s_q hs (c_lssI (hs.ev rfl) (hs.ev rfl)) rfl fun ac hs=>?_
    refine s_end (then_n ?_)
    refine s_cond hs rfl (fun hc=>?_) (fun hc=>?_)
    · try simp only [z1,z2,z3,z4,z5,z6,z7] at hc
      have hkb:k < bs.length:=by omega
      obtain ⟨pb,po,pT,pf,pall,rfl,hpb,hps⟩:=hqb.at' (by omega)
      obtain ⟨kd,tx,htx,hxl⟩:=hgb.2 k hkb
      have hrd:=hqb.get hkb
      rw [show (bs.getD k (.nilIface,[])).2=kd::tx from htx] at hrd
      refine wp_skip (then_n (wp_seq (wp_block (wp_reg ?_))))
      refine zM hs fun ac hs=>?_
      refine zM hs fun ac hs=>?_
      refine zM hs fun ac hs=>?_
      refine s_q hs (c_idxS (j:=k) un87 ty177 (hs.ev rfl) (hs.ev rfl) (by omega) (by omega)) rfl fun ac hs=>?_
      refine s_q hs (c_loadS un177 rfl (hs.ev rfl) (hs.old hpb id) (seg_get (.nilIface,[]) hps (by omega))) rfl fun ac hs=>?_
      refine s_call hs fu86 (.cons (hs.ev rfl) .nil) (ref06_Of kd tx _ hxl _ (hrd.fr0 hs.fr)) rfl fun ac ww v36 hf hp hs=>?_
      obtain rfl:=hp
      replace hs:=hs [] (.nil _ _)
      refine s_bslice hs un47 ty35 (.cons (hs.ev rfl) .nil) rfl (by intro v hv; simp only [List.mem_singleton] at hv; subst hv; simp [Value.cells]) (by decide) (show _=(short kd tx).map B by simp [flatCells,Value.cells]) rfl fun ac ww g37 hs=>?_
      refine s_append (i:=1) hs un47 ty35 (by decide) rfl rfl rfl (Rd.of_seg (n:=1) (hs.seg (i:=0) rfl) (Nat.le_refl _) (by decide) (List.take_of_length_le (by simp))) (by simp) (all_map_B _) (by unfold maxLen; omega) (by omega) rfl fun ac ww v38 hf hnil hs=>?_
      rw [show short kd tx=ofT (txt bs k) from by rw [htx]; rfl] at hs
      refine zA hs fun ac hs=>?_
      refine s_end ?_
      replace hs:=hs.pick (L':=[_,_]) (.cons _ (.refl _))
      refine blk_n (then_n (wp_reg ?_))
      refine zM hs fun ac hs=>?_
      refine s_q hs (c_addI (hs.ev rfl) (hs.ev rfl) (by omega) (by omega)) rfl fun ac hs=>?_
      refine zA hs fun ac hs=>?_
      refine s_end (then_n ?_)
      exact ⟨bs.length - (k + 1),by (try simp only); omega,(k + 1,_),⟨by (try simp only); omega,rfl⟩,St.next hs ⟨rfl,rfl,rfl,rfl,rfl,rfl,trivial⟩ (by rw [sums_succ,List.map_append]; try rfl)⟩
    · try simp only [z1,z2,z3,z4,z5,z6,z7] at hc
      obtain rfl:k=bs.length:=by omega
      refine wp_exit (then_e (then_e (blk_hit (then_n (wp_seq (wp_seq (wp_reg ?_)))))))
      refine zA hs fun ac hs=>?_
      refine s_end ?_
      replace hs:=hs.sub (F':=[(0,_),(1,_),(4,_),(5,_),(6,_),(9,_)]) ⟨rfl,rfl,rfl,rfl,rfl,rfl,trivial⟩
      refine then_n (wp_block ?_)
      refine s_loop hs (X:=Nat) (fun i=>[(9,I i)]) [(0,_),(1,_),(5,_),(6,_)] (fun _=>[_,_]) (fun n i=>i≤xs.length∧n=xs.length - i∧∀ i2,i2 < i→∀ q,q < bs.length→hit xs bs i2 q=false) (_) (0) (⟨Nat.zero_le _,rfl,fun _ h=>absurd h (by omega)⟩) ⟨rfl,rfl,rfl,rfl,rfl,trivial⟩ rfl ?_
      rintro n i ac ww hok hs
      simp only [List.cons_append,List.nil_append] at hs
      obtain ⟨hi,rfl,hno⟩:=hok
      refine wp_seq (wp_seq (wp_reg ?_))
      refine zM hs fun ac hs=>?_
      refine zM hs fun ac hs=>?_
      refine s_q hs (c_lenS un87 (hs.ev rfl)) rfl fun ac hs=>?_
      refine s_q hs (c_lssI (hs.ev rfl) (hs.ev rfl)) rfl fun ac hs=>?_
      refine s_end (then_n ?_)
      refine s_cond hs rfl (fun hc=>?_) (fun hc=>?_)
      · try simp only [z1,z2,z3,z4,z5,z6,z7] at hc
        have hil:i < xs.length:=by omega
        refine wp_skip (then_n (wp_seq (wp_block (wp_seq (wp_reg ?_)))))
        refine zA hs fun ac hs=>?_
        refine s_end (then_n (wp_block ?_))
        refine s_loop hs (X:=Nat) (fun q=>[(10,I q)]) [(0,_),(1,_),(5,_),(6,_),(9,_),(39,_),(40,_),(41,_),(42,_)] (fun _=>[_,_]) (fun n q=>q≤bs.length∧n=bs.length - q∧∀ q2,q2 < q→hit xs bs i q2=false) (_) (0) (⟨Nat.zero_le _,rfl,fun _ h=>absurd h (by omega)⟩) ⟨rfl,rfl,rfl,rfl,rfl,rfl,rfl,rfl,rfl,rfl,trivial⟩ rfl ?_
        rintro n q ac ww hok hs
        simp only [List.cons_append,List.nil_append] at hs
        obtain ⟨hq,rfl,hno2⟩:=hok
        refine wp_seq (wp_seq (wp_reg ?_))
        refine zM hs fun ac hs=>?_
        refine zM hs fun ac hs=>?_
        refine s_q hs (c_lenS un87 (hs.ev rfl)) rfl fun ac hs=>?_
        refine s_q hs (c_lssI (hs.ev rfl) (hs.ev rfl)) rfl fun ac hs=>?_
        refine s_end (then_n ?_)
        refine s_cond hs rfl (fun hc=>?_) (fun hc=>?_)
        · try simp only [z1,z2,z3,z4,z5,z6,z7] at hc
          have hql:q < bs.length:=by omega
          obtain ⟨sg,scap,scur,rfl,hsg,hsn,hsm,hss,hst⟩:=hs.row_at (i:=1) rfl (by omega)
          obtain ⟨tg,tcap,tcur,rfl,htg,htn,htm,hts,htt⟩:=hs.row_at (i:=0) rfl (by omega)
          obtain ⟨pa,pao,paT,paf,paall,rfl,hpa,hpas⟩:=hqa.at' (by omega)
          obtain ⟨pb,po,pT,pf,pall,rfl,hpb,hps⟩:=hqb.at' (by omega)
          have hra:=hqa.get hil
          have hrb:=hqb.get hql
          refine wp_skip (then_n (wp_seq (wp_block (wp_seq ?_))))
          refine wp_region_rg pmix 22 (by kernel_rfl) rfl hs ?_
          simp only [List.take_succ_cons,List.take_zero]
          refine rg_q (fun ac ww h=>c_move (h.ev rfl)) rfl ?_
          refine rg_q (fun ac ww h=>c_move (h.ev rfl)) rfl ?_
          refine rg_q (fun ac ww h=>c_idxS (j:=i) un47 ty35 (h.ev rfl) (h.ev rfl) (by omega) (by omega)) rfl ?_
          refine rg_q (fun ac ww h=>c_loadA ty35 rfl (h.ev rfl) (h.blk hsg) ((rowpiece hst (sums_len _ _) hil).trans (by rw [sums_piece _ hil])) (by simp)) rfl ?_
          refine rg_q (fun ac ww h=>c_move (h.ev rfl)) rfl ?_
          refine rg_q (fun ac ww h=>c_move (h.ev rfl)) rfl ?_
          refine rg_q (fun ac ww h=>c_idxS (j:=q) un47 ty35 (h.ev rfl) (h.ev rfl) (by omega) (by omega)) rfl ?_
          refine rg_q (fun ac ww h=>c_loadA ty35 rfl (h.ev rfl) (h.blk htg) ((rowpiece htt (sums_len _ _) hql).trans (by rw [sums_piece _ hql])) (by simp)) rfl ?_
          refine rg_q (fun ac ww h=>c_eqlAB un35 ty5 eg35 (h.ev rfl) (h.ev rfl) (ofT_length _) (ofT_length _)) rfl ?_
          refine rg_q (fun ac ww h=>c_move (h.ev rfl)) rfl ?_
          refine rg_g rfl rfl (fun hg ac ww h=>c_move (h.ev rfl)) rfl ?_
          refine rg_g rfl rfl (fun hg ac ww h=>c_move (h.ev rfl)) rfl ?_
          refine rg_g rfl rfl (fun hg ac ww h=>c_idxS (j:=i) un87 ty177 (gev (h.ev rfl) hg) (gev (h.ev rfl) hg) (by omega) (by omega)) rfl ?_
          refine rg_g rfl rfl (fun hg ac ww h=>c_loadS un177 rfl (gev (h.ev rfl) hg) (h.blk (hs.old hpa id)) (seg_get (.nilIface,[]) hpas (by omega))) rfl ?_
          refine rg_g rfl rfl (fun hg ac ww h=>c_cvST un177 un5 un9 (gev (h.ev rfl) hg) ((hra.fr0 hs.fr).fr0 h.fr)) rfl ?_
          refine rg_g rfl rfl (fun hg ac ww h=>c_move (h.ev rfl)) rfl ?_
          refine rg_g rfl rfl (fun hg ac ww h=>c_move (h.ev rfl)) rfl ?_
          refine rg_g rfl rfl (fun hg ac ww h=>c_idxS (j:=q) un87 ty177 (gev (h.ev rfl) hg) (gev (h.ev rfl) hg) (by omega) (by omega)) rfl ?_
          refine rg_g rfl rfl (fun hg ac ww h=>c_loadS un177 rfl (gev (h.ev rfl) hg) (h.blk (hs.old hpb id)) (seg_get (.nilIface,[]) hps (by omega))) rfl ?_
          refine rg_g rfl rfl (fun hg ac ww h=>c_cvST un177 un5 un9 (gev (h.ev rfl) hg) ((hrb.fr0 hs.fr).fr0 h.fr)) rfl ?_
          refine rg_g rfl rfl (fun hg ac ww h=>c_neqTT (gev (h.ev rfl) hg) (gev (h.ev rfl) hg)) rfl ?_
          refine rg_q (fun ac ww h=>c_to (c_and (h.ev rfl) (h.ev rfl)) ((show Value.bool _=Value.bool (hit xs bs i q) from congrArg Value.bool (by unfold hit; rw [bneL]; rfl)))) rfl ?_
          refine rg_nil fun ac ww L' hf hfe hs=>?_
          simp only [List.drop_succ_cons,List.drop_zero]
          obtain rfl:L'=[]:=hfe
          replace hs:=hs.toL (List.nil_append _)
          refine s_end (then_n ?_)
          refine s_cond hs rfl (fun hc=>?_) (fun hc=>?_)
          · skip
            refine wp_seq (wp_reg ?_)
            refine zA hs fun ac hs=>?_
            refine s_end (then_n (wp_ret (blk_r (then_r (then_r (blk_r (blk_r (then_r (then_r (blk_r (then_r ?_)))))))))))
            refine s_ret hs rfl (.tmp (hs.tmp rfl) .nil) rfl ⟨_,rfl,hs.fr,?_⟩
            show Value.bool true=_
            rw [clash_hit hil hql hc]
          · skip
            refine wp_skip (blk_n (then_n (wp_reg ?_)))
            refine zM hs fun ac hs=>?_
            refine s_q hs (c_addI (hs.ev rfl) (hs.ev rfl) (by omega) (by omega)) rfl fun ac hs=>?_
            refine zA hs fun ac hs=>?_
            refine s_end (then_n ?_)
            exact ⟨bs.length - (q + 1),by omega,q + 1,⟨by omega,rfl,fun q2 h2=>by
                by_cases e:q2=q
                · subst e; exact hc
                · exact hno2 q2 (by omega)⟩,St.next hs ⟨rfl,rfl,rfl,rfl,rfl,rfl,rfl,rfl,rfl,rfl,trivial⟩ rfl⟩
        · try simp only [z1,z2,z3,z4,z5,z6,z7] at hc
          obtain rfl:q=bs.length:=by omega
          refine wp_exit (then_e (then_e (blk_hit (blk_n (then_n (wp_reg ?_))))))
          refine zM hs fun ac hs=>?_
          refine s_q hs (c_addI (hs.ev rfl) (hs.ev rfl) (by omega) (by omega)) rfl fun ac hs=>?_
          refine zA hs fun ac hs=>?_
          refine s_end (then_n ?_)
          exact ⟨xs.length - (i + 1),by omega,i + 1,⟨by omega,rfl,fun i2 h2 q hq=>by
              by_cases e:i2=i
              · subst e; exact hno2 q (by omega)
              · exact hno i2 (by omega) q hq⟩,St.next hs ⟨rfl,rfl,rfl,rfl,rfl,trivial⟩ rfl⟩
      · try simp only [z1,z2,z3,z4,z5,z6,z7] at hc
        obtain rfl:i=xs.length:=by omega
        refine wp_exit (then_e (then_e (blk_hit (then_n (wp_seq (wp_reg ?_))))))
        refine zA hs fun ac hs=>?_
        refine s_end ?_
        replace hs:=hs.sub (F':=[(4,_)]) ⟨rfl,trivial⟩
        refine then_n (wp_ret ?_)
        refine s_ret hs rfl (.tmp (hs.tmp rfl) .nil) rfl ⟨_,rfl,hs.fr,?_⟩
        show Value.bool false=_
        rw [clash_none fun i hi q hq=>hno i hi q hq]
end Go.Proofs.YtklajbdbnnceiaaGreat
end

section
/- Lists of short sums. -/
namespace Go.Proofs.YtklajbdbnnceiaaGreat
open Go Go.Fw
open Sha
theorem rdpiece {all:List Value} {o n k:Nat} {ws:List UInt8} (h:(all.drop o).take (ws.map B).length=ws.map B) (hw:ws.length=n * 16) (hk:k < n):(all.drop (o + k * 16)).take 16=(chunk ws k).map B:=by
  have hle:k * 16 + 16≤(ws.map B).length:=by rw [List.length_map]; omega
  have h2:(((all.drop o).take (ws.map B).length).drop (k * 16)).take 16=((ws.map B).drop (k * 16)).take 16:=by rw [h]
  rw [List.drop_take,List.take_take,Nat.min_eq_left (by omega),List.drop_drop] at h2
  rw [h2,chunk,List.map_take,List.map_drop,Nat.mul_comm]
theorem Rd.bytes_at {w:World} {ad:Option Addr} {cap n:Nat} {ws:List UInt8} (h:Rd w (.slice ad n cap) n (ws.map B)) (hw:ws.length=n * 16) (hn:0 < n) :
    ∃ b o T fr all,ad=some ⟨b,o,none⟩∧w.heap[b]?=some (.cells all T fr)∧(all.toList.drop o).take (ws.map B).length=ws.map B:=by
  obtain ⟨b,o,cap',T,fr,all,e,_,_,hb,hc⟩:=Rd.at_ h (by intro e; have:=congrArg List.length e; rw [List.length_map,List.length_nil] at this; omega)
  cases e
  exact ⟨b,o,T,fr,all,rfl,hb,hc⟩
theorem chunk_l {ws:List UInt8} {n k:Nat} (hw:ws.length=n * 16) (hk:k < n):(chunk ws k).length=16:=chunk_len (by omega)
def rowS (n:Nat) (ws:List UInt8):Value→List Ent→World→Prop:=fun v L _=>L=[.row v n (ws.map B) 36 16]
def tup3E (c0 c2:Value) (E:Value→List Ent→World→Prop):Value→List Ent→World→Prop:=fun v L w=>∃ tv,v=.tuple #[c0,tv,c2]∧E tv L w
def rowS' (n:Nat) (ws:List UInt8):Value→List Ent→World→Prop:=fun v L _=>L=[.row v n (ws.map B) 35 16]
theorem sums_same {n:Nat} {xs ys:List UInt8} (hx:xs.length=n * 16) (hy:ys.length=n * 16) (h:∀ i,i < n→chunk xs i=chunk ys i):xs=ys:=by
  refine (pieces_eq (m:=16) (by decide) hx hy).1 fun i hi=>?_
  have:=h i hi
  rw [chunk,chunk,Nat.mul_comm] at this
  exact this
theorem law03_To (n:Nat) (ws:List UInt8) (wv:Value) (hwl:ws.length=n * 16) (hn:n≤1000000) (w:World) (hq:Rd w wv n (ws.map B)):Ctr Tryz.prog 82 [wv] w (fun _=>False) (outE (rowS n ws) w):=by
  obtain ⟨wad,wcap,rfl,hwc,hwm⟩:=Rd.sl hq
  refine fn_start (N:=18) Tryz.func82 rfl rfl rfl fun ac hk=>?_
  have hs:=St.start hk w
  refine wp_seq (wp_reg ?_)
  refine zA hs fun ac hs=>?_
  refine s_end (then_n (wp_seq (wp_reg ?_)))
  refine zA hs fun ac hs=>?_
  refine s_end ?_
  replace hs:=hs.nilrow 36 16
  refine then_n (wp_seq (wp_seq (wp_reg ?_)))
  refine zM hs fun ac hs=>?_
  refine s_q hs (c_lenS un47 (hs.ev rfl)) rfl fun ac hs=>?_
  refine zM hs fun ac hs=>?_
  refine s_end ?_
  replace hs:=hs.sub (F':=[(2,_),(3,_),(6,_),(7,_),(8,_)]) ⟨rfl,rfl,rfl,rfl,rfl,trivial⟩
  refine then_n (wp_block ?_)
  refine s_loop hs (X:=Nat × Value) (fun x=>[(3,x.2),(8,I x.1)]) [(2,_),(6,_),(7,_)] (fun x=>[.row x.2 x.1 ((ws.take (16 * x.1)).map B) 36 16]) (fun m x=>x.1≤n∧m=n - x.1) (_) ((0,_)) (⟨Nat.zero_le _,rfl⟩) ⟨rfl,rfl,rfl,rfl,rfl,trivial⟩ rfl ?_
  rintro n ⟨k,v⟩ ac ww hok hs
  simp only [List.cons_append,List.nil_append] at hs
  obtain ⟨hk,rfl⟩:=hok
  simp only at hk hs
  refine wp_seq (wp_reg ?_)
  refine s_q hs (c_lssI (hs.ev rfl) (hs.ev rfl)) rfl fun ac hs=>?_
  refine s_end (then_n (wp_seq ?_))
  refine s_cond hs rfl (fun hc=>?_) (fun hc=>?_)
  · try simp only [z1,z2,z3,z4,z5,z6,z7] at hc
    have hkn:k < n:=by omega
    have hcl:=chunk_l hwl hkn
    obtain ⟨pb,po,pT,pf,pall,rfl,hpb,hps⟩:=Rd.bytes_at hq hwl (by omega)
    refine wp_skip (then_n (wp_seq (wp_block (wp_seq (wp_reg ?_)))))
    refine s_q hs (c_idxS (j:=k) un47 ty35 (hs.ev rfl) (hs.ev rfl) (by omega) (by omega)) rfl fun ac hs=>?_
    refine s_q hs (c_loadA ty35 rfl (hs.ev rfl) (hs.old hpb id) (rdpiece hps hwl hkn) (by rw [List.length_map,hcl])) rfl fun ac hs=>?_
    refine s_alloc hs ty35 rfl fun ac ww g5 hs=>?_
    refine s_storeW (i:=0) hs ty35 rfl rfl rfl (by rw [List.length_map,hcl]) (all_map_B _) rfl fun ww hs=>?_
    refine s_end (then_n (wp_reg ?_))
    refine zM hs fun ac hs=>?_
    refine s_q hs (c_loadW ty35 rfl (hs.ev rfl) (hs.seg (i:=0) rfl) (by rw [List.length_map,hcl])) rfl fun ac hs=>?_
    refine s_bslice hs un39 ty36 (.cons (hs.ev rfl) .nil) rfl (by intro v hv; simp only [List.mem_singleton] at hv; subst hv; simp [Value.cells,hcl]) (by decide) (show _=(chunk ws k).map B by simp [flatCells,Value.cells]) rfl fun ac ww g14 hs=>?_
    refine s_append (i:=2) hs un39 ty36 (by decide) rfl rfl rfl (Rd.of_seg (n:=1) (hs.seg (i:=0) rfl) (Nat.le_refl _) (by decide) (List.take_of_length_le (by simp))) (by rw [List.length_map,hcl]) (all_map_B _) (by unfold maxLen; omega) (by omega) rfl fun ac ww v15 hf hnil hs=>?_
    refine zA hs fun ac hs=>?_
    refine s_end (blk_n (then_n (wp_reg ?_)))
    refine s_q hs (c_addI (hs.ev rfl) (hs.ev rfl) (by omega) (by omega)) rfl fun ac hs=>?_
    refine zM hs fun ac hs=>?_
    refine s_end (then_n ?_)
    replace hs:=hs.pick (L':=[_]) (.cons _ (.cons _ (.refl _)))
    exact ⟨n - (k + 1),by (try simp only); omega,(k + 1,_),⟨by (try simp only); omega,rfl⟩,St.next hs ⟨rfl,rfl,rfl,rfl,rfl,trivial⟩ (by rw [take_chunk,List.map_append]; try rfl)⟩
  · try simp only [z1,z2,z3,z4,z5,z6,z7] at hc
    obtain rfl:n=k:=by omega
    rw [List.take_of_length_le (by omega)] at hs
    refine wp_exit (then_e (then_e (blk_hit (then_n (wp_seq (wp_reg ?_))))))
    refine zM hs fun ac hs=>?_
    refine zA hs fun ac hs=>?_
    refine s_end ?_
    replace hs:=hs.sub (F':=[(2,_)]) ⟨rfl,trivial⟩
    refine then_n (wp_ret ?_)
    refine s_ret hs rfl (.tmp (hs.tmp rfl) .nil) rfl ⟨_,rfl,hs.fr,?_⟩
    exact ⟨_,rfl,hs.made⟩
end Go.Proofs.YtklajbdbnnceiaaGreat
end

section
/- Heights of groves,what stands above two. -/
namespace Go.Proofs.YtklajbdbnnceiaaGreat
open Go Go.Fw
open Sha
theorem height_pow:∀ j:Nat,j < 7→height (2 ^ j)=j
  | 0,_=>rfl | 1,_=>rfl | 2,_=>rfl | 3,_=>rfl | 4,_=>rfl | 5,_=>rfl | 6,_=>rfl | j + 7,h=>absurd h (by omega)
theorem pow_le64:∀ j:Nat,j < 7→(2:Int) ^ j≤64
  | 0,_=>by decide | 1,_=>by decide | 2,_=>by decide | 3,_=>by decide | 4,_=>by decide | 5,_=>by decide | 6,_=>by decide | j + 7,h=>absurd h (by omega)
theorem height_no {n:Int} (h:∀ j:Nat,j < 7→n ≠ 2 ^ j):height n=-1:=by
  have h0:=h 0 (by omega)
  have h1:=h 1 (by omega)
  have h2:=h 2 (by omega)
  have h3:=h 3 (by omega)
  have h4:=h 4 (by omega)
  have h5:=h 5 (by omega)
  have h6:=h 6 (by omega)
  simp only [Int.reducePow,ne_eq] at h0 h1 h2 h3 h4 h5 h6
  rw [height,if_neg h0,if_neg h1,if_neg h2,if_neg h3,if_neg h4,if_neg h5,if_neg h6]
theorem pow64 {lv:Nat} (h:lv≤6):2 ^ lv≤64:=by
  have:=Nat.pow_le_pow_right (show 0 < 2 by decide) h
  simpa using this
theorem pow_mono_int {i j:Nat} (h:i≤j):(2:Int) ^ i≤2 ^ j:=by
  have:=Nat.pow_le_pow_right (show 0 < 2 by decide) h
  exact_mod_cast this
theorem gNode_length {d:Int} {ep:UInt32} {l:List UInt8} {n:Nat} (hl:l.length=16 * n):∀ k q,(q + 1) * 2 ^ k≤n→(gNode d ep l k q).length=16
  | 0,q,h=>by
    have:chunk l q=(l.drop (16 * q)).take 16:=rfl
    show (chunk l q).length=16
    rw [this,List.length_take,List.length_drop]
    omega
  | k + 1,q,_=>rfl
theorem grove_Height (x:Int) (w:World) :Ctr Tryz.prog 134 [I x] w (fun _=>False) (fun v _=>v=I (height x)):=by
  refine fn_start (N:=13) Tryz.func134 rfl rfl rfl fun ac hk=>?_
  have hs:=St.start hk w
  refine wp_seq (wp_reg ?_)
  refine zA hs fun ac hs=>?_
  refine s_end (then_n (wp_seq (wp_seq (wp_reg ?_))))
  refine zM hs fun ac hs=>?_
  refine s_end (then_n (wp_block ?_))
  refine s_loop hs (X:=Nat) (fun k=>[(4,I k)]) [(0,_)] (fun _=>[]) (fun n k=>k≤7∧n=7 - k∧∀ j:Nat,j < k→x ≠ 2 ^ j) (_) (0) (⟨Nat.zero_le _,rfl,fun _ h=>absurd h (by omega)⟩) ⟨rfl,rfl,trivial⟩ rfl ?_
  rintro n k ac ww hok hs
  simp only [List.cons_append,List.nil_append] at hs
  obtain ⟨hk,rfl,hno⟩:=hok
  refine wp_seq (wp_reg ?_)
  refine s_q hs (c_lssI (hs.ev rfl) (hs.ev rfl)) rfl fun ac hs=>?_
  refine s_end (then_n (wp_seq ?_))
  refine s_cond hs rfl (fun hc=>?_) (fun hc=>?_)
  · try simp only [z1,z2,z3,z4,z5,z6,z7] at hc
    have hk7:k < 7:=by omega
    have hp8:=pow_le64 k hk7
    have hp0:=pow_pos k
    refine wp_skip (then_n (wp_seq (wp_block (wp_seq (wp_reg ?_)))))
    refine zM hs fun ac hs=>?_
    refine zA hs fun ac hs=>?_
    refine s_end (then_n (wp_seq (wp_reg ?_)))
    refine zM hs fun ac hs=>?_
    refine zM hs fun ac hs=>?_
    refine s_q hs (c_shlI (hs.ev rfl) (hs.ev rfl) (by omega) (by rw [Int.one_mul]; omega) (by rw [Int.one_mul]; omega)) rfl fun ac hs=>?_
    refine s_q hs (c_eqlI (hs.ev rfl) (hs.ev rfl)) rfl fun ac hs=>?_
    refine s_end (then_n ?_)
    refine s_cond hs rfl (fun hc=>?_) (fun hc=>?_)
    · try simp only [z1,z2,z3,z4,z5,z6,z7] at hc
      refine wp_seq (wp_reg ?_)
      refine zM hs fun ac hs=>?_
      refine zA hs fun ac hs=>?_
      refine s_end (then_n (wp_ret (blk_r (then_r (then_r (blk_r (then_r ?_)))))))
      refine s_ret hs rfl (.tmp (hs.tmp rfl) .nil) rfl ⟨_,rfl,hs.fr,?_⟩
      show I _=I _
      rw [hc,Int.one_mul,height_pow k hk7]
    · try simp only [z1,z2,z3,z4,z5,z6,z7] at hc
      refine wp_skip (blk_n (then_n (wp_reg ?_)))
      refine s_q hs (c_addI (hs.ev rfl) (hs.ev rfl) (by omega) (by omega)) rfl fun ac hs=>?_
      refine zM hs fun ac hs=>?_
      refine s_end (then_n ?_)
      exact ⟨7 - (k + 1),by omega,k + 1,⟨by omega,rfl,fun j hj=>by
          by_cases e:j=k
          · subst e; exact fun e=>hc (by rw [e]; simp)
          · exact hno j (by omega)⟩,St.next hs ⟨rfl,rfl,trivial⟩ rfl⟩
  · try simp only [z1,z2,z3,z4,z5,z6,z7] at hc
    obtain rfl:k=7:=by omega
    refine wp_exit (then_e (then_e (blk_hit (then_n (wp_seq (wp_reg ?_))))))
    refine zA hs fun ac hs=>?_
    refine s_end ?_
    replace hs:=hs.sub (F':=[(2,_)]) ⟨rfl,trivial⟩
    refine then_n (wp_ret ?_)
    refine s_ret hs rfl (.tmp (hs.tmp rfl) .nil) rfl ⟨_,rfl,hs.fr,?_⟩
    show I _=I _
    rw [height_no hno]
theorem ref07_Height (x:Int) (w:World) :Ctr Tryz.prog 108 [I x] w (fun _=>False) (fun v _=>v=I (height x)):=by
  refine fn_start (N:=20) Tryz.func108 rfl rfl rfl fun ac hk=>?_
  have hs:=St.start hk w
  refine wp_seq (wp_reg ?_)
  refine zA hs fun ac hs=>?_
  refine s_end (then_n (wp_seq (wp_reg ?_)))
  refine zA hs fun ac hs=>?_
  refine zA hs fun ac hs=>?_
  refine s_end (then_n (wp_seq (wp_block ?_)))
  refine s_loop hs (X:=Nat) (fun k=>[(3,I k),(4,I ((2:Int) ^ k))]) [(0,_),(2,_)] (fun _=>[]) (fun n k=>k≤6∧n=6 - k∧∀ j:Nat,j < k→(2:Int) ^ j < x) (_) (0) (⟨Nat.zero_le _,rfl,fun _ h=>absurd h (by omega)⟩) ⟨rfl,rfl,rfl,rfl,trivial⟩ rfl ?_
  rintro n k ac ww hok hs
  simp only [List.cons_append,List.nil_append] at hs
  obtain ⟨hk,rfl,hlo⟩:=hok
  have hp8:=pow_le64 k (by omega)
  have hp0:=pow_pos k
  refine wp_seq (wp_seq (wp_reg ?_))
  refine zM hs fun ac hs=>?_
  refine zM hs fun ac hs=>?_
  refine s_q hs (c_lssI (hs.ev rfl) (hs.ev rfl)) rfl fun ac hs=>?_
  refine zM hs fun ac hs=>?_
  refine s_g hs rfl rfl (fun hg=>c_move (hs.ev rfl)) rfl fun ac hs=>?_
  refine s_g hs rfl rfl (fun hg=>c_lssI (gev (hs.ev rfl) hg) (hs.ev rfl)) rfl fun ac hs=>?_
  refine s_q hs (c_and (hs.ev rfl) (hs.ev rfl)) rfl fun ac hs=>?_
  refine s_end (then_n ?_)
  refine s_cond hs rfl (fun hc=>?_) (fun hc=>?_)
  · try simp only [z1,z2,z3,z4,z5,z6,z7] at hc
    refine wp_skip (then_n (wp_block (wp_seq (wp_reg ?_))))
    refine zM hs fun ac hs=>?_
    refine s_q hs (c_mulI (hs.ev rfl) (hs.ev rfl) (by omega) (by omega)) rfl fun ac hs=>?_
    refine zA hs fun ac hs=>?_
    refine s_end (then_n (wp_reg ?_))
    refine zM hs fun ac hs=>?_
    refine s_q hs (c_addI (hs.ev rfl) (hs.ev rfl) (by omega) (by omega)) rfl fun ac hs=>?_
    refine zA hs fun ac hs=>?_
    refine s_end (blk_n (then_n ?_))
    exact ⟨6 - (k + 1),by omega,k + 1,⟨by omega,rfl,fun j hj=>by
        by_cases e:j=k
        · subst e; exact hc.1
        · exact hlo j (by omega)⟩,St.next hs ⟨rfl,(congrArg (fun z=>some (I z)) (by rw [Int.pow_succ]; omega)),rfl,rfl,trivial⟩ rfl⟩
  · try simp only [z1,z2,z3,z4,z5,z6,z7] at hc
    simp only [Bool.and_eq_false_iff,decide_eq_false_iff_not] at hc
    have hstop:=hc
    refine wp_exit (then_e (then_e (blk_hit (then_n (wp_seq (wp_seq (wp_reg ?_)))))))
    refine zM hs fun ac hs=>?_
    refine zM hs fun ac hs=>?_
    refine s_q hs (c_neqI (hs.ev rfl) (hs.ev rfl)) rfl fun ac hs=>?_
    refine s_end ?_
    replace hs:=hs.sub (F':=[(2,_),(3,_),(18,_)]) ⟨rfl,rfl,rfl,trivial⟩
    refine then_n ?_
    refine s_cond hs rfl (fun hc=>?_) (fun hc=>?_)
    · try simp only [z1,z2,z3,z4,z5,z6,z7] at hc
      refine wp_seq (wp_reg ?_)
      refine zA hs fun ac hs=>?_
      refine s_end ?_
      replace hs:=hs.sub (F':=[(2,_),(3,_)]) ⟨rfl,rfl,trivial⟩
      refine then_n (wp_ret (then_r ?_))
      refine s_ret hs rfl (.tmp (hs.tmp rfl) .nil) rfl ⟨_,rfl,hs.fr,?_⟩
      show I _=I _
      refine congrArg I (Eq.symm (height_no fun j hj e=>?_))
      by_cases h1:j < k
      · have:=hlo j h1; omega
      · by_cases h2:j=k
        · subst h2; exact hc e.symm
        · have:=pow_mono_int (show k + 1≤j by omega)
          rw [Int.pow_succ] at this
          omega
    · try simp only [z1,z2,z3,z4,z5,z6,z7] at hc
      refine wp_skip (then_n (wp_seq (wp_reg ?_)))
      refine zM hs fun ac hs=>?_
      refine zA hs fun ac hs=>?_
      refine s_end ?_
      replace hs:=hs.sub (F':=[(2,_)]) ⟨rfl,trivial⟩
      refine then_n (wp_ret ?_)
      refine s_ret hs rfl (.tmp (hs.tmp rfl) .nil) rfl ⟨_,rfl,hs.fr,?_⟩
      show I _=I _
      rw [← hc,height_pow k (by omega)]
theorem grove_Above (d:Int) (ep:UInt32) (lv:Int) (a b:List UInt8) (hal:a.length=16) (hbl:b.length=16) (w:World) :Ctr Tryz.prog 135 [I d,U ep,I lv,.agg (a.map B).toArray,.agg (b.map B).toArray] w (fun _=>False) (fun v _=>v=.agg ((ofT (aboveX d ep lv a b)).map B).toArray):=by
  refine fn_start (N:=31) Tryz.func135 rfl rfl rfl fun ac hk=>?_
  have hs:=St.start hk w
  refine wp_seq (wp_reg ?_)
  refine s_box hs rfl rfl rfl fun ac ww g8 hs=>?_
  refine s_box hs rfl rfl rfl fun ac ww g9 hs=>?_
  refine s_alloc hs ty36 rfl fun ac ww g10 hs=>?_
  refine s_end ?_
  replace hs:=hs.sub (F':=[(0,_),(1,_),(2,_),(8,_),(9,_),(10,_)]) ⟨rfl,rfl,rfl,rfl,rfl,rfl,trivial⟩
  refine then_n (wp_seq ?_)
  refine wp_region_rg pmix 18 (by kernel_rfl) rfl hs ?_
  simp only [List.take_succ_cons,List.take_zero]
  refine rg_q (fun ac ww h=>c_move (h.ev rfl)) rfl ?_
  refine rg_q (fun ac ww h=>c_cvIB un3 un5 (h.ev rfl)) rfl ?_
  refine rg_q (fun ac ww h=>c_move (h.ev rfl)) rfl ?_
  refine rg_q (fun ac ww h=>c_shrU (h.ev rfl) (h.ev rfl) (by decide)) rfl ?_
  refine rg_q (fun ac ww h=>c_cvUB un25 un5 (h.ev rfl)) rfl ?_
  refine rg_q (fun ac ww h=>c_move (h.ev rfl)) rfl ?_
  refine rg_q (fun ac ww h=>c_shrU (h.ev rfl) (h.ev rfl) (by decide)) rfl ?_
  refine rg_q (fun ac ww h=>c_cvUB un25 un5 (h.ev rfl)) rfl ?_
  refine rg_q (fun ac ww h=>c_move (h.ev rfl)) rfl ?_
  refine rg_q (fun ac ww h=>c_shrU (h.ev rfl) (h.ev rfl) (by decide)) rfl ?_
  refine rg_q (fun ac ww h=>c_cvUB un25 un5 (h.ev rfl)) rfl ?_
  refine rg_q (fun ac ww h=>c_move (h.ev rfl)) rfl ?_
  refine rg_q (fun ac ww h=>c_cvUB un25 un5 (h.ev rfl)) rfl ?_
  refine rg_q (fun ac ww h=>c_move (h.ev rfl)) rfl ?_
  refine rg_q (fun ac ww h=>c_cvIB un3 un5 (h.ev rfl)) rfl ?_
  refine rg_bslice un177 ty5 (fun ac ww h=>(.cons (h.ev rfl) (.cons (h.ev rfl) (.cons (h.ev rfl) (.cons (h.ev rfl) (.cons (h.ev rfl) (.cons (h.ev rfl) .nil))))))) rfl (by simp [Value.cells]) (by decide) rfl rfl ?_
  refine rg_q (fun ac ww h=>c_sliceA un36 ty5 (h.ev rfl)) rfl ?_
  refine rg_q (fun ac ww h=>c_sliceA un36 ty5 (h.ev rfl)) rfl ?_
  refine rg_nil fun ac ww L' hf hfe hs=>?_
  simp only [List.drop_succ_cons,List.drop_zero]
  obtain ⟨v26,L26,M26,h26,e26,rfl,rfl⟩:=hfe
  replace hs:=hs.add h26
  obtain ⟨g26,rfl,rfl⟩:=e26
  refine s_bslice hs un87 ty177 (.cons (hs.ev rfl) (.cons (hs.ev rfl) (.cons (hs.ev rfl) .nil))) rfl (by simp [Value.cells]) (by decide) rfl rfl fun ac ww g29 hs=>?_
  refine s_call hs fu139 (.cons (hs.ev rfl) (.cons (hs.ev rfl) .nil)) (mac_Short 71 [(_,gHead d ep lv),(_,a),(_,b)] _ (by simp [flat,hal,hbl]) _ (RdP.seg (ps:=[(_,gHead d ep lv),(_,a),(_,b)]) (hs.seg (i:=0) rfl) (by show 3≤maxLen; decide) (.cons (RdB.seg (l:=gHead d ep lv) (hs.seg (i:=1) rfl) (by rw [gHead_length]; decide)) (.cons (RdB.segn (hs.seg (i:=4) rfl) hal (by decide)) (.cons (RdB.segn (hs.seg (i:=3) rfl) hbl (by decide)) .nil))))) rfl fun ac ww v30 hf hp hs=>?_
  obtain rfl:=hp
  replace hs:=hs [] (.nil _ _)
  refine s_storeW (i:=2) hs ty36 rfl rfl rfl (by simp) (all_map_B _) (by simp) fun ww hs=>?_
  refine s_end ?_
  replace hs:=hs.sub (F':=[(10,_)]) ⟨rfl,trivial⟩
  refine then_n (wp_ret ?_)
  refine s_ret hs rfl (.cell (hs.tmp rfl) (run_loadA ty36 rfl (hs.seg (i:=2) rfl) (List.take_of_length_le (by simp)) (by simp)) .nil) rfl ⟨_,rfl,hs.fr,?_⟩
  show Value.agg _=Value.agg _
  rw [show flat [(_,gHead d ep lv),(_,a),(_,b)]=gHead d ep lv++a++b from by simp [flat]]
  rfl
theorem ref07_Text (d:Int) (ep:UInt32) (lv:Int) (a b:List UInt8) (hal:a.length=16) (hbl:b.length=16) (w:World) :Ctr Tryz.prog 123 [I d,U ep,I lv,.agg (a.map B).toArray,.agg (b.map B).toArray] w (fun _=>False) (outE (rowE (aboveX d ep lv a b)) w):=by
  refine fn_start (N:=28) Tryz.func123 rfl rfl rfl fun ac hk=>?_
  have hs:=St.start hk w
  refine wp_seq (wp_reg ?_)
  refine s_box hs rfl rfl rfl fun ac ww g8 hs=>?_
  refine s_box hs rfl rfl rfl fun ac ww g9 hs=>?_
  refine zA hs fun ac hs=>?_
  refine s_end ?_
  replace hs:=hs.sub (F':=[(0,_),(1,_),(2,_),(8,_),(9,_),(10,_)]) ⟨rfl,rfl,rfl,rfl,rfl,rfl,trivial⟩
  refine then_n (wp_seq (wp_reg ?_))
  refine zM hs fun ac hs=>?_
  refine s_q hs (c_cvIB un3 un5 (hs.ev rfl)) rfl fun ac hs=>?_
  refine s_bslice hs un177 ty5 (.cons (hs.ev rfl) .nil) rfl (by simp [Value.cells]) (by decide) rfl rfl fun ac ww g14 hs=>?_
  refine zM hs fun ac hs=>?_
  refine s_q hs (c_cvUV un25 un124 (hs.ev rfl)) rfl fun ac hs=>?_
  refine s_call hs fu109 (.cons (hs.ev rfl) (.cons (hs.ev rfl) .nil)) (ref05_Num ep.toUInt64 4 (by omega) _) rfl fun ac ww v17 hf hp hs=>?_
  obtain ⟨gn,rfl,hh⟩:=hp
  replace hs:=hs _ hh
  replace hs:=(hs.segrow (i:=1) (n:=1) (sz:=1) rfl rfl (by decide)).toL (show _=[_,.row _ ([i8 d]:List UInt8).length (([i8 d]:List UInt8).map B) 5 1,_,_] from rfl)
  refine s_appB (i:=1) hs un177 ty5 rfl rfl rfl (RdB.segn (l:=num ep.toUInt64 4 4) (hs.seg (i:=0) rfl) (by rw [num4]; rfl) (by decide)) (by rw [num4]; simp) rfl fun ac ww v18 hf hnil hs=>?_
  rw [num4] at hs
  refine zA hs fun ac hs=>?_
  refine s_end ?_
  replace hs:=hs.pick (L':=[_,_,_]) (.cons _ (.refl _))
  replace hs:=hs.sub (F':=[(2,_),(8,_),(9,_),(10,_),(11,_)]) ⟨rfl,rfl,rfl,rfl,rfl,trivial⟩
  refine then_n (wp_seq ?_)
  refine wp_region_perm pmix [0,1,2,3,5,6,4,7,8,9] (by kernel_rfl) ?_
  simp only [permOps,List.map_cons,List.map_nil,List.getD_cons_zero,List.getD_cons_succ,reOp,Option.map_none]
  refine any_rgX (J:=[4,5]) 6 (by kernel_rfl) (by kernel_rfl) rfl rfl hs ?_
  simp only [List.take_succ_cons,List.take_zero]
  refine rg_q (fun ac ww h=>c_move (h.ev rfl)) rfl ?_
  refine rg_q (fun ac ww h=>c_move (h.ev rfl)) rfl ?_
  refine rg_q (fun ac ww h=>c_cvIB un3 un5 (h.ev rfl)) rfl ?_
  refine rg_bslice un177 ty5 (fun ac ww h=>(.cons (h.ev rfl) .nil)) rfl (by simp [Value.cells]) (by decide) rfl rfl ?_
  refine rg_q (fun ac ww h=>c_sliceA un35 ty5 (h.ev rfl)) rfl ?_
  refine rg_q (fun ac ww h=>c_sliceA un35 ty5 (h.ev rfl)) rfl ?_
  refine rg_nil fun ac ww L' hf hfe hs hlk=>?_
  simp only [List.drop_succ_cons,List.drop_zero]
  obtain ⟨v22,L22,M22,h22,e22,rfl,rfl⟩:=hfe
  replace hs:=hs.add h22
  obtain ⟨g22,rfl,rfl⟩:=e22
  refine sk_appB (i:=1) hs un177 ty5 rfl rfl rfl (RdB.seg (l:=[i8 lv]) (hs.seg (i:=0) rfl) (by show 1≤maxLen; decide)) (by simp) rfl (fun ac ww v23 hf hnil hs=>late_read rfl rfl (hs.know.at_ 24 _ rfl) (c_sliceA un35 ty5 (hs.ev rfl)) (late_read rfl rfl (hs.know.at_ 25 _ rfl) (c_sliceA un35 ty5 (hs.ev rfl)) (late_nil))) fun ac ww v23 hf hnil hs=>?_
  obtain ⟨had,hcap,rfl,_,_⟩:=Rd.sl (RdB.row (hs.get (i:=1) rfl))
  refine s_bslice hs un87 ty177 (.cons (hs.ev rfl) (.cons (hs.ev rfl) (.cons (hs.ev rfl) .nil))) rfl (by simp [Value.cells]) (by decide) rfl rfl fun ac ww g26 hs=>?_
  refine s_call hs fu142 (.cons (hs.ev rfl) (.cons (hs.ev rfl) .nil)) (ref05_Text 71 [(_,gHead d ep lv),(_,a),(_,b)] _ (by simp [flat,hal,hbl]) _ (RdP.seg (ps:=[(_,gHead d ep lv),(_,a),(_,b)]) (hs.seg (i:=0) rfl) (by show 3≤maxLen; decide) (.cons (RdB.row (hs.get (i:=2) rfl)) (.cons (RdB.segn (hs.seg (i:=4) rfl) hal (by decide)) (.cons (RdB.segn (hs.seg (i:=3) rfl) hbl (by decide)) .nil))))) rfl fun ac ww v27 hf hp hs=>?_
  obtain ⟨qv,rfl,hh⟩:=hp
  rw [show flat [(_,gHead d ep lv),(_,a),(_,b)]=gHead d ep lv++a++b from by simp [flat]] at hh
  replace hs:=hs _ hh
  refine zA hs fun ac hs=>?_
  refine s_end ?_
  replace hs:=hs.sub (F':=[(10,_)]) ⟨rfl,trivial⟩
  refine then_n (wp_ret ?_)
  refine s_ret hs rfl (.tmp (hs.tmp rfl) .nil) rfl ⟨_,rfl,hs.fr,?_⟩
  exact ⟨_,rfl,(hs.pick (L':=[_]) (.cons_cons _ (List.nil_sublist _))).made⟩
end Go.Proofs.YtklajbdbnnceiaaGreat
end
