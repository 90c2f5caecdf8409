/- Own texts of this seat,laid together for one claim (with what its proof uses alone). -/
import Derived.Test.YtklajbdbnnceiaaGreatPasKd
set_option linter.unusedSimpArgs false
set_option linter.unusedVariables false
set_option maxRecDepth 100000
set_option maxHeartbeats 4000000
section
/- What a node shows and what it rises to,whatever is handed in. -/
namespace Go.Proofs.YtklajbdbnnceiaaGreat
open Go Go.Fw
open Sha
def okS (r x id:Int):Bool:=rightB r x && decide (0≤id) && decide (id < x)
theorem okS_spec {r x id:Int} (h:okS r x id=true):∃ lv W q:Nat,lv≤3∧W=2 ^ lv∧x=(W:Int)∧levels x=lv∧id=(q:Int)∧q < W∧rightB r W=true:=by
  unfold okS at h
  simp only [Bool.and_eq_true,decide_eq_true_eq] at h
  obtain ⟨lv,W,h1,h2,rfl,h4⟩:=right_lv h.1.1
  exact ⟨lv,W,id.toNat,h1,h2,rfl,h4,by omega,by omega,h.1.1⟩
theorem xor_beside (q:Nat):q ^^^ 1=besideI q:=by
  have h1:(q ^^^ 1) / 2=q / 2:=by rw [Nat.xor_div_two]; simp
  have h2:(q ^^^ 1) % 2=(q + 1) % 2:=by
    have h:=Nat.testBit_xor q 1 0
    simp only [Nat.testBit_zero] at h
    have h3:((q ^^^ 1) % 2=1) ↔ ¬ (q % 2=1):=by
      by_cases e:q % 2=1 <;> simp [e] at h ⊢ <;> omega
    omega
  unfold besideI
  split <;> omega
theorem beside_in {q n k:Nat} (h:q < 2 ^ n) (hk:k < n):besideI (q / 2 ^ k) < 2 ^ (n - k):=by
  have h1:q / 2 ^ k < 2 ^ (n - k):=by
    rw [Nat.div_lt_iff_lt_mul (Nat.two_pow_pos k),← Nat.pow_add,show n - k + k=n by omega]
    exact h
  obtain ⟨h2,hh⟩:∃ h2,2 ^ (n - k)=2 * h2:=⟨2 ^ (n - k - 1),by rw [show n - k=n - k - 1 + 1 by omega,Nat.pow_succ]; simp; omega⟩
  rw [hh] at h1 ⊢
  generalize q / 2 ^ k=z at h1 ⊢
  unfold besideI
  split <;> omega
def shL (d:Int) (ep sq:UInt32) (r:Int) (e:List UInt8) (x id:Int):List UInt8:=if okS r x id=true then lNode d ep sq r e 0 id.toNat else List.replicate 16 0
def shN (r x id:Int):Nat:=if okS r x id=true then (levels x).toNat else 0
def shW (d:Int) (ep sq:UInt32) (r:Int) (e:List UInt8) (x id:Int):List UInt8:=if okS r x id=true then showW d ep sq r e id.toNat (levels x).toNat else []
def shE (r x id:Int):Int:=if okS r x id=true then 0 else 1
def rsB (d:Int) (ep sq:UInt32) (r x id:Int) (l ws:List UInt8) (n:Nat):List UInt8:=if okS r x id=true then riseB d ep sq r id.toNat l ws (levels x).toNat n else List.replicate 16 0
def rsE (r x id:Int) (n:Nat):Int:=if okS r x id=true then riseE (levels x).toNat n else 1
def rsX (d:Int) (ep sq:UInt32) (r x id:Int) (l ws:List UInt8) (n:Nat):List (List UInt8):=if okS r x id=true then riseX d ep sq r id.toNat l ws (levels x).toNat n else []
theorem shL_length (d:Int) (ep sq:UInt32) (r:Int) (e:List UInt8) (x id:Int):(shL d ep sq r e x id).length=16:=by
  unfold shL
  split
  · exact lNode_length _ _ _ _ _ _ _
  · simp
theorem shW_length (d:Int) (ep sq:UInt32) (r:Int) (e:List UInt8) (x id:Int):(shW d ep sq r e x id).length=shN r x id * 16:=by
  unfold shW shN
  split
  · exact showW_length _ _ _ _ _ _ _
  · rfl
theorem rsB_length {d:Int} {ep sq:UInt32} {r x id:Int} {l ws:List UInt8} (hl:l.length=16) (n:Nat):(rsB d ep sq r x id l ws n).length=16:=by
  unfold rsB
  split
  · exact riseB_length hl _ _
  · simp
theorem meets {d:Int} {ep sq:UInt32} {r:Int} {e:List UInt8} {x id:Int} (h:okS r x id=true):rsB d ep sq r x id (shL d ep sq r e x id) (shW d ep sq r e x id) (shN r x id)=upB d ep sq r e x∧rsE r x id (shN r x id)=0∧upN r x=0:=by
  obtain ⟨lv,W,q,h1,h2,rfl,h4,rfl,h6,h7⟩:=okS_spec h
  rw [rsB,rsE,shL,shW,shN,if_pos h,if_pos h,if_pos h,if_pos h,if_pos h,h4,Int.toNat_natCast,Int.toNat_natCast,riseB,riseE,if_pos rfl,if_pos rfl,rise_honest,upB,upN,if_pos h7,if_pos h7,h4,Int.toNat_natCast,Nat.div_eq_of_lt (by rw [← h2]; exact h6)]
  exact ⟨rfl,rfl,rfl⟩
theorem ladder_Show (d:Int) (ep sq:UInt32) (r:Int) (e:List UInt8) (W lv q:Nat) (hel:e.length=16) (hr:rightB r W=true) (hW:W=2 ^ lv) (hlv:lv≤3) (hxl:levels W=lv) (hqW:q < W) (w:World) :Ctr Tryz.prog 76 [.agg #[I d,U ep,U sq],I r,.agg (e.map B).toArray,I W,I q] w (fun _=>False) (outE (tup3E (.agg ((lNode d ep sq r e 0 q).map B).toArray) (I 0) (rowS lv (showW d ep sq r e q lv))) w):=by
  have hW8:W≤8:=by rw [hW]; exact pow8 hlv
  refine fn_start (N:=64) Tryz.func76 rfl rfl rfl fun ac hk=>?_
  have hs:=St.start hk w
  refine wp_seq (wp_reg ?_)
  refine s_box hs rfl rfl rfl fun ac ww g5 hs=>?_
  refine s_box hs rfl rfl rfl fun ac ww g7 hs=>?_
  refine s_alloc hs ty36 rfl fun ac ww g10 hs=>?_
  refine zA hs fun ac hs=>?_
  refine zA hs fun ac hs=>?_
  refine s_end ?_
  replace hs:=hs.sub (F':=[(1,_),(3,_),(4,_),(5,_),(7,_),(10,_),(11,_),(12,_)]) ⟨rfl,rfl,rfl,rfl,rfl,rfl,rfl,rfl,trivial⟩
  refine then_n (wp_seq (wp_seq (wp_reg ?_)))
  refine zM hs fun ac hs=>?_
  refine zM hs fun ac hs=>?_
  refine s_call hs fu114 (.cons (hs.ev rfl) (.cons (hs.ev rfl) .nil)) (ladder_right r W _) rfl fun ac ww v19 hf hp hs=>?_
  obtain rfl:=hp
  replace hs:=hs [] (.nil _ _)
  refine s_q hs (c_ff (c_not (hs.ev rfl)) (by rw [hr]; rfl)) rfl fun ac hs=>?_
  refine zM hs fun ac hs=>?_
  refine s_yes hs rfl rfl ?_
  refine zM hs fun ac hs=>?_
  refine s_yes hs rfl rfl ?_
  refine s_q hs (c_ff (c_lssI (hs.ev rfl) (hs.ev rfl)) (by simp; try omega)) rfl fun ac hs=>?_
  refine s_q hs (c_pick (hs.ev rfl) (hs.ev rfl) (hs.ev rfl)) rfl fun ac hs=>?_
  refine zM hs fun ac hs=>?_
  refine s_yes hs rfl rfl ?_
  refine zM hs fun ac hs=>?_
  refine s_yes hs rfl rfl ?_
  refine zM hs fun ac hs=>?_
  refine s_yes hs rfl rfl ?_
  refine s_q hs (c_ff (c_geqI (hs.ev rfl) (hs.ev rfl)) (by simp; try omega)) rfl fun ac hs=>?_
  refine s_q hs (c_pick (hs.ev rfl) (hs.ev rfl) (hs.ev rfl)) rfl fun ac hs=>?_
  refine s_end ?_
  replace hs:=hs.sub (F':=[(1,_),(3,_),(4,_),(5,_),(7,_),(10,_),(11,_),(12,_),(29,_)]) ⟨rfl,rfl,rfl,rfl,rfl,rfl,rfl,rfl,rfl,trivial⟩
  refine then_n ?_
  refine wp_cond_false (hs.ev rfl) ?_
  refine wp_skip (then_n (wp_seq (wp_reg ?_)))
  refine s_q hs (c_loadW ty165 ag165 (hs.ev rfl) (hs.seg (i:=2) rfl) (by rfl)) rfl fun ac hs=>?_
  refine zM hs fun ac hs=>?_
  refine s_q hs (c_loadW ty36 rfl (hs.ev rfl) (hs.seg (i:=1) rfl) (by rw [List.length_map,hel])) rfl fun ac hs=>?_
  refine zM hs fun ac hs=>?_
  refine s_call hs fu115 (.cons (hs.ev rfl) (.cons (hs.ev rfl) (.cons (hs.ev rfl) (.cons (hs.ev rfl) .nil)))) (ladder_tree d ep sq r e W lv hW hlv hel _) rfl fun ac ww v35 hf hp hs=>?_
  obtain ⟨L',⟨ps,hps,rfl⟩,hh⟩:=hp
  replace hs:=hs _ hh
  have hpl:ps.length=lv + 1:=by have:=congrArg List.length hps; simpa using this
  obtain ⟨og,ocap,ocur,rfl,hog,hon,hom,hot⟩:=texts_at (hs.get (i:=0) rfl) (by omega)
  refine zA hs fun ac hs=>?_
  refine s_end ?_
  replace hs:=hs.sub (F':=[(4,_),(10,_),(11,_),(12,_),(13,_)]) ⟨rfl,rfl,rfl,rfl,rfl,trivial⟩
  refine then_n (wp_seq (wp_reg ?_))
  refine zA hs fun ac hs=>?_
  refine s_end ?_
  replace hs:=hs.nilrow 36 16
  refine then_n (wp_seq (wp_seq (wp_reg ?_)))
  refine zM hs fun ac hs=>?_
  refine zA hs fun ac hs=>?_
  refine zA hs fun ac hs=>?_
  refine s_end ?_
  replace hs:=hs.sub (F':=[(4,_),(10,_),(11,_),(12,_),(13,_),(14,_),(15,_),(16,_)]) ⟨rfl,rfl,rfl,rfl,rfl,rfl,rfl,rfl,trivial⟩
  refine then_n (wp_block ?_)
  refine s_loop hs (X:=Nat × Value) (fun x=>[(14,x.2),(15,I x.1),(16,I (q / 2 ^ x.1:Nat))]) [(4,_),(10,_),(11,_),(12,_),(13,_)] (fun x=>[.row x.2 x.1 ((showW d ep sq r e q x.1).map B) 36 16,_,_,_,_]) (fun j x=>x.1≤lv∧j=lv - x.1) (_) ((0,_)) (⟨Nat.zero_le _,rfl⟩) ⟨rfl,rfl,(congrArg (fun z:Nat=>some (I z)) (by simp)),rfl,rfl,rfl,rfl,rfl,trivial⟩ rfl ?_
  rintro n ⟨k,v⟩ ac ww hok hs
  simp only [List.cons_append,List.nil_append] at hs
  obtain ⟨hk,rfl⟩:=hok
  simp only at hk hs
  obtain ⟨qk,hqk⟩:∃ qk:Nat,q / 2 ^ k=qk:=⟨_,rfl⟩
  have hqle:qk≤q:=hqk ▸ Nat.div_le_self _ _
  rw [hqk] at hs
  have hsl:=showW_length d ep sq r e q k
  refine wp_seq (wp_seq (wp_reg ?_))
  refine zM hs fun ac hs=>?_
  refine zM hs fun ac hs=>?_
  refine s_q hs (c_lenS un209 (hs.ev rfl)) rfl fun ac hs=>?_
  refine s_q hs (c_to (c_subI (hs.ev rfl) (hs.ev rfl) (by omega) (by omega)) ((congrArg I (show ((ps.length:Int) - 1=(lv:Int)) by omega)))) rfl fun ac hs=>?_
  refine s_q hs (c_lssI (hs.ev rfl) (hs.ev rfl)) rfl fun ac hs=>?_
  refine s_end (then_n ?_)
  refine s_cond hs rfl (fun hc=>?_) (fun hc=>?_)
  · try simp only [z1,z2,z3,z4,z5,z6,z7] at hc
    have hkl:k < lv:=by omega
    have hbl:=beside_in (k:=k) (by rw [← hW]; exact hqW) hkl
    rw [hqk] at hbl
    obtain ⟨og2,oc2,ocur2,hoe2,hog2,_,_,hot2⟩:=texts_at (hs.get (i:=1) rfl) (by omega)
    cases hoe2
    have hz2:=snd_at hps (show k < lv + 1 by omega) (.nilIface,0,[])
    have ho2:ww.ownsRow 0 36 16 (ps.getD k (.nilIface,0,[])).1 (ps.getD k (.nilIface,0,[])).2.1 ((ps.getD k (.nilIface,0,[])).2.2.map B):=texts_part (hs.get (i:=1) rfl) (k:=k) (by omega) (.nilIface,0,[])
    rw [hz2] at ho2
    simp only [lRow] at ho2
    obtain ⟨rg2,rcap2,rcur2,hre2,hrg2,hrn2,hrm2,hrt2⟩:=owns_at ho2 (pow_pos' _)
    refine wp_skip (then_n (wp_seq (wp_block (wp_reg ?_))))
    refine zM hs fun ac hs=>?_
    refine zM hs fun ac hs=>?_
    refine zM hs fun ac hs=>?_
    refine s_q hs (c_idxS (j:=k) un209 ty39 (hs.ev rfl) (hs.ev rfl) (by omega) (by omega)) rfl fun ac hs=>?_
    refine s_q hs (c_loadS un39 rfl (hs.ev rfl) hog2 ((outcell (.nilIface,0,[]) hot2 (by omega)).trans (congrArg some hre2))) rfl fun ac hs=>?_
    refine zM hs fun ac hs=>?_
    refine s_q hs (c_to (c_xor1I (hs.ev rfl) (hs.ev rfl) (by omega)) ((congrArg (fun z:Nat=>I z) (xor_beside qk)))) rfl fun ac hs=>?_
    refine s_q hs (c_idxS (j:=besideI qk) un39 ty36 (hs.ev rfl) (hs.ev rfl) (by omega) hbl) rfl fun ac hs=>?_
    refine s_q hs (c_loadA ty36 rfl (hs.ev rfl) hrg2 ((rowpiece (i:=besideI qk) hrt2 (by rw [lrows_length]; omega) hbl).trans (by rw [rows_piece (lNode_length d ep sq r e k) hbl])) (by rw [List.length_map]; exact lNode_length _ _ _ _ _ _ _)) rfl fun ac hs=>?_
    refine s_bslice hs un39 ty36 (.cons (hs.ev rfl) .nil) rfl (by intro v hv; simp only [List.mem_singleton] at hv; subst hv; simp [Value.cells,lNode_length]) (by decide) (show _=(lNode d ep sq r e k (besideI qk)).map B by simp [flatCells,Value.cells]) rfl fun ac ww g55 hs=>?_
    refine s_append (i:=1) hs un39 ty36 (by decide) rfl rfl rfl (Rd.of_seg (n:=1) (hs.seg (i:=0) rfl) (Nat.le_refl _) (by decide) (List.take_of_length_le (by simp))) (by rw [List.length_map,lNode_length]) (all_map_B _) (by unfold maxLen; omega) (by omega) rfl fun ac ww v56 hf hnil hs=>?_
    refine zA hs fun ac hs=>?_
    refine s_end (blk_n (then_n (wp_reg ?_)))
    refine zM hs fun ac hs=>?_
    refine s_q hs (c_addI (hs.ev rfl) (hs.ev rfl) (by omega) (by omega)) rfl fun ac hs=>?_
    refine zM hs fun ac hs=>?_
    refine s_q hs (c_quoI (hs.ev rfl) (hs.ev rfl) (by omega) (by omega) (by omega)) rfl fun ac hs=>?_
    refine zA hs fun ac hs=>?_
    refine zA hs fun ac hs=>?_
    refine s_end (then_n ?_)
    replace hs:=hs.pick (L':=[_,_,_,_,_]) (.cons _ (.refl _))
    exact ⟨lv - (k + 1),by (try simp only); omega,(k + 1,_),⟨by (try simp only); omega,rfl⟩,St.next hs ⟨rfl,rfl,(congrArg (fun z=>some (I z)) (by rw [half_pow,hqk]; omega)),rfl,rfl,rfl,rfl,rfl,trivial⟩ (by simp only [showW_succ,List.map_append,wayN,hqk])⟩
  · try simp only [z1,z2,z3,z4,z5,z6,z7] at hc
    obtain rfl:lv=k:=by omega
    obtain ⟨og3,oc3,ocur3,hoe3,hog3,_,_,hot3⟩:=texts_at (hs.get (i:=1) rfl) (by omega)
    cases hoe3
    have hz3:=snd_at hps (show 0 < lv + 1 by omega) (.nilIface,0,[])
    have ho3:ww.ownsRow 0 36 16 (ps.getD 0 (.nilIface,0,[])).1 (ps.getD 0 (.nilIface,0,[])).2.1 ((ps.getD 0 (.nilIface,0,[])).2.2.map B):=texts_part (hs.get (i:=1) rfl) (k:=0) (by omega) (.nilIface,0,[])
    rw [hz3] at ho3
    simp only [lRow] at ho3
    obtain ⟨rg3,rcap3,rcur3,hre3,hrg3,hrn3,hrm3,hrt3⟩:=owns_at ho3 (pow_pos' _)
    refine wp_exit (then_e (then_e (blk_hit (then_n (wp_seq (wp_reg ?_))))))
    refine zM hs fun ac hs=>?_
    refine s_q hs (c_idxS (j:=0) un209 ty39 (hs.ev rfl) (hs.ev rfl) (by omega) (by omega)) rfl fun ac hs=>?_
    refine s_q hs (c_loadS un39 rfl (hs.ev rfl) hog3 ((outcell (.nilIface,0,[]) hot3 (by omega)).trans (congrArg some hre3))) rfl fun ac hs=>?_
    refine zM hs fun ac hs=>?_
    refine s_q hs (c_idxS (j:=q) un39 ty36 (hs.ev rfl) (hs.ev rfl) (by omega) (show q < 2 ^ (lv - 0) by rw [Nat.sub_zero,← hW]; exact hqW)) rfl fun ac hs=>?_
    refine s_q hs (c_loadA ty36 rfl (hs.ev rfl) hrg3 ((rowpiece (i:=q) hrt3 (by rw [lrows_length]; omega) (show q < 2 ^ (lv - 0) by rw [Nat.sub_zero,← hW]; exact hqW)).trans (by rw [rows_piece (lNode_length d ep sq r e 0) (show q < 2 ^ (lv - 0) by rw [Nat.sub_zero,← hW]; exact hqW)])) (by rw [List.length_map]; exact lNode_length _ _ _ _ _ _ _)) rfl fun ac hs=>?_
    refine zM hs fun ac hs=>?_
    refine s_storeW (i:=2) hs ty36 rfl rfl rfl (by rw [List.length_map]; exact lNode_length _ _ _ _ _ _ _) (all_map_B _) rfl fun ww hs=>?_
    refine zA hs fun ac hs=>?_
    refine zA hs fun ac hs=>?_
    refine s_end ?_
    replace hs:=hs.sub (F':=[(10,_),(11,_),(12,_)]) ⟨rfl,rfl,rfl,trivial⟩
    refine then_n (wp_ret ?_)
    refine s_ret hs rfl (.cell (hs.tmp rfl) (run_loadA ty36 rfl (hs.seg (i:=2) rfl) (List.take_of_length_le (show (List.map B (lNode d ep sq r e 0 q)).length≤16 by rw [List.length_map,lNode_length]; exact Nat.le_refl _)) (show (List.map B (lNode d ep sq r e 0 q)).length=16 by rw [List.length_map,lNode_length])) (.tmp (hs.tmp rfl) (.tmp (hs.tmp rfl) .nil))) rfl ⟨_,rfl,hs.fr,?_⟩
    exact ⟨_,⟨_,rfl,rfl⟩,(hs.pick (L':=[_]) (.cons_cons _ (List.nil_sublist _))).made⟩
theorem ladder_ShowBad (d:Int) (ep sq:UInt32) (r x id:Int) (e:List UInt8) (hel:e.length=16) (hno:¬ okS r x id=true) (w:World) :Ctr Tryz.prog 76 [.agg #[I d,U ep,U sq],I r,.agg (e.map B).toArray,I x,I id] w (fun _=>False) (outE (tup3E (.agg ((List.replicate 16 (0:UInt8)).map B).toArray) (I 1) (rowS 0 [])) w):=by
  refine fn_start (N:=64) Tryz.func76 rfl rfl rfl fun ac hk=>?_
  have hs:=St.start hk w
  refine wp_seq (wp_reg ?_)
  refine s_box hs rfl rfl rfl fun ac ww g5 hs=>?_
  refine s_box hs rfl rfl rfl fun ac ww g7 hs=>?_
  refine s_alloc hs ty36 rfl fun ac ww g10 hs=>?_
  refine zA hs fun ac hs=>?_
  refine zA hs fun ac hs=>?_
  refine s_end ?_
  replace hs:=hs.sub (F':=[(1,_),(3,_),(4,_),(5,_),(7,_),(10,_),(11,_),(12,_)]) ⟨rfl,rfl,rfl,rfl,rfl,rfl,rfl,rfl,trivial⟩
  refine then_n (wp_seq (wp_seq (wp_reg ?_)))
  refine zM hs fun ac hs=>?_
  refine zM hs fun ac hs=>?_
  refine s_call hs fu114 (.cons (hs.ev rfl) (.cons (hs.ev rfl) .nil)) (ladder_right r x _) rfl fun ac ww v19 hf hp hs=>?_
  obtain rfl:=hp
  replace hs:=hs [] (.nil _ _)
  refine s_q hs (c_not (hs.ev rfl)) rfl fun ac hs=>?_
  refine zM hs fun ac hs=>?_
  refine s_g hs rfl rfl (fun hg=>c_move (hs.ev rfl)) rfl fun ac hs=>?_
  refine s_g hs rfl rfl (fun hg=>c_lssI (gev (hs.ev rfl) hg) (hs.ev rfl)) rfl fun ac hs=>?_
  refine s_q hs (c_or (hs.ev rfl) (hs.ev rfl)) rfl fun ac hs=>?_
  refine zM hs fun ac hs=>?_
  refine s_g hs rfl rfl (fun hg=>c_move (hs.ev rfl)) rfl fun ac hs=>?_
  refine s_g hs rfl rfl (fun hg=>c_move (hs.ev rfl)) rfl fun ac hs=>?_
  refine s_g hs rfl rfl (fun hg=>c_geqI (gev (hs.ev rfl) hg) (gev (hs.ev rfl) hg)) rfl fun ac hs=>?_
  refine s_q hs (c_or (hs.ev rfl) (hs.ev rfl)) rfl fun ac hs=>?_
  refine s_end ?_
  replace hs:=hs.sub (F':=[(1,_),(3,_),(4,_),(5,_),(7,_),(10,_),(11,_),(12,_),(29,_)]) ⟨rfl,rfl,rfl,rfl,rfl,rfl,rfl,rfl,rfl,trivial⟩
  refine then_n ?_
  refine s_cond hs rfl (fun hc=>?_) (fun hc=>?_)
  · try simp only [z1,z2,z3,z4,z5,z6,z7] at hc
    refine wp_seq (wp_reg ?_)
    refine s_q hs (c_buildA ty36 un36 ty5 (zc:=(List.replicate 16 (0:UInt8)).map B) (vs:=[]) .nil (by simp) (by simp [flatCells]) rfl) rfl fun ac hs=>?_
    refine s_storeW (i:=0) hs ty36 rfl rfl rfl (by simp) (all_map_B _) rfl fun ww hs=>?_
    refine zA hs fun ac hs=>?_
    refine zA hs fun ac hs=>?_
    refine s_end ?_
    replace hs:=hs.sub (F':=[(1,_),(3,_),(4,_),(5,_),(7,_),(10,_),(11,_),(12,_)]) ⟨rfl,rfl,rfl,rfl,rfl,rfl,rfl,rfl,trivial⟩
    refine then_n (wp_ret (then_r ?_))
    
    refine s_ret hs rfl (.cell (hs.tmp rfl) (run_loadA ty36 rfl (hs.seg (i:=0) rfl) (List.take_of_length_le (by simp)) (by simp)) (.tmp (hs.tmp rfl) (.tmp (hs.tmp rfl) .nil))) rfl ⟨_,rfl,hs.fr,?_⟩
    exact ⟨_,⟨_,rfl,rfl⟩,((hs.nilrow 36 16).pick (L':=[_]) (.cons_cons _ (List.nil_sublist _))).made⟩
  · exact absurd (by simp at hc; simp [okS]; omega) hno
theorem ladder_RiseBad (d:Int) (ep sq:UInt32) (r x id:Int) (l:List UInt8) (hll:l.length=16) (wv:Value) (hno:¬ okS r x id=true) (w:World) :Ctr Tryz.prog 83 [.agg #[I d,U ep,U sq],I r,I x,I id,.agg (l.map B).toArray,wv] w (fun _=>False) (fun v _=>v=.tuple #[(.agg ((List.replicate 16 (0:UInt8)).map B).toArray),I 1]):=by
  refine fn_start (N:=61) Tryz.func83 rfl rfl rfl fun ac hk=>?_
  have hs:=St.start hk w
  refine wp_seq (wp_reg ?_)
  refine s_box hs rfl rfl rfl fun ac ww g6 hs=>?_
  refine s_box hs rfl rfl rfl fun ac ww g10 hs=>?_
  refine s_alloc hs ty36 rfl fun ac ww g12 hs=>?_
  refine zA hs fun ac hs=>?_
  refine s_end ?_
  replace hs:=hs.sub (F':=[(1,_),(2,_),(3,_),(5,_),(6,_),(10,_),(12,_),(13,_)]) ⟨rfl,rfl,rfl,rfl,rfl,rfl,rfl,rfl,trivial⟩
  refine then_n (wp_seq (wp_block (wp_seq (wp_reg ?_))))
  refine zM hs fun ac hs=>?_
  refine zM hs fun ac hs=>?_
  refine s_call hs fu114 (.cons (hs.ev rfl) (.cons (hs.ev rfl) .nil)) (ladder_right r x _) rfl fun ac ww v19 hf hp hs=>?_
  obtain rfl:=hp
  replace hs:=hs [] (.nil _ _)
  refine s_q hs (c_not (hs.ev rfl)) rfl fun ac hs=>?_
  refine zM hs fun ac hs=>?_
  refine s_g hs rfl rfl (fun hg=>c_move (hs.ev rfl)) rfl fun ac hs=>?_
  refine s_g hs rfl rfl (fun hg=>c_lssI (gev (hs.ev rfl) hg) (hs.ev rfl)) rfl fun ac hs=>?_
  refine s_q hs (c_or (hs.ev rfl) (hs.ev rfl)) rfl fun ac hs=>?_
  refine zM hs fun ac hs=>?_
  refine s_g hs rfl rfl (fun hg=>c_move (hs.ev rfl)) rfl fun ac hs=>?_
  refine s_g hs rfl rfl (fun hg=>c_move (hs.ev rfl)) rfl fun ac hs=>?_
  refine s_g hs rfl rfl (fun hg=>c_geqI (gev (hs.ev rfl) hg) (gev (hs.ev rfl) hg)) rfl fun ac hs=>?_
  refine s_q hs (c_or (hs.ev rfl) (hs.ev rfl)) rfl fun ac hs=>?_
  refine zA hs fun ac hs=>?_
  refine s_end ?_
  replace hs:=hs.sub (F':=[(1,_),(2,_),(3,_),(5,_),(6,_),(10,_),(12,_),(13,_),(16,_)]) ⟨rfl,rfl,rfl,rfl,rfl,rfl,rfl,rfl,rfl,trivial⟩
  refine then_n ?_
  refine s_cond hs rfl (fun hc=>?_) (fun hc=>?_)
  · try simp only [z1,z2,z3,z4,z5,z6,z7] at hc
    refine wp_seq (wp_reg ?_)
    refine s_q hs (c_buildA ty36 un36 ty5 (zc:=(List.replicate 16 (0:UInt8)).map B) (vs:=[]) .nil (by simp) (by simp [flatCells]) rfl) rfl fun ac hs=>?_
    refine s_storeW (i:=0) hs ty36 rfl rfl rfl (by simp) (all_map_B _) rfl fun ww hs=>?_
    refine zA hs fun ac hs=>?_
    refine s_end ?_
    replace hs:=hs.sub (F':=[(1,_),(2,_),(3,_),(5,_),(6,_),(10,_),(12,_),(13,_)]) ⟨rfl,rfl,rfl,rfl,rfl,rfl,rfl,rfl,trivial⟩
    refine then_n (wp_ret (blk_r (then_r ?_)))
    
    refine s_ret hs rfl (.cell (hs.tmp rfl) (run_loadA ty36 rfl (hs.seg (i:=0) rfl) (List.take_of_length_le (by simp)) (by simp)) (.tmp (hs.tmp rfl) .nil)) rfl ⟨_,rfl,hs.fr,?_⟩
    rfl
  · exact absurd (by simp at hc; simp [okS]; omega) hno
theorem ref06_RiseBad (d:Int) (ep sq:UInt32) (r x id:Int) (l:List UInt8) (hll:l.length=16) (wv:Value) (hno:¬ okS r x id=true) (w:World) :Ctr Tryz.prog 90 [.agg #[I d,U ep,U sq],I r,I x,I id,.agg (l.map B).toArray,wv] w (fun _=>False) (outE (tup3E (.agg ((List.replicate 16 (0:UInt8)).map B).toArray) (I 1) (textsE 177 5 [])) w):=by
  refine fn_start (N:=73) Tryz.func90 rfl rfl rfl fun ac hk=>?_
  have hs:=St.start hk w
  refine wp_seq (wp_reg ?_)
  refine s_box hs rfl rfl rfl fun ac ww g6 hs=>?_
  refine s_box hs rfl rfl rfl fun ac ww g10 hs=>?_
  refine s_alloc hs ty35 rfl fun ac ww g12 hs=>?_
  refine zA hs fun ac hs=>?_
  refine zA hs fun ac hs=>?_
  refine s_end ?_
  replace hs:=hs.sub (F':=[(1,_),(2,_),(3,_),(5,_),(6,_),(10,_),(12,_),(13,_),(14,_)]) ⟨rfl,rfl,rfl,rfl,rfl,rfl,rfl,rfl,rfl,trivial⟩
  refine then_n (wp_seq (wp_seq (wp_reg ?_)))
  refine zM hs fun ac hs=>?_
  refine zM hs fun ac hs=>?_
  refine s_call hs fu116 (.cons (hs.ev rfl) (.cons (hs.ev rfl) .nil)) (ref06_Right r x _) rfl fun ac ww v20 hf hp hs=>?_
  obtain rfl:=hp
  replace hs:=hs [] (.nil _ _)
  refine s_q hs (c_not (hs.ev rfl)) rfl fun ac hs=>?_
  refine zM hs fun ac hs=>?_
  refine s_g hs rfl rfl (fun hg=>c_move (hs.ev rfl)) rfl fun ac hs=>?_
  refine s_g hs rfl rfl (fun hg=>c_lssI (gev (hs.ev rfl) hg) (hs.ev rfl)) rfl fun ac hs=>?_
  refine s_q hs (c_or (hs.ev rfl) (hs.ev rfl)) rfl fun ac hs=>?_
  refine zM hs fun ac hs=>?_
  refine s_g hs rfl rfl (fun hg=>c_move (hs.ev rfl)) rfl fun ac hs=>?_
  refine s_g hs rfl rfl (fun hg=>c_move (hs.ev rfl)) rfl fun ac hs=>?_
  refine s_g hs rfl rfl (fun hg=>c_geqI (gev (hs.ev rfl) hg) (gev (hs.ev rfl) hg)) rfl fun ac hs=>?_
  refine s_q hs (c_or (hs.ev rfl) (hs.ev rfl)) rfl fun ac hs=>?_
  refine s_end ?_
  replace hs:=hs.sub (F':=[(1,_),(2,_),(3,_),(5,_),(6,_),(10,_),(12,_),(13,_),(14,_),(30,_)]) ⟨rfl,rfl,rfl,rfl,rfl,rfl,rfl,rfl,rfl,rfl,trivial⟩
  refine then_n ?_
  refine s_cond hs rfl (fun hc=>?_) (fun hc=>?_)
  · try simp only [z1,z2,z3,z4,z5,z6,z7] at hc
    refine wp_seq (wp_reg ?_)
    refine s_q hs (c_buildA ty35 un35 ty5 (zc:=(List.replicate 16 (0:UInt8)).map B) (vs:=[]) .nil (by simp) (by simp [flatCells]) rfl) rfl fun ac hs=>?_
    refine s_storeW (i:=0) hs ty35 rfl rfl rfl (by simp) (all_map_B _) rfl fun ww hs=>?_
    refine zA hs fun ac hs=>?_
    refine zA hs fun ac hs=>?_
    refine s_end ?_
    replace hs:=hs.sub (F':=[(1,_),(2,_),(3,_),(5,_),(6,_),(10,_),(12,_),(13,_),(14,_)]) ⟨rfl,rfl,rfl,rfl,rfl,rfl,rfl,rfl,rfl,trivial⟩
    refine then_n (wp_ret (then_r ?_))
    
    refine s_ret hs rfl (.cell (hs.tmp rfl) (run_loadA ty35 rfl (hs.seg (i:=0) rfl) (List.take_of_length_le (by simp)) (by simp)) (.tmp (hs.tmp rfl) (.tmp (hs.tmp rfl) .nil))) rfl ⟨_,rfl,hs.fr,?_⟩
    exact ⟨_,⟨_,rfl,[],rfl,rfl⟩,((hs.texts0 177 (Ent.part 5)).pick (L':=[_]) (.cons_cons _ (List.nil_sublist _))).made⟩
  · exact absurd (by simp at hc; simp [okS]; omega) hno
end Go.Proofs.YtklajbdbnnceiaaGreat
end

section
/- Laws of ladders: what is shown rises. -/
namespace Go.Proofs.YtklajbdbnnceiaaGreat
open Go Go.Fw
open Sha
theorem ladder_ShowA (d:Int) (ep sq:UInt32) (r:Int) (e:List UInt8) (x id:Int) (hel:e.length=16) (w:World) :Ctr Tryz.prog 76 [.agg #[I d,U ep,U sq],I r,.agg (e.map B).toArray,I x,I id] w (fun _=>False) (outE (tup3E (.agg ((shL d ep sq r e x id).map B).toArray) (I (shE r x id)) (rowS (shN r x id) (shW d ep sq r e x id))) w):=by
  by_cases h:okS r x id=true
  · obtain ⟨lv,W,q,h1,h2,rfl,h4,rfl,h6,h7⟩:=okS_spec h
    have h8:=ladder_Show d ep sq r e W lv q hel h7 h2 h1 h4 h6 w
    simp only [shL,shE,shN,shW,if_pos h,h4,Int.toNat_natCast]
    exact h8
  · have h8:=ladder_ShowBad d ep sq r x id e hel h w
    simp only [shL,shE,shN,shW,if_neg h]
    exact h8
theorem ladder_RiseA (d:Int) (ep sq:UInt32) (r x id:Int) (l ws:List UInt8) (n:Nat) (wv:Value) (hll:l.length=16) (hwl:ws.length=n * 16) (w:World) (hqw:Rd w wv n (ws.map B)):Ctr Tryz.prog 83 [.agg #[I d,U ep,U sq],I r,I x,I id,.agg (l.map B).toArray,wv] w (fun _=>False) (fun v _=>v=.tuple #[.agg ((rsB d ep sq r x id l ws n).map B).toArray,I (rsE r x id n)]):=by
  by_cases h:okS r x id=true
  · obtain ⟨lv,W,q,h1,h2,rfl,h4,rfl,h6,h7⟩:=okS_spec h
    have h8:=ladder_Rise d ep sq r W lv q n l ws wv h7 h2 h1 h4 h6 hll hwl w hqw
    simp only [rsB,rsE,if_pos h,h4,Int.toNat_natCast]
    exact h8
  · have h8:=ladder_RiseBad d ep sq r x id l hll wv h w
    simp only [rsB,rsE,if_neg h]
    exact h8
theorem ref06_RiseA (d:Int) (ep sq:UInt32) (r x id:Int) (l ws:List UInt8) (n:Nat) (wv:Value) (hll:l.length=16) (hwl:ws.length=n * 16) (hn6:n≤1000000) (w:World) (hqw:Rd w wv n (ws.map B)):Ctr Tryz.prog 90 [.agg #[I d,U ep,U sq],I r,I x,I id,.agg (l.map B).toArray,wv] w (fun _=>False) (outE (tup3E (.agg ((rsB d ep sq r x id l ws n).map B).toArray) (I (rsE r x id n)) (textsE 177 5 (rsX d ep sq r x id l ws n))) w):=by
  by_cases h:okS r x id=true
  · obtain ⟨lv,W,q,h1,h2,rfl,h4,rfl,h6,h7⟩:=okS_spec h
    have h8:=ref06_Rise d ep sq r W lv q n l ws wv h7 h2 h1 h4 h6 hll hwl hn6 w hqw
    simp only [rsB,rsE,rsX,if_pos h,h4,Int.toNat_natCast]
    exact h8
  · have h8:=ref06_RiseBad d ep sq r x id l hll wv h w
    simp only [rsB,rsE,rsX,if_neg h]
    exact h8
end Go.Proofs.YtklajbdbnnceiaaGreat
end

section
/- A spring whose tree is made. -/
namespace Go.Proofs.YtklajbdbnnceiaaGreat
open Go Go.Fw
open Sha
def SpMade (w:World) (p:Spr):Prop:=∃ K u,SpAt w p 0 K (some u)
theorem SpMade.fr0 {w w':World} {p:Spr} (h:SpMade w p) (hf:Fr0 w w'):SpMade w' p:=by
  obtain ⟨K,u,h⟩:=h
  exact ⟨K,u,h.fr0 hf⟩
theorem tree_onceMade (p:Spr) (ho:p.Ok) (K:Nat→Option Value) (u:Value) (b1:Nat) (w:World) (hsp:SpAt w p 0 K (some u)) :
    Ctr Tryz.prog 102 [.pointer (some ⟨p.g,0 + 38,none⟩),.func (.func 105) #[] #[.pointer (some ⟨b1,0,none⟩)]] w (fun _=>False) fun v _=>v=.tuple #[]:=by
  rw [show 0 + 38=38 from rfl]
  refine Ctr.of (once_done ⟨p.g,38,none⟩ 1 (by decide) _ w (cell_list hsp.hg ((sprC_at ho.seed 3).trans rfl))) fun e w' ⟨he,hw⟩=>?_
  subst hw
  exact ⟨_,he,.refl _ _,rfl⟩
theorem spring_wholeMade (p:Spr) (ho:p.Ok) (K:Nat→Option Value) (u:Value) (w:World) (hsp:SpAt w p 0 K (some u)):Ctr Tryz.prog 65 [.pointer (some ⟨p.g,0,none⟩)] w (fun _=>False) (fun v _=>v=u):=by
  refine fn_start (N:=12) Tryz.func65 rfl rfl rfl fun ac hk=>?_
  have hs:=St.start hk w
  refine wp_seq (wp_reg ?_)
  refine s_box hs rfl rfl rfl fun ac ww g1 hs=>?_
  refine zA hs fun ac hs=>?_
  refine s_end ?_
  replace hs:=hs.sub (F':=[(1,_),(2,_)]) ⟨rfl,rfl,trivial⟩
  refine then_n (wp_seq (wp_reg ?_))
  refine s_q hs (c_loadS un29 rfl (hs.ev rfl) (hs.seg (i:=0) rfl) rfl) rfl fun ac hs=>?_
  refine s_q hs (c_nil (hs.ev rfl)) rfl fun ac hs=>?_
  refine s_q hs (c_fld fl149_5 (hs.ev rfl)) rfl fun ac hs=>?_
  refine s_q hs (c_makeFunc .nil (.cons (hs.ev rfl) .nil)) rfl fun ac hs=>?_
  refine s_call hs fu102 (.cons (hs.ev rfl) (.cons (hs.ev rfl) .nil)) (tree_onceMade p ho K u g1 _ (hsp.fr0 hs.fr)) rfl fun ac ww v7 hf hp hs=>?_
  obtain rfl:=hp
  replace hs:=hs [] (.nil _ _)
  refine s_end ?_
  replace hs:=hs.sub (F':=[(1,_),(2,_)]) ⟨rfl,rfl,trivial⟩
  refine then_n (wp_seq (wp_reg ?_))
  refine s_q hs (c_loadS un29 rfl (hs.ev rfl) (hs.seg (i:=0) rfl) rfl) rfl fun ac hs=>?_
  refine s_q hs (c_nil (hs.ev rfl)) rfl fun ac hs=>?_
  refine s_q hs (c_fld fl149_6 (hs.ev rfl)) rfl fun ac hs=>?_
  refine s_q hs (c_loadS un144 rfl (hs.ev rfl) (hs.old hsp.hg id) ((sprC_at ho.seed 6).trans rfl)) rfl fun ac hs=>?_
  refine zA hs fun ac hs=>?_
  refine s_end ?_
  replace hs:=hs.sub (F':=[(2,_)]) ⟨rfl,trivial⟩
  refine then_n (wp_ret ?_)
  refine s_ret hs rfl (.tmp (hs.tmp rfl) .nil) rfl ⟨_,rfl,hs.fr,?_⟩
  rfl
theorem spring_RootMade (p:Spr) (ho:p.Ok) (w:World) (hsm:SpMade w p):Ctr Tryz.prog 19 [.pointer (some ⟨p.g,0,none⟩)] w (fun _=>False) (fun v _=>v=.agg ((gNode p.d p.ep (ends p p.m) p.H 0).map B).toArray):=by
  have hls:=ends_len p
  have hls16:(ends p p.m).length=16 * p.m:=by omega
  have hrl:(gNode p.d p.ep (ends p p.m) p.H 0).length=16:=gNode_length hls16 p.H 0 (by unfold Spr.m; omega)
  obtain ⟨K,u,hsp⟩:=hsm
  refine fn_start (N:=9) Tryz.func19 rfl rfl rfl fun ac hk=>?_
  have hs:=St.start hk w
  refine wp_seq (wp_reg ?_)
  refine s_alloc hs ty36 rfl fun ac ww g2 hs=>?_
  refine s_end (then_n (wp_seq (wp_seq (wp_reg ?_))))
  refine zM hs fun ac hs=>?_
  refine s_q hs (c_eqlNil un29 (hs.ev rfl) (hs.ev rfl)) rfl fun ac hs=>?_
  refine s_end ?_
  replace hs:=hs.sub (F':=[(0,_),(2,_),(4,_)]) ⟨rfl,rfl,rfl,trivial⟩
  refine then_n ?_
  refine wp_cond_false (hs.ev rfl) ?_
  refine wp_skip (then_n (wp_seq (wp_reg ?_)))
  refine zM hs fun ac hs=>?_
  refine s_call hs fu65 (.cons (hs.ev rfl) .nil) (spring_wholeMade p ho K u _ (hsp.fr0 hs.fr)) rfl fun ac ww v7 hf hp hs=>?_
  obtain rfl:=hp
  replace hs:=hs [] (.nil _ _)
  refine s_call hs fu67 (.cons (hs.ev rfl) .nil) (grove_Root p.d p.ep (ends p p.m) p.m p.H _ hls ho.h6 rfl _ ((hsp.fr0 hs.fr).tree _ rfl).1.grove) rfl fun ac ww v8 hf hp hs=>?_
  obtain rfl:=hp
  replace hs:=hs [] (.nil _ _)
  refine s_storeW (i:=0) hs ty36 rfl rfl rfl (by rw [List.length_map,hrl]) (all_map_B _) rfl fun ww hs=>?_
  refine s_end ?_
  replace hs:=hs.sub (F':=[(2,_)]) ⟨rfl,trivial⟩
  refine then_n (wp_ret ?_)
  refine s_ret hs rfl (.cell (hs.tmp rfl) (run_loadA ty36 rfl (hs.seg (i:=0) rfl) (List.take_of_length_le (show (List.map B (gNode p.d p.ep (ends p p.m) p.H 0)).length≤16 by rw [List.length_map,hrl]; exact Nat.le_refl _)) (show (List.map B (gNode p.d p.ep (ends p p.m) p.H 0)).length=16 by rw [List.length_map,hrl])) .nil) rfl ⟨_,rfl,hs.fr,?_⟩
  rfl
end Go.Proofs.YtklajbdbnnceiaaGreat
end

section
/- What a spring issues. -/
namespace Go.Proofs.YtklajbdbnnceiaaGreat
open Go Go.Fw
open Sha
def TreeB (w:World) (p:Spr) (pv:Value) (Q:Nat→Prop):Prop :=
  ∃ g v ps,pv=.pointer (some ⟨g,0,none⟩)∧ps.map (·.2)=(List.range (p.H + 1)).map (gRow p.d p.ep (ends p p.m) p.H)∧Has 0 w (groveL p.d p.ep g v ps)∧(∀ e∈groveL p.d p.ep g v ps,∀ k,e.keys k→k ≠ p.g∧k ≠ p.cg)∧∀ e∈groveL p.d p.ep g v ps,∀ k,e.keys k→Q k
theorem TreeB.at {w:World} {p:Spr} {pv:Value} {Q:Nat→Prop} (h:TreeB w p pv Q):TreeAt w p pv:=by
  obtain ⟨g,v,ps,h1,h2,h3,h4,_⟩:=h
  exact ⟨g,v,ps,h1,h2,h3,h4⟩
theorem TreeB.frk {w w':World} {p:Spr} {pv:Value} {Q M:Nat→Prop} (h:TreeB w p pv Q) (hf:Fr M w w') (hM:∀ k,M k→k=p.g∨k=p.cg∨¬ Q k):TreeB w' p pv Q:=by
  obtain ⟨g,v,ps,h1,h2,h3,h4,h5⟩:=h
  exact ⟨g,v,ps,h1,h2,h3.same hf.size fun e he k hk=>hf.block k (h3.lt e he k hk) fun h=>(hM k h).elim (h4 e he k hk).1 fun h=>h.elim (h4 e he k hk).2 fun h=>h (h5 e he k hk),h4,h5⟩
theorem TreeB.mono {w:World} {p:Spr} {pv:Value} {Q Q':Nat→Prop} (h:TreeB w p pv Q) (hq:∀ k,k < w.heap.size→Q k→Q' k):TreeB w p pv Q':=by
  obtain ⟨g,v,ps,h1,h2,h3,h4,h5⟩:=h
  exact ⟨g,v,ps,h1,h2,h3,h4,fun e he k hk=>hq k (h3.lt e he k hk) (h5 e he k hk)⟩
def SpFr (w:World) (p:Spr) (K:Nat→Option Value) (t:Option Value) (Bd:Nat→Prop):Prop :=
  (∀ q,q < p.m→∀ v,K q=some v→∀ k,v.ownBlock=some k→¬ Bd k)∧∀ v,t=some v→TreeB w p v fun k=>¬ Bd k
theorem SpAt.free {w:World} {p:Spr} {lk:Int} {K:Nat→Option Value} {t:Option Value} (h:SpAt w p lk K t):SpFr w p K t (w.heap.size≤·):=by
  refine ⟨fun q hq v hv k hk=>Nat.not_le_of_lt ((h.col q hq v hv).lt k hk),fun v hv=>?_⟩
  obtain ⟨g,v',ps,h1,h2,h3,h4⟩:=(h.tree v hv).1
  exact ⟨g,v',ps,h1,h2,h3,h4,fun e he k hk=>Nat.not_le_of_lt (h3.lt e he k hk)⟩
theorem SpFr.mono {w:World} {p:Spr} {K:Nat→Option Value} {t:Option Value} {Bd Bd':Nat→Prop} (h:SpFr w p K t Bd) (hm:∀ k,Bd' k→Bd k):SpFr w p K t Bd' :=
  ⟨fun q hq v hv k hk hb=>h.1 q hq v hv k hk (hm k hb),fun v hv=>(h.2 v hv).mono fun k _ h1 h2=>h1 (hm k h2)⟩
theorem SpFr.keep {w w':World} {p:Spr} {lk:Int} {K:Nat→Option Value} {t:Option Value} {Bd M:Nat→Prop} (h:SpFr w p K t Bd) (hs:SpAt w p lk K t) (hf:Fr M w w') (hM:∀ k,M k→k=p.g∨k=p.cg∨Bd k)
    (hg:w'.heap[p.g]?=w.heap[p.g]?) (hc:w'.heap[p.cg]?=w.heap[p.cg]?):SpAt w' p lk K t∧SpFr w' p K t Bd:=by
  have hM2:∀ k,M k→k=p.g∨k=p.cg∨¬ ¬ Bd k:=fun k hk=>(hM k hk).imp id fun h=>h.imp id fun h=>not_not_intro h
  refine ⟨⟨hg.trans hs.hg,hc.trans hs.hc,fun q hq v hv=>?_,fun v hv=>⟨((h.2 v hv).frk hf hM2).at,(hs.tree v hv).2⟩⟩,h.1,fun v hv=>(h.2 v hv).frk hf hM2⟩
  have hcol:=hs.col q hq v hv
  refine hcol.frk hf fun k hk hm=>?_
  have h5:=h.1 q hq v hv k hk
  obtain ⟨b,cap,cur,rfl,_,_,_,_,h6,h7⟩:=hcol
  simp only [Value.ownBlock,Option.some.injEq] at hk
  subst hk
  rcases hM _ hm with e | e | e
  · exact h6 e
  · exact h7 e
  · exact h5 e
theorem SpFr.call {w w':World} {p:Spr} {K K':Nat→Option Value} {t:Option Value} {Bd:Nat→Prop} (h:SpFr w p K t Bd) (hf:Fr (SpM p) w w') (hlo:∀ k,Bd k→k < w.heap.size) (hn:∀ q,q < p.m→∀ v,K' q=some v→K q=some v∨freshV w v):SpFr w' p K' t Bd :=
  ⟨fun q hq v hv k hk hb=>(hn q hq v hv).elim (fun h2=>h.1 q hq v h2 k hk hb) fun h2=>by have:=h2 k hk; have:=hlo k hb; omega,fun v hv=>(h.2 v hv).frk hf fun k hk=>hk.imp id .inl⟩
theorem SpFr.tree {w w':World} {p:Spr} {K K':Nat→Option Value} {t:Option Value} {pv:Value} {Bd:Nat→Prop} (h:SpFr w p K t Bd) (hf:Fr (SpM p) w w') (hlo:∀ k,Bd k→k < w.heap.size) (hn:SpNew w w' p K t pv K'):SpFr w' p K' (some pv) Bd:=by
  refine ⟨fun q hq v hv k hk hb=>(hn.1 q hq v hv).elim (fun h2=>h.1 q hq v h2 k hk hb) fun h2=>by have:=h2 k hk; have:=hlo k hb; omega,fun v hv=>?_⟩
  cases hv
  rcases hn.2 with h2 | h2
  · exact (h.2 _ h2).frk hf fun k hk=>hk.imp id .inl
  · obtain ⟨g,v',ps,h1,h2,h3,h4,h5⟩:=h2
    exact ⟨g,v',ps,h1,h2,h3,h4,fun e he k hk hb=>by have:=h5 e he k hk; have:=hlo k hb; omega⟩
section
variable {N:Nat} {F:List (Nat × Value)} {p:Spr} {A:List Ent} {xs ys:List Value} {T U:TypeId} {w0 w1 w2:World} {a:Act} {M:Nat→Prop}
theorem ownA (hs:St N F (A++[.seg p.g xs T,.seg p.cg ys U]) (SpM p) w0 a w1):∀ e∈A,∀ k,e.keys k→w0.heap.size≤k∧k < w1.heap.size∧¬ SpM p k:=by
  intro e he k hk
  have h1:=(List.pairwise_append.1 hs.has.apart).2.2 e he
  have h2:¬ SpM p k:=fun h=>h.elim (h1 _ (.head _) k hk) (h1 _ (.tail _ (.head _)) k hk)
  exact ⟨(hs.own e (List.mem_append_left _ he) k hk).resolve_right h2,hs.has.lt e (List.mem_append_left _ he) k hk,h2⟩
theorem ownA2 (hs:St N F (A++[.seg p.g xs T,.seg p.cg ys U]) (SpM p) w0 a w1):∀ e∈A,∀ k,e.keys k→w0.heap.size≤k∧k < w1.heap.size:=fun e he k hk=>⟨(ownA hs e he k hk).1,(ownA hs e he k hk).2.1⟩
theorem keepA (ho:p.Ok) (hs:St N F (A++[.seg p.g xs T,.seg p.cg ys U]) (SpM p) w0 a w1) (hf:Fr (SpM p) w1 w2) {xs' ys':List Value}
    (ha:w2.heap[p.g]?=some (.cells xs'.toArray 149 (0,0))) (hb:w2.heap[p.cg]?=some (.cells ys'.toArray 203 (0,0))):Has 0 w2 (A++[.seg p.g xs' 149,.seg p.cg ys' 203])∧∀ e∈A++[.seg p.g xs' 149,.seg p.cg ys' 203],∀ k,e.keys k→w0.heap.size≤k∨SpM p k:=by
  have hA:=ownA hs
  have hN:∀ e∈[Ent.seg p.g xs' 149,.seg p.cg ys' 203],∀ k,e.keys k→SpM p k:=fun e he k hk=>by
    simp only [List.mem_cons,List.not_mem_nil,or_false] at he
    rcases he with rfl | rfl
    · exact .inl hk
    · exact .inr hk
  refine ⟨Has.app (hs.has.cons_app.1.same hf.size fun e he k hk=>hf.block k (hA e he k hk).2.1 (hA e he k hk).2.2) (has2 ho.ne ha hb) fun e1 h1 e2 h2 kk hk1 hk2=>(hA e1 h1 kk hk1).2.2 (hN e2 h2 kk hk2),fun e he k hk=>?_⟩
  exact (List.mem_append.1 he).elim (fun h=>.inl (hA e h k hk).1) fun h=>.inr (hN e h k hk)
theorem keysA {Bd:Nat→Prop} (hA:∀ e∈A,∀ k,e.keys k→Bd k):∀ k,(Ent.grp (A++[.seg p.g xs T,.seg p.cg ys U])).keys k→k=p.g∨k=p.cg∨Bd k:=by
  rintro k ⟨e,he,hk⟩
  rcases List.mem_append.1 he with h | h
  · exact .inr (.inr (hA e h k hk))
  · simp only [List.mem_cons,List.not_mem_nil,or_false] at h
    rcases h with rfl | rfl
    · exact .inl hk
    · exact .inr (.inl hk)
theorem _root_.Go.Fw.St.unrebase {L L0:List Ent} (h:St N F L (Ent.grp L0).keys w1 a w2) (hf:Fr M w0 w1) (ho:∀ e∈L0,∀ k,e.keys k→w0.heap.size≤k∨M k):St N F L M w0 a w2 :=
  ⟨h.know,h.has,fun e he k hk=>(h.own e he k hk).elim (fun h1=>.inl (Nat.le_trans hf.size h1)) fun ⟨e',he',hk'⟩=>ho e' he' k hk',Fr.rebase hf ho h.fr⟩
end
def credV (l:List UInt8) (wv pv:Value):Value:=.agg (l.map B++[wv,pv]).toArray
def SpSome (w:World) (p:Spr):Prop:=∃ K t,SpAt w p 0 K t
theorem proof_Issue (p:Spr) (ho:p.Ok) (K:Nat→Option Value) (t:Option Value) (d mt sn:Int) (ep sq:UInt32) (w:World) (hsp:SpAt w p 0 K t):Ctr Tryz.prog 26 [.pointer (some ⟨p.g,0,none⟩),.agg #[I d,U ep,U sq,I mt,I sn]] w (SpM p) (fun v w'=>(clRight p.W p.S p.H d mt sn ep sq=false∧v=.tuple #[credV (List.replicate 16 (0:UInt8)) (.slice none 0 0) (.slice none 0 0),I 1]∧SpSome w' p)∨(clRight p.W p.S p.H d mt sn ep sq=true∧SpMade w' p∧∃ wv pv,v=.tuple #[credV (shL d ep sq mt (el p sq.toNat mt.toNat) p.W sn) wv pv,I 0]∧Rd w' wv (shN mt p.W sn) ((shW d ep sq mt (el p sq.toNat mt.toNat) p.W sn).map B)∧Rd w' pv p.H ((gPath p.d p.ep (ends p p.m) sq.toNat p.H).map B)∧(∀ k,wv.ownBlock=some k→w.heap.size≤k∧¬ SpM p k)∧∀ k,pv.ownBlock=some k→w.heap.size≤k∧¬ SpM p k)):=by
  refine fn_start (N:=73) Tryz.func26 rfl rfl rfl fun ac hk=>?_
  have hs:=St.start2 hk ho.ne hsp.hg hsp.hc
  refine wp_seq (wp_reg ?_)
  refine s_box hs rfl rfl rfl fun ac ww g3 hs=>?_
  refine s_alloc hs ty56 rfl fun ac ww g4 hs=>?_
  refine zA hs fun ac hs=>?_
  refine s_end ?_
  replace hs:=hs.sub (F':=[(0,_),(3,_),(4,_),(5,_)]) ⟨rfl,rfl,rfl,rfl,trivial⟩
  refine then_n (wp_seq (wp_reg ?_))
  refine zM hs fun ac hs=>?_
  refine s_call hs fu74 (.cons (hs.ev rfl) .nil) (spring_Rules p ho 0 K t _ (hsp.re hs.fr (hs.seg (i:=2) rfl) (hs.seg (i:=3) rfl) (fun _ _ _ h=>.inl h) fun v h=>⟨.inl h,(hsp.tree v h).2⟩)) rfl fun ac ww v14 hf hp hs=>?_
  obtain rfl:=hp
  replace hs:=hs [] (.nil _ _)
  refine s_alloc hs ty33 rfl fun ac ww g6 hs=>?_
  refine s_storeW (i:=0) hs ty33 rfl rfl rfl (by rfl) (by rfl) rfl fun ww hs=>?_
  refine s_end ?_
  replace hs:=hs.sub (F':=[(0,_),(3,_),(4,_),(5,_),(6,_)]) ⟨rfl,rfl,rfl,rfl,rfl,trivial⟩
  refine then_n (wp_seq (wp_block (wp_seq (wp_reg ?_))))
  refine zM hs fun ac hs=>?_
  refine s_q hs (c_eqlNil un29 (hs.ev rfl) (hs.ev rfl)) rfl fun ac hs=>?_
  refine zA hs fun ac hs=>?_
  refine s_end ?_
  replace hs:=hs.sub (F':=[(0,_),(3,_),(4,_),(5,_),(6,_),(15,_)]) ⟨rfl,rfl,rfl,rfl,rfl,rfl,trivial⟩
  refine then_n ?_
  refine wp_cond_false (hs.ev rfl) ?_
  refine wp_seq (wp_reg ?_)
  refine s_q hs (c_loadW ty33 ag33 (hs.ev rfl) (hs.seg (i:=0) rfl) (by rfl)) rfl fun ac hs=>?_
  refine s_q hs (c_loadW ty61 ag61 (hs.ev rfl) (hs.seg (i:=2) rfl) (by rfl)) rfl fun ac hs=>?_
  refine s_call hs fu75 (.cons (hs.ev rfl) (.cons (hs.ev rfl) .nil)) (proof_Right p.W p.S p.H d mt sn ep sq _) rfl fun ac ww v22 hf hp hs=>?_
  obtain rfl:=hp
  replace hs:=hs [] (.nil _ _)
  refine s_q hs (c_not (hs.ev rfl)) rfl fun ac hs=>?_
  refine zA hs fun ac hs=>?_
  refine s_end ?_
  replace hs:=hs.sub (F':=[(0,_),(3,_),(4,_),(5,_),(6,_),(19,_)]) ⟨rfl,rfl,rfl,rfl,rfl,rfl,trivial⟩
  refine then_n ?_
  refine s_cond hs rfl (fun hc=>?_) (fun hc=>?_)
  · try simp only [z1,z2,z3,z4,z5,z6,z7] at hc
    have hno:clRight p.W p.S p.H d mt sn ep sq=false:=by simpa using hc
    refine wp_seq (wp_reg ?_)
    refine s_q hs (c_buildS ty56 bp56 .nil trivial (by simp [flatCells,Value.cells]) rfl) rfl fun ac hs=>?_
    refine s_storeW (i:=1) hs ty56 rfl rfl rfl (by rfl) (by rfl) rfl fun ww hs=>?_
    refine zA hs fun ac hs=>?_
    refine s_end ?_
    replace hs:=hs.sub (F':=[(0,_),(3,_),(4,_),(5,_),(6,_)]) ⟨rfl,rfl,rfl,rfl,rfl,trivial⟩
    refine then_n (wp_ret (blk_r (then_r ?_)))
    refine s_ret hs rfl (.cell (hs.tmp rfl) (run_loadA ty56 ag56 (hs.seg (i:=1) rfl) rfl (by rfl)) (.tmp (hs.tmp rfl) .nil)) rfl ⟨_,rfl,hs.fr,?_⟩
    exact .inl ⟨hno,rfl,K,t,hsp.re hs.fr (hs.seg (i:=3) rfl) (hs.seg (i:=4) rfl) (fun _ _ _ h=>.inl h) fun v h=>⟨.inl h,(hsp.tree v h).2⟩⟩
  · try simp only [z1,z2,z3,z4,z5,z6,z7] at hc
    have hyes:clRight p.W p.S p.H d mt sn ep sq=true:=by simpa using hc
    obtain ⟨hR,hd0,hdW,hsn0,hsnW,hep,hsq,hmt0,hmtS⟩:=clRight_iff.1 hyes
    rw [Int.toNat_natCast] at hsq
    have hsqm:sq.toNat < p.m:=hsq
    obtain ⟨mn,rfl⟩:=int_of hmt0
    have hel1:elOk p (sq.toNat:Int) (mn:Int)=true:=elOk_iff.2 (by omega)
    have hlf:lfOk p.m (sq.toNat:Int)=true:=by simp [lfOk]; omega
    refine wp_skip (blk_n (then_n (wp_seq (wp_reg ?_))))
    refine zM hs fun ac hs=>?_
    refine s_q hs (c_fld fl61_1 (hs.ev rfl)) rfl fun ac hs=>?_
    refine s_q hs (c_fld fl59_1 (hs.ev rfl)) rfl fun ac hs=>?_
    refine s_q hs (c_loadS un25 rfl (hs.ev rfl) (hs.seg (i:=2) rfl) rfl) rfl fun ac hs=>?_
    refine s_q hs (c_cvUI un25 un3 (hs.ev rfl)) rfl fun ac hs=>?_
    refine s_q hs (c_fld fl61_1 (hs.ev rfl)) rfl fun ac hs=>?_
    refine s_q hs (c_fld fl59_2 (hs.ev rfl)) rfl fun ac hs=>?_
    refine s_q hs (c_loadS un3 rfl (hs.ev rfl) (hs.seg (i:=2) rfl) rfl) rfl fun ac hs=>?_
    have hsz0:=hs.fr.size
    have hA:=ownA2 (A:=[_,_,_]) hs
    have hsA:=hs
    obtain ⟨hspE,hfrE⟩:=hsp.free.keep hsp hs.fr (fun k h=>h.elim .inl fun h=>.inr (.inl h)) ((hs.seg (i:=3) rfl).trans hsp.hg.symm) ((hs.seg (i:=4) rfl).trans hsp.hc.symm)
    replace hfrE:SpFr ww p K t (fun k=>w.heap.size≤k∧k < ww.heap.size):=hfrE.mono fun _ h=>h.1
    
    refine s_callL hs fu16 (.cons (hs.ev rfl) (.cons (hs.ev rfl) (.cons (hs.ev rfl) .nil))) (spring_Element p ho K t (sq.toNat:Int) (mn:Int) _ hspE) (fun k _ h=>.inl h) rfl fun ac ww v34 hf hp hs=>?_
    rw [elB,elR,if_pos hel1,if_pos hel1,Int.toNat_natCast,Int.toNat_natCast] at hp
    obtain ⟨rfl,K1,hsp1,_,hn1⟩:=hp
    replace hfrE:=hfrE.call hf (fun _ h=>h.2) hn1
    have hsz:=hf.size
    obtain ⟨ha1,ha2⟩:=keepA (A:=[_,_,_]) ho hsA hf hsp1.hg hsp1.hc
    replace hs:=hs _ ha1 ha2
    have hfrA:=hs.fr
    have hownA:=hs.own
    replace hs:=hs.rebase
    refine zM hs fun ac hs=>?_
    refine s_q hs (c_extract (hs.ev rfl) rfl) rfl fun ac hs=>?_
    refine s_q hs (c_extract (hs.ev rfl) rfl) rfl fun ac hs=>?_
    refine s_alloc hs ty36 rfl fun ac ww g7 hs=>?_
    refine s_storeW (i:=0) hs ty36 rfl rfl rfl (by rw [List.length_map,el_length]) (all_map_B _) rfl fun ww hs=>?_
    refine zA hs fun ac hs=>?_
    refine s_end ?_
    replace hs:=hs.sub (F':=[(0,_),(3,_),(4,_),(5,_),(6,_),(7,_),(8,_)]) ⟨rfl,rfl,rfl,rfl,rfl,rfl,rfl,trivial⟩
    refine then_n (wp_seq (wp_seq (wp_reg ?_)))
    refine zM hs fun ac hs=>?_
    refine s_q hs (c_neqI (hs.ev rfl) (hs.ev rfl)) rfl fun ac hs=>?_
    refine s_end ?_
    replace hs:=hs.sub (F':=[(0,_),(3,_),(4,_),(5,_),(6,_),(7,_),(8,_),(38,_)]) ⟨rfl,rfl,rfl,rfl,rfl,rfl,rfl,rfl,trivial⟩
    refine then_n ?_
    refine wp_cond_false (hs.ev rfl) ?_
    refine wp_skip (then_n (wp_seq (wp_reg ?_)))
    refine zM hs fun ac hs=>?_
    refine s_q hs (c_fld fl61_1 (hs.ev rfl)) rfl fun ac hs=>?_
    refine s_q hs (c_fld fl59_1 (hs.ev rfl)) rfl fun ac hs=>?_
    refine s_q hs (c_loadS un25 rfl (hs.ev rfl) (hs.seg (i:=3) rfl) rfl) rfl fun ac hs=>?_
    refine s_q hs (c_cvUI un25 un3 (hs.ev rfl)) rfl fun ac hs=>?_
    obtain ⟨hspP,hfrP⟩:=hfrE.keep hsp1 hs.fr (keysA (A:=[_,_,_]) hA) ((hs.seg (i:=4) rfl).trans hsp1.hg.symm) ((hs.seg (i:=5) rfl).trans hsp1.hc.symm)
    have hb7:=(hs.seg (i:=0) rfl)
    have hszP:=Nat.le_trans hsz hs.fr.size
    have hszP0:=hszP
    replace hs:=(hs.unrebase hfrA hownA).pick (L':=[_,_,_,_,_]) (.cons _ (.refl _))
    have hsB:=hs
    refine s_callL hs fu17 (.cons (hs.ev rfl) (.cons (hs.ev rfl) .nil)) (spring_Path p ho K1 t (sq.toNat:Int) _ hspP) (fun k _ h=>.inl h) rfl fun ac ww v47 hf hp hs=>?_
    rw [lfE,if_pos hlf,pN,if_pos hlf,pW,if_pos hlf,Int.toNat_natCast] at hp
    obtain ⟨tv,rfl,hrt,hot,K2,pv2,hst2,hsn2⟩:=hp
    obtain ⟨tad,tcap,rfl,htc,htm⟩:=Rd.sl hrt
    replace hfrP:=hfrP.tree hf (fun k h=>Nat.lt_of_lt_of_le h.2 hszP) hsn2
    replace hb7:=hf.keepT hb7 fun i hi=>hi.elim (fun e=>⟨_,_,_,e ▸ hspP.hg,rfl⟩) fun e=>⟨_,_,_,e ▸ hspP.hc,rfl⟩
    obtain ⟨hb1,hb2⟩:=keepA (A:=[_,_,_]) ho hsB hf hst2.1.hg hst2.1.hc
    replace hs:=hs _ hb1 hb2
    have hfrB:=hs.fr
    have hownB:=hs.own
    replace hs:=hs.rebase
    refine zM hs fun ac hs=>?_
    refine s_q hs (c_extract (hs.ev rfl) rfl) rfl fun ac hs=>?_
    refine s_q hs (c_extract (hs.ev rfl) rfl) rfl fun ac hs=>?_
    refine zA hs fun ac hs=>?_
    refine zA hs fun ac hs=>?_
    refine s_end ?_
    replace hs:=hs.sub (F':=[(3,_),(4,_),(5,_),(6,_),(7,_),(8,_),(9,_)]) ⟨rfl,rfl,rfl,rfl,rfl,rfl,rfl,trivial⟩
    refine then_n (wp_seq (wp_seq (wp_reg ?_)))
    refine zM hs fun ac hs=>?_
    refine s_q hs (c_neqI (hs.ev rfl) (hs.ev rfl)) rfl fun ac hs=>?_
    refine s_end ?_
    replace hs:=hs.sub (F':=[(3,_),(4,_),(5,_),(6,_),(7,_),(8,_),(9,_),(51,_)]) ⟨rfl,rfl,rfl,rfl,rfl,rfl,rfl,rfl,trivial⟩
    refine then_n ?_
    refine wp_cond_false (hs.ev rfl) ?_
    refine wp_skip (then_n (wp_seq ?_))
    refine wp_region_rgX (J:=[13,14]) pmix 16 (by kernel_rfl) (by kernel_rfl) rfl rfl hs ?_
    simp only [List.take_succ_cons,List.take_zero]
    refine rg_q (fun ac ww h=>c_loadW ty61 ag61 (h.ev rfl) (h.blk (hs.seg (i:=2) rfl)) (by simp)) rfl ?_
    refine rg_call fu77 (fun ac ww h=>(.cons (h.ev rfl) .nil)) (fun ww hf=>proof_place d (mn:Int) sn ep sq _) rfl ?_
    refine rg_q (fun ac ww h=>c_fld fl61_1 (h.ev rfl)) rfl ?_
    refine rg_q (fun ac ww h=>c_fld fl59_2 (h.ev rfl)) rfl ?_
    refine rg_q (fun ac ww h=>c_loadS un3 rfl (h.ev rfl) (h.blk (hs.seg (i:=2) rfl)) rfl) rfl ?_
    refine rg_q (fun ac ww h=>c_loadW ty36 rfl (h.ev rfl) (h.blk hb7) (show (List.map B (el p sq.toNat mn)).length=16 by rw [List.length_map,el_length])) rfl ?_
    refine rg_q (fun ac ww h=>c_fld fl33_0 (h.ev rfl)) rfl ?_
    refine rg_q (fun ac ww h=>c_loadS un3 rfl (h.ev rfl) (h.blk (hs.seg (i:=0) rfl)) rfl) rfl ?_
    refine rg_q (fun ac ww h=>c_fld fl61_2 (h.ev rfl)) rfl ?_
    refine rg_q (fun ac ww h=>c_loadS un3 rfl (h.ev rfl) (h.blk (hs.seg (i:=2) rfl)) rfl) rfl ?_
    refine rg_callE (tupG [.agg ((shL d ep sq (mn:Int) (el p sq.toNat mn) p.W sn).map B).toArray] [I (shE (mn:Int) p.W sn)] (rowS (shN (mn:Int) p.W sn) (shW d ep sq (mn:Int) (el p sq.toNat mn) p.W sn))) (fun _ _ _ _ _ h=>h) fu76 (fun ac ww h=>?_) rfl ?_
    · exact ⟨_,.cons (h.ev rfl) (.cons (h.ev rfl) (.cons (h.ev rfl) (.cons (h.ev rfl) (.cons (h.ev rfl) (.nil))))),ladder_ShowA d ep sq (mn:Int) (el p sq.toNat mn) p.W sn (el_length _ _ _) _⟩
    refine rg_moveG rfl rfl rfl ?_
    refine rg_extGc rfl rfl rfl (fun _=>rfl) ?_
    refine rg_extGe rfl rfl rfl rfl ?_
    refine rg_extGc rfl rfl rfl (fun _=>rfl) ?_
    refine rg_alloc ty36 rfl ?_
    refine rg_nil fun ac ww L' hf hfe hs hlk=>?_
    simp only [List.drop_succ_cons,List.drop_zero]
    obtain ⟨v10,L10,M10,h10,e10,⟨v67,L67,M67,h67,e67,⟨v54,L54,M54,h54,e54,⟨v65,L65,M65,h65,e65,rfl,rfl⟩,rfl⟩,rfl⟩,rfl⟩:=hfe
    replace hs:=hs.add h10
    replace hs:=hs.add h67
    replace hs:=hs.add h54
    replace hs:=hs.add h65
    obtain ⟨g10,rfl,rfl⟩:=e10
    obtain ⟨tv65,rfl,e65⟩:=e65
    obtain ⟨-,rfl⟩:=e54
    obtain rfl:=lk_move (j:=11) hlk (by decide) rfl (by kernel_rfl) h54 h65
    obtain ⟨-,rfl⟩:=e67
    obtain rfl:=lk_ext (j:=13) hlk (by decide) rfl (by kernel_rfl) h67 h54 rfl
    obtain rfl:=e65
    refine sk_storeW (i:=0) hs ty36 rfl rfl rfl (by rw [List.length_map,shL_length]) (all_map_B _) rfl (fun ww hs=>late_turn rfl rfl (late_turn rfl rfl (late_nil))) fun ww hs=>?_
    refine zA hs fun ac hs=>?_
    refine zA hs fun ac hs=>?_
    refine s_end ?_
    obtain ⟨wad,wcap,rfl,hwc,hwm⟩:=Rd.sl (Rd.of_row (hs.get (i:=1) rfl))
    have hsl:=shL_length d ep sq (mn:Int) (el p sq.toNat mn) p.W sn
    have hslm:(List.map B (shL d ep sq (mn:Int) (el p sq.toNat mn) p.W sn)).length=16:=by rw [List.length_map,hsl]
    replace hs:=hs.sub (F':=[(4,_),(5,_),(9,_),(10,_),(11,_)]) ⟨rfl,rfl,rfl,rfl,rfl,trivial⟩
    refine then_n (wp_seq (wp_reg ?_))
    refine s_q hs (c_loadW ty36 rfl (hs.ev rfl) (hs.seg (i:=0) rfl) hslm) rfl fun ac hs=>?_
    refine zM hs fun ac hs=>?_
    refine zM hs fun ac hs=>?_
    refine s_q hs (c_buildS (zc:=(shL d ep sq (mn:Int) (el p sq.toNat mn) p.W sn).map B++[.slice wad (shN (mn:Int) p.W sn) wcap,.slice tad p.H tcap]) ty56 bp56 (.cons (hs.ev rfl) (.cons (hs.ev rfl) (.cons (hs.ev rfl) .nil))) ⟨(by simp [Value.cells,hsl]),(by simp [Value.cells,hsl]),(by simp [Value.cells,hsl]),trivial⟩ (by simp [flatCells,Value.cells,hsl]) (by simp [flatCells,Value.cells,hsl])) rfl fun ac hs=>?_
    refine s_storeW (i:=3) hs ty56 rfl rfl rfl (by simp [hsl]) (by simp [Value.oneCell',B]) rfl fun ww hs=>?_
    refine zA hs fun ac hs=>?_
    refine s_end ?_
    replace hs:=hs.sub (F':=[(4,_),(5,_)]) ⟨rfl,rfl,trivial⟩
    refine then_n (wp_ret ?_)
    refine s_ret hs rfl (.cell (hs.tmp rfl) (run_loadA ty56 ag56 (hs.seg (i:=3) rfl) (List.take_of_length_le (by simp [hsl])) (by simp [hsl])) (.tmp (hs.tmp rfl) .nil)) rfl ⟨_,rfl,(Fr.rebase hfrB hownB hs.fr),?_⟩
    simp only [Int.toNat_natCast]
    have hap:∀ k,Value.ownBlock (.slice wad (shN (mn:Int) p.W sn) wcap)=some k→¬ SpM p k:=fun k hk hm=>hm.elim (apart_at hs.has.apart (i:=1) (j:=5) rfl rfl (by decide) k hk) (apart_at hs.has.apart (i:=1) (j:=6) rfl rfl (by decide) k hk)
    refine .inr ⟨hyes,⟨K2,pv2,(hfrP.keep hst2.1 hs.fr (keysA (A:=[_,_,_]) hA) ((hs.seg (i:=5) rfl).trans hst2.1.hg.symm) ((hs.seg (i:=6) rfl).trans hst2.1.hc.symm)).1⟩,_,_,rfl,Rd.of_row (hs.get (i:=1) rfl),hrt.fr hs.fr (fun k hk hm=>?_),fun k hk=>⟨((hs.unrebase hfrB hownB).own _ (List.mem_of_getElem? (i:=1) rfl) k hk).resolve_right (hap k hk),hap k hk⟩,fun k hk=>⟨Nat.le_trans hsz0 (Nat.le_trans hszP0 (hot k hk).1),(hot k hk).2⟩⟩
    have h1:=hot k hk
    rcases keysA (A:=[_,_,_]) hA k hm with e | e | e
    · exact h1.2 (.inl e)
    · exact h1.2 (.inr e)
    · exact absurd (Nat.lt_of_lt_of_le e.2 hszP) (Nat.not_lt_of_le h1.1)
end Go.Proofs.YtklajbdbnnceiaaGreat
end

section
/- What a credential shows. -/
namespace Go.Proofs.YtklajbdbnnceiaaGreat
open Go Go.Fw
open Sha
theorem cred_way {l:List UInt8} (h:l.length=16) (wv pv:Value):(l.map B++[wv,pv])[16]?=some wv:=by
  rw [List.getElem?_append_right (by rw [List.length_map]; omega),List.length_map,h]; rfl
theorem cred_path {l:List UInt8} (h:l.length=16) (wv pv:Value):(l.map B++[wv,pv])[17]?=some pv:=by
  rw [List.getElem?_append_right (by rw [List.length_map]; omega),List.length_map,h]; rfl
theorem cred_leaf {l:List UInt8} (h:l.length=16) (wv pv:Value):((l.map B++[wv,pv]).drop 0).take 16=l.map B:=by
  rw [List.drop_zero,List.take_append_of_le_length (by rw [List.length_map]; omega),List.take_of_length_le (by rw [List.length_map]; omega)]
def ckR (W S H d mt sn:Int) (ep sq:UInt32) (rt lf ws:List UInt8) (nw:Nat) (ps:List UInt8) (np:Nat):List UInt8 × Int :=
  if clRight W S H d mt sn ep sq=true then
    if (np:Int)=H then
      if rsE mt W sn nw=0 then
        if chkB d ep H rt (sq.toNat:Int) (climbB d ep sq (rsB d ep sq mt W sn lf ws nw) (mt + 1) S W) ps np=true then (rsB d ep sq mt W sn lf ws nw,0) else ((List.replicate 16 (0:UInt8)),22)
      else ((List.replicate 16 (0:UInt8)),rsE mt W sn nw)
    else ((List.replicate 16 (0:UInt8)),22)
  else ((List.replicate 16 (0:UInt8)),1)
theorem ckR_length {W S H d mt sn:Int} {ep sq:UInt32} {rt lf ws:List UInt8} {nw:Nat} {ps:List UInt8} {np:Nat} (hl:lf.length=16):(ckR W S H d mt sn ep sq rt lf ws nw ps np).1.length=16:=by
  unfold ckR
  split
  · split
    · split
      · split
        · exact rsB_length hl _
        · simp
      · simp
    · simp
  · simp
theorem proof_Check (W S H d mt sn:Int) (ep sq:UInt32) (rt lf ws ps:List UInt8) (nw np:Nat) (wv pv:Value) (hrt:rt.length=16) (hlf:lf.length=16) (hwl:ws.length=nw * 16) (hpl:ps.length=np * 16) (w:World) (hqw:Rd w wv nw (ws.map B)) (hqp:Rd w pv np (ps.map B)):Ctr Tryz.prog 40 [.agg #[I W,I S,I H],.agg (rt.map B).toArray,.agg #[I d,U ep,U sq,I mt,I sn],credV lf wv pv] w (fun _=>False) (fun v _=>v=.tuple #[.agg ((ckR W S H d mt sn ep sq rt lf ws nw ps np).1.map B).toArray,I (ckR W S H d mt sn ep sq rt lf ws nw ps np).2]):=by
  have hnwl:=hqw.le
  have hnpl:=hqp.le
  obtain ⟨wad,wcap,rfl,hwc,hwm⟩:=Rd.sl hqw
  obtain ⟨pad,pcap,rfl,hpc,hpm⟩:=Rd.sl hqp
  refine fn_start (N:=84) Tryz.func40 rfl rfl rfl fun ac hk=>?_
  have hs:=St.start hk w
  refine wp_seq (wp_reg ?_)
  refine s_box hs rfl rfl rfl fun ac ww g4 hs=>?_
  refine s_box hs rfl rfl rfl fun ac ww g5 hs=>?_
  refine s_box hs rfl rfl rfl fun ac ww g6 hs=>?_
  refine s_box hs rfl rfl rfl fun ac ww g7 hs=>?_
  refine s_alloc hs ty36 rfl fun ac ww g8 hs=>?_
  refine zA hs fun ac hs=>?_
  refine s_end ?_
  replace hs:=hs.sub (F':=[(4,_),(5,_),(6,_),(7,_),(8,_),(9,_)]) ⟨rfl,rfl,rfl,rfl,rfl,rfl,trivial⟩
  refine then_n (wp_seq (wp_block (wp_seq (wp_reg ?_))))
  refine s_q hs (c_loadW ty33 ag33 (hs.ev rfl) (hs.seg (i:=4) rfl) (by rfl)) rfl fun ac hs=>?_
  refine s_q hs (c_loadW ty61 ag61 (hs.ev rfl) (hs.seg (i:=2) rfl) (by rfl)) rfl fun ac hs=>?_
  refine s_call hs fu75 (.cons (hs.ev rfl) (.cons (hs.ev rfl) .nil)) (proof_Right W S H d mt sn ep sq _) rfl fun ac ww v18 hf hp hs=>?_
  obtain rfl:=hp
  replace hs:=hs [] (.nil _ _)
  refine s_q hs (c_not (hs.ev rfl)) rfl fun ac hs=>?_
  refine zA hs fun ac hs=>?_
  refine s_end ?_
  replace hs:=hs.sub (F':=[(4,_),(5,_),(6,_),(7,_),(8,_),(9,_),(15,_)]) ⟨rfl,rfl,rfl,rfl,rfl,rfl,rfl,trivial⟩
  refine then_n ?_
  refine s_cond hs rfl (fun hc=>?_) (fun hc=>?_)
  · try simp only [z1,z2,z3,z4,z5,z6,z7] at hc
    have hno:¬ clRight W S H d mt sn ep sq=true:=by simpa using hc
    refine wp_seq (wp_reg ?_)
    refine s_q hs (c_buildA ty36 un36 ty5 (zc:=(List.replicate 16 (0:UInt8)).map B) (vs:=[]) .nil (by simp) (by simp [flatCells]) rfl) rfl fun ac hs=>?_
    refine s_storeW (i:=0) hs ty36 rfl rfl rfl (by simp) (all_map_B _) rfl fun ww hs=>?_
    refine zA hs fun ac hs=>?_
    refine s_end ?_
    replace hs:=hs.sub (F':=[(4,_),(5,_),(6,_),(7,_),(8,_),(9,_)]) ⟨rfl,rfl,rfl,rfl,rfl,rfl,trivial⟩
    refine then_n (wp_ret (blk_r (then_r ?_)))
    refine s_ret hs rfl (.cell (hs.tmp rfl) (run_loadA ty36 rfl (hs.seg (i:=0) rfl) (List.take_of_length_le (by simp)) (by simp)) (.tmp (hs.tmp rfl) .nil)) rfl ⟨_,rfl,hs.fr,?_⟩
    show Value.tuple _=Value.tuple _
    rw [ckR,if_neg hno]
    rfl
  · try simp only [z1,z2,z3,z4,z5,z6,z7] at hc
    have hyes:clRight W S H d mt sn ep sq=true:=by simpa using hc
    have hcr:=clRight_iff.1 hyes
    obtain ⟨hlv,hS1,hS16,hH0,hH6⟩:=spRight_iff.1 hcr.1
    refine wp_seq (wp_reg ?_)
    refine s_q hs (c_fld fl56_2 (hs.ev rfl)) rfl fun ac hs=>?_
    refine s_q hs (c_loadS un39 rfl (hs.ev rfl) (hs.seg (i:=1) rfl) (cred_path hlf _ _)) rfl fun ac hs=>?_
    refine s_q hs (c_lenS un39 (hs.ev rfl)) rfl fun ac hs=>?_
    refine s_q hs (c_fld fl33_2 (hs.ev rfl)) rfl fun ac hs=>?_
    refine s_q hs (c_loadS un3 rfl (hs.ev rfl) (hs.seg (i:=4) rfl) rfl) rfl fun ac hs=>?_
    refine s_q hs (c_neqI (hs.ev rfl) (hs.ev rfl)) rfl fun ac hs=>?_
    refine zA hs fun ac hs=>?_
    refine s_end ?_
    replace hs:=hs.sub (F':=[(4,_),(5,_),(6,_),(7,_),(8,_),(9,_),(21,_)]) ⟨rfl,rfl,rfl,rfl,rfl,rfl,rfl,trivial⟩
    refine then_n ?_
    refine s_cond hs rfl (fun hc=>?_) (fun hc=>?_)
    · try simp only [z1,z2,z3,z4,z5,z6,z7] at hc
      have hnp:¬ (np:Int)=H:=by simpa using hc
      refine wp_seq (wp_reg ?_)
      refine s_q hs (c_buildA ty36 un36 ty5 (zc:=(List.replicate 16 (0:UInt8)).map B) (vs:=[]) .nil (by simp) (by simp [flatCells]) rfl) rfl fun ac hs=>?_
      refine s_storeW (i:=0) hs ty36 rfl rfl rfl (by simp) (all_map_B _) rfl fun ww hs=>?_
      refine zA hs fun ac hs=>?_
      refine s_end ?_
      replace hs:=hs.sub (F':=[(4,_),(5,_),(6,_),(7,_),(8,_),(9,_)]) ⟨rfl,rfl,rfl,rfl,rfl,rfl,trivial⟩
      refine then_n (wp_ret (blk_r (then_r ?_)))
      refine s_ret hs rfl (.cell (hs.tmp rfl) (run_loadA ty36 rfl (hs.seg (i:=0) rfl) (List.take_of_length_le (by simp)) (by simp)) (.tmp (hs.tmp rfl) .nil)) rfl ⟨_,rfl,hs.fr,?_⟩
      show Value.tuple _=Value.tuple _
      rw [ckR,if_pos hyes,if_neg hnp]
      rfl
    · try simp only [z1,z2,z3,z4,z5,z6,z7] at hc
      have hnp:(np:Int)=H:=by simpa using hc
      refine wp_skip (blk_n (then_n (wp_seq (wp_reg ?_))))
      refine s_q hs (c_loadW ty61 ag61 (hs.ev rfl) (hs.seg (i:=2) rfl) (by rfl)) rfl fun ac hs=>?_
      refine s_call hs fu77 (.cons (hs.ev rfl) .nil) (proof_place d mt sn ep sq _) rfl fun ac ww v30 hf hp hs=>?_
      obtain rfl:=hp
      replace hs:=hs [] (.nil _ _)
      refine s_alloc hs ty165 rfl fun ac ww g10 hs=>?_
      refine s_storeW (i:=0) hs ty165 rfl rfl rfl (by rfl) (by rfl) (by simp) fun ww hs=>?_
      refine s_end ?_
      replace hs:=hs.sub (F':=[(4,_),(5,_),(6,_),(7,_),(8,_),(9,_),(10,_)]) ⟨rfl,rfl,rfl,rfl,rfl,rfl,rfl,trivial⟩
      refine then_n (wp_seq (wp_reg ?_))
      refine s_q hs (c_loadW ty165 ag165 (hs.ev rfl) (hs.seg (i:=0) rfl) (by rfl)) rfl fun ac hs=>?_
      refine s_q hs (c_fld fl61_1 (hs.ev rfl)) rfl fun ac hs=>?_
      refine s_q hs (c_fld fl59_2 (hs.ev rfl)) rfl fun ac hs=>?_
      refine s_q hs (c_loadS un3 rfl (hs.ev rfl) (hs.seg (i:=3) rfl) rfl) rfl fun ac hs=>?_
      refine s_q hs (c_fld fl33_0 (hs.ev rfl)) rfl fun ac hs=>?_
      refine s_q hs (c_loadS un3 rfl (hs.ev rfl) (hs.seg (i:=5) rfl) rfl) rfl fun ac hs=>?_
      refine s_q hs (c_fld fl61_2 (hs.ev rfl)) rfl fun ac hs=>?_
      refine s_q hs (c_loadS un3 rfl (hs.ev rfl) (hs.seg (i:=3) rfl) rfl) rfl fun ac hs=>?_
      refine s_q hs (c_fld fl56_0 (hs.ev rfl)) rfl fun ac hs=>?_
      refine s_q hs (c_loadA ty36 rfl (hs.ev rfl) (hs.seg (i:=2) rfl) (cred_leaf hlf _ _) (show (List.map B lf).length=16 by rw [List.length_map,hlf])) rfl fun ac hs=>?_
      refine s_q hs (c_fld fl56_1 (hs.ev rfl)) rfl fun ac hs=>?_
      refine s_q hs (c_loadS un39 rfl (hs.ev rfl) (hs.seg (i:=2) rfl) (cred_way hlf _ _)) rfl fun ac hs=>?_
      refine s_call hs fu83 (.cons (hs.ev rfl) (.cons (hs.ev rfl) (.cons (hs.ev rfl) (.cons (hs.ev rfl) (.cons (hs.ev rfl) (.cons (hs.ev rfl) .nil)))))) (ladder_RiseA d ep sq mt W sn lf ws nw _ hlf hwl _ (hqw.fr0 hs.fr)) rfl fun ac ww v44 hf hp hs=>?_
      obtain rfl:=hp
      replace hs:=hs [] (.nil _ _)
      refine zM hs fun ac hs=>?_
      refine s_q hs (c_extract (hs.ev rfl) rfl) rfl fun ac hs=>?_
      refine s_q hs (c_extract (hs.ev rfl) rfl) rfl fun ac hs=>?_
      refine s_alloc hs ty36 rfl fun ac ww g11 hs=>?_
      refine s_storeW (i:=0) hs ty36 rfl rfl rfl (by rw [List.length_map,rsB_length hlf]) (all_map_B _) rfl fun ww hs=>?_
      refine zA hs fun ac hs=>?_
      refine s_end ?_
      replace hs:=hs.sub (F':=[(4,_),(5,_),(6,_),(7,_),(8,_),(9,_),(10,_),(11,_),(12,_)]) ⟨rfl,rfl,rfl,rfl,rfl,rfl,rfl,rfl,rfl,trivial⟩
      refine then_n (wp_seq (wp_seq (wp_reg ?_)))
      refine zM hs fun ac hs=>?_
      refine s_q hs (c_neqI (hs.ev rfl) (hs.ev rfl)) rfl fun ac hs=>?_
      refine s_end ?_
      replace hs:=hs.sub (F':=[(4,_),(5,_),(6,_),(7,_),(8,_),(9,_),(10,_),(11,_),(12,_),(48,_)]) ⟨rfl,rfl,rfl,rfl,rfl,rfl,rfl,rfl,rfl,rfl,trivial⟩
      refine then_n ?_
      refine s_cond hs rfl (fun hc=>?_) (fun hc=>?_)
      · try simp only [z1,z2,z3,z4,z5,z6,z7] at hc
        have hre:¬ rsE mt W sn nw=0:=by simpa using hc
        refine wp_seq (wp_reg ?_)
        refine s_q hs (c_buildA ty36 un36 ty5 (zc:=(List.replicate 16 (0:UInt8)).map B) (vs:=[]) .nil (by simp) (by simp [flatCells]) rfl) rfl fun ac hs=>?_
        refine zM hs fun ac hs=>?_
        refine s_storeW (i:=2) hs ty36 rfl rfl rfl (by simp) (all_map_B _) rfl fun ww hs=>?_
        refine zA hs fun ac hs=>?_
        refine s_end ?_
        replace hs:=hs.sub (F':=[(4,_),(5,_),(6,_),(7,_),(8,_),(9,_),(10,_),(11,_)]) ⟨rfl,rfl,rfl,rfl,rfl,rfl,rfl,rfl,trivial⟩
        refine then_n (wp_ret (then_r ?_))
        refine s_ret hs rfl (.cell (hs.tmp rfl) (run_loadA ty36 rfl (hs.seg (i:=2) rfl) (List.take_of_length_le (by simp)) (by simp)) (.tmp (hs.tmp rfl) .nil)) rfl ⟨_,rfl,hs.fr,?_⟩
        show Value.tuple _=Value.tuple _
        rw [ckR,if_pos hyes,if_pos hnp,if_neg hre]
        rfl
      · try simp only [z1,z2,z3,z4,z5,z6,z7] at hc
        have hre:rsE mt W sn nw=0:=by simpa using hc
        refine wp_skip (then_n (wp_seq (wp_reg ?_)))
        refine s_q hs (c_loadW ty165 ag165 (hs.ev rfl) (hs.seg (i:=1) rfl) (by rfl)) rfl fun ac hs=>?_
        refine s_q hs (c_loadW ty36 rfl (hs.ev rfl) (hs.seg (i:=0) rfl) (by rw [List.length_map,rsB_length hlf])) rfl fun ac hs=>?_
        refine s_q hs (c_fld fl61_1 (hs.ev rfl)) rfl fun ac hs=>?_
        refine s_q hs (c_fld fl59_2 (hs.ev rfl)) rfl fun ac hs=>?_
        refine s_q hs (c_loadS un3 rfl (hs.ev rfl) (hs.seg (i:=4) rfl) rfl) rfl fun ac hs=>?_
        refine s_q hs (c_addI (hs.ev rfl) (hs.ev rfl) (by omega) (by omega)) rfl fun ac hs=>?_
        refine s_q hs (c_fld fl33_1 (hs.ev rfl)) rfl fun ac hs=>?_
        refine s_q hs (c_loadS un3 rfl (hs.ev rfl) (hs.seg (i:=6) rfl) rfl) rfl fun ac hs=>?_
        refine s_q hs (c_fld fl33_0 (hs.ev rfl)) rfl fun ac hs=>?_
        refine s_q hs (c_loadS un3 rfl (hs.ev rfl) (hs.seg (i:=6) rfl) rfl) rfl fun ac hs=>?_
        refine s_call hs fu84 (.cons (hs.ev rfl) (.cons (hs.ev rfl) (.cons (hs.ev rfl) (.cons (hs.ev rfl) (.cons (hs.ev rfl) .nil))))) (ladder_Climb d ep sq (rsB d ep sq mt W sn lf ws nw) (mt + 1) S W (rsB_length hlf _) (by omega) (by omega) _) rfl fun ac ww v62 hf hp hs=>?_
        obtain rfl:=hp
        replace hs:=hs [] (.nil _ _)
        refine zM hs fun ac hs=>?_
        refine s_q hs (c_extract (hs.ev rfl) rfl) rfl fun ac hs=>?_
        refine s_q hs (c_extract (hs.ev rfl) rfl) rfl fun ac hs=>?_
        refine s_alloc hs ty36 rfl fun ac ww g13 hs=>?_
        refine s_storeW (i:=0) hs ty36 rfl rfl rfl (by rw [List.length_map,climbB_length (rsB_length hlf _)]) (all_map_B _) rfl fun ww hs=>?_
        refine zA hs fun ac hs=>?_
        refine s_end ?_
        replace hs:=hs.sub (F':=[(4,_),(5,_),(6,_),(7,_),(8,_),(9,_),(11,_),(13,_)]) ⟨rfl,rfl,rfl,rfl,rfl,rfl,rfl,rfl,trivial⟩
        refine then_n (wp_seq (wp_seq (wp_reg ?_)))
        refine s_q hs (c_fld fl61_0 (hs.ev rfl)) rfl fun ac hs=>?_
        refine s_q hs (c_loadS un3 rfl (hs.ev rfl) (hs.seg (i:=5) rfl) rfl) rfl fun ac hs=>?_
        refine s_q hs (c_fld fl61_1 (hs.ev rfl)) rfl fun ac hs=>?_
        refine s_q hs (c_fld fl59_0 (hs.ev rfl)) rfl fun ac hs=>?_
        refine s_q hs (c_loadS un25 rfl (hs.ev rfl) (hs.seg (i:=5) rfl) rfl) rfl fun ac hs=>?_
        refine s_q hs (c_fld fl33_2 (hs.ev rfl)) rfl fun ac hs=>?_
        refine s_q hs (c_loadS un3 rfl (hs.ev rfl) (hs.seg (i:=7) rfl) rfl) rfl fun ac hs=>?_
        refine s_q hs (c_loadW ty36 rfl (hs.ev rfl) (hs.seg (i:=6) rfl) (by rw [List.length_map,hrt])) rfl fun ac hs=>?_
        refine s_q hs (c_fld fl61_1 (hs.ev rfl)) rfl fun ac hs=>?_
        refine s_q hs (c_fld fl59_1 (hs.ev rfl)) rfl fun ac hs=>?_
        refine s_q hs (c_loadS un25 rfl (hs.ev rfl) (hs.seg (i:=5) rfl) rfl) rfl fun ac hs=>?_
        refine s_q hs (c_cvUI un25 un3 (hs.ev rfl)) rfl fun ac hs=>?_
        refine s_q hs (c_loadW ty36 rfl (hs.ev rfl) (hs.seg (i:=0) rfl) (by rw [List.length_map,climbB_length (rsB_length hlf _)])) rfl fun ac hs=>?_
        refine s_q hs (c_fld fl56_2 (hs.ev rfl)) rfl fun ac hs=>?_
        refine s_q hs (c_loadS un39 rfl (hs.ev rfl) (hs.seg (i:=4) rfl) (cred_path hlf _ _)) rfl fun ac hs=>?_
        refine s_call hs fu85 (.cons (hs.ev rfl) (.cons (hs.ev rfl) (.cons (hs.ev rfl) (.cons (hs.ev rfl) (.cons (hs.ev rfl) (.cons (hs.ev rfl) (.cons (hs.ev rfl) .nil))))))) (grove_Check H rt hrt d ep (sq.toNat:Int) np (climbB d ep sq (rsB d ep sq mt W sn lf ws nw) (mt + 1) S W) ps _ (climbB_length (rsB_length hlf _)) hpl _ (hqp.fr0 hs.fr)) rfl fun ac ww v80 hf hp hs=>?_
        obtain rfl:=hp
        replace hs:=hs [] (.nil _ _)
        refine s_q hs (c_not (hs.ev rfl)) rfl fun ac hs=>?_
        refine s_end ?_
        replace hs:=hs.sub (F':=[(8,_),(9,_),(11,_),(81,_)]) ⟨rfl,rfl,rfl,rfl,trivial⟩
        refine then_n ?_
        refine s_cond hs rfl (fun hc=>?_) (fun hc=>?_)
        · try simp only [z1,z2,z3,z4,z5,z6,z7] at hc
          have hck:¬ chkB d ep H rt (sq.toNat:Int) (climbB d ep sq (rsB d ep sq mt W sn lf ws nw) (mt + 1) S W) ps np=true:=by simpa using hc
          refine wp_seq (wp_reg ?_)
          refine s_q hs (c_buildA ty36 un36 ty5 (zc:=(List.replicate 16 (0:UInt8)).map B) (vs:=[]) .nil (by simp) (by simp [flatCells]) rfl) rfl fun ac hs=>?_
          refine s_storeW (i:=3) hs ty36 rfl rfl rfl (by simp) (all_map_B _) rfl fun ww hs=>?_
          refine zA hs fun ac hs=>?_
          refine s_end ?_
          replace hs:=hs.sub (F':=[(8,_),(9,_),(11,_)]) ⟨rfl,rfl,rfl,trivial⟩
          refine then_n (wp_ret (then_r ?_))
          refine s_ret hs rfl (.cell (hs.tmp rfl) (run_loadA ty36 rfl (hs.seg (i:=3) rfl) (List.take_of_length_le (by simp)) (by simp)) (.tmp (hs.tmp rfl) .nil)) rfl ⟨_,rfl,hs.fr,?_⟩
          show Value.tuple _=Value.tuple _
          rw [ckR,if_pos hyes,if_pos hnp,if_pos hre,if_neg hck]
          rfl
        · try simp only [z1,z2,z3,z4,z5,z6,z7] at hc
          have hck:chkB d ep H rt (sq.toNat:Int) (climbB d ep sq (rsB d ep sq mt W sn lf ws nw) (mt + 1) S W) ps np=true:=by simpa using hc
          refine wp_skip (then_n (wp_seq (wp_reg ?_)))
          refine s_q hs (c_loadW ty36 rfl (hs.ev rfl) (hs.seg (i:=1) rfl) (by rw [List.length_map,rsB_length hlf])) rfl fun ac hs=>?_
          refine s_storeW (i:=3) hs ty36 rfl rfl rfl (by rw [List.length_map,rsB_length hlf]) (all_map_B _) rfl fun ww hs=>?_
          refine zA hs fun ac hs=>?_
          refine s_end ?_
          replace hs:=hs.sub (F':=[(8,_),(9,_)]) ⟨rfl,rfl,trivial⟩
          refine then_n (wp_ret ?_)
          refine s_ret hs rfl (.cell (hs.tmp rfl) (run_loadA ty36 rfl (hs.seg (i:=3) rfl) (List.take_of_length_le (show (List.map B (rsB d ep sq mt W sn lf ws nw)).length≤16 by rw [List.length_map,rsB_length hlf]; exact Nat.le_refl _)) (show (List.map B (rsB d ep sq mt W sn lf ws nw)).length=16 by rw [List.length_map,rsB_length hlf])) (.tmp (hs.tmp rfl) .nil)) rfl ⟨_,rfl,hs.fr,?_⟩
          show Value.tuple _=Value.tuple _
          rw [ckR,if_pos hyes,if_pos hnp,if_pos hre,if_pos hck]
          rfl
end Go.Proofs.YtklajbdbnnceiaaGreat
end

section
/- What is known. -/
namespace Go.Proofs.YtklajbdbnnceiaaGreat
open Go Go.Fw
open Sha
def knC (d:Int) (ep sq:UInt32) (mt:Int) (e:List UInt8) (pv:Value):List Value:=[I d,U ep,U sq,I mt]++(e.map B++[pv])
def knV (d:Int) (ep sq:UInt32) (mt:Int) (e:List UInt8) (pv:Value):Value:=.agg (knC d ep sq mt e pv).toArray
theorem knC_length {d:Int} {ep sq:UInt32} {mt:Int} {e:List UInt8} {pv:Value} (h:e.length=16):(knC d ep sq mt e pv).length=21:=by simp [knC,h]
theorem kn_path {d:Int} {ep sq:UInt32} {mt:Int} {e:List UInt8} {pv:Value} (h:e.length=16):(knC d ep sq mt e pv)[20]?=some pv:=by
  rw [knC,List.getElem?_append_right (Nat.le_of_ble_eq_true rfl),List.getElem?_append_right (by rw [List.length_map,h]; exact Nat.le_of_ble_eq_true rfl),List.length_map,h]; rfl
theorem kn_el {d:Int} {ep sq:UInt32} {mt:Int} {e:List UInt8} {pv:Value} (h:e.length=16):((knC d ep sq mt e pv).drop 4).take 16=e.map B:=by
  rw [knC,List.drop_append_of_le_length (Nat.le_of_ble_eq_true rfl)]
  show (List.map B e++[pv]).take 16=_
  rw [List.take_append_of_le_length (by rw [List.length_map]; omega),List.take_of_length_le (by rw [List.length_map]; omega)]
def knE (d:Int) (ep sq:UInt32) (mt:Int) (e ps:List UInt8) (np:Nat):Value→List Ent→World→Prop:=fun v L _=>∃ tv,v=knV d ep sq mt e tv∧L=[.row tv np (ps.map B) 36 16]
theorem proof_clone (np:Nat) (ps:List UInt8) (pv:Value) (hpl:ps.length=np * 16) (hnp:np≤1000000) (w:World) (hqp:Rd w pv np (ps.map B)):Ctr Tryz.prog 81 [pv] w (fun _=>False) (outE (rowS np ps) w):=by
  have hnpl:=hqp.le
  obtain ⟨pad,pcap,rfl,hpc,hpm⟩:=Rd.sl hqp
  refine fn_start (N:=6) Tryz.func81 rfl rfl rfl fun ac hk=>?_
  have hs:=St.start hk w
  refine wp_seq (wp_reg ?_)
  refine zA hs fun ac hs=>?_
  refine s_end (then_n (wp_seq (wp_reg ?_)))
  refine s_bslice hs un39 ty36 .nil rfl (by simp [Value.cells]) (by decide) rfl rfl fun ac ww g3 hs=>?_
  refine zM hs fun ac hs=>?_
  replace hs:=hs.segrow (i:=0) (n:=0) (sz:=16) rfl rfl (by decide)
  refine s_append (i:=0) hs un39 ty36 (by decide) rfl rfl rfl (hqp.fr0 hs.fr) (by rw [List.length_map,hpl]) (all_map_B _) (by unfold maxLen; omega) (by omega) rfl fun ac ww v5 hf hnil hs=>?_
  replace hs:=hs.toL (show _=[.row v5 np (ps.map B) 36 16] from by simp [flatCells])
  refine zA hs fun ac hs=>?_
  refine s_end ?_
  replace hs:=hs.sub (F':=[(2,_)]) ⟨rfl,trivial⟩
  refine then_n (wp_ret ?_)
  refine s_ret hs rfl (.tmp (hs.tmp rfl) .nil) rfl ⟨_,rfl,hs.fr,?_⟩
  exact ⟨_,rfl,hs.made⟩
theorem proof_Learn (d mt sn:Int) (ep sq:UInt32) (nx lf ps:List UInt8) (np:Nat) (wv pv:Value) (hnx:nx.length=16) (hlf:lf.length=16) (hpl:ps.length=np * 16) (hnp:np≤1000000) (hmt:0≤mt∧mt≤1000) (w:World) (hwo:wv.oneCell'=true) (hqp:Rd w pv np (ps.map B)):Ctr Tryz.prog 33 [.agg #[I d,U ep,U sq,I mt,I sn],.agg (nx.map B).toArray,credV lf wv pv] w (fun _=>False) (outE (knE d ep sq (mt + 1) nx ps np) w):=by
  obtain ⟨pad,pcap,rfl,hpc,hpm⟩:=Rd.sl hqp
  refine fn_start (N:=22) Tryz.func33 rfl rfl rfl fun ac hk=>?_
  have hs:=St.start hk w
  refine wp_seq (wp_reg ?_)
  refine s_box hs rfl rfl rfl fun ac ww g3 hs=>?_
  refine s_box hs rfl rfl rfl fun ac ww g4 hs=>?_
  refine s_box hs rfl rfl rfl fun ac ww g5 hs=>?_
  refine s_alloc hs ty72 rfl fun ac ww g6 hs=>?_
  refine s_end ?_
  replace hs:=hs.sub (F':=[(3,_),(4,_),(5,_),(6,_)]) ⟨rfl,rfl,rfl,rfl,trivial⟩
  refine then_n (wp_seq (wp_reg ?_))
  refine s_q hs (c_fld fl61_1 (hs.ev rfl)) rfl fun ac hs=>?_
  refine s_q hs (c_loadA ty59 ag59 (hs.ev rfl) (hs.seg (i:=3) rfl) rfl (by rfl)) rfl fun ac hs=>?_
  refine s_alloc hs ty59 rfl fun ac ww g7 hs=>?_
  refine s_storeW (i:=0) hs ty59 rfl rfl rfl (by rfl) (by rfl) (by simp) fun ww hs=>?_
  refine s_end ?_
  replace hs:=hs.sub (F':=[(3,_),(4,_),(5,_),(6,_),(7,_)]) ⟨rfl,rfl,rfl,rfl,rfl,trivial⟩
  refine then_n (wp_seq (wp_reg ?_))
  refine s_q hs (c_fld fl59_2 (hs.ev rfl)) rfl fun ac hs=>?_
  refine s_q hs (c_loadS un3 rfl (hs.ev rfl) (hs.seg (i:=0) rfl) rfl) rfl fun ac hs=>?_
  refine s_q hs (c_addI (hs.ev rfl) (hs.ev rfl) (by omega) (by omega)) rfl fun ac hs=>?_
  refine s_q hs (c_fld fl59_2 (hs.ev rfl)) rfl fun ac hs=>?_
  refine s_store (i:=0) hs ty3 rfl rfl rfl rfl rfl rfl (by simp) rfl fun ww hs=>?_
  refine s_end ?_
  replace hs:=hs.sub (F':=[(3,_),(4,_),(5,_),(6,_),(7,_)]) ⟨rfl,rfl,rfl,rfl,rfl,trivial⟩
  refine then_n (wp_seq ?_)
  refine wp_region_rg pmix 7 (by kernel_rfl) rfl hs ?_
  simp only [List.take_succ_cons,List.take_zero]
  refine rg_q (fun ac ww h=>c_fld fl61_0 (h.ev rfl)) rfl ?_
  refine rg_q (fun ac ww h=>c_loadS un3 rfl (h.ev rfl) (h.blk (hs.seg (i:=4) rfl)) rfl) rfl ?_
  refine rg_q (fun ac ww h=>c_loadW ty59 ag59 (h.ev rfl) (h.blk (hs.seg (i:=0) rfl)) (by rfl)) rfl ?_
  refine rg_q (fun ac ww h=>c_loadW ty36 rfl (h.ev rfl) (h.blk (hs.seg (i:=3) rfl)) (by rw [List.length_map,hnx])) rfl ?_
  refine rg_q (fun ac ww h=>c_fld fl56_2 (h.ev rfl)) rfl ?_
  refine rg_q (fun ac ww h=>c_loadS un39 rfl (h.ev rfl) (h.blk (hs.seg (i:=2) rfl)) (cred_path hlf _ _)) rfl ?_
  refine rg_callE (rowS np ps) (fun _ _ _ _ _ h=>h) fu81 (fun ac ww h=>?_) rfl ?_
  · exact ⟨_,.cons (h.ev rfl) (.nil),proof_clone np ps _ hpl hnp _ (hqp.fr0 (hs.fr.trans0 h.fr))⟩
  refine rg_nil fun ac ww L' hf hfe hs=>?_
  simp only [List.drop_succ_cons,List.drop_zero]
  obtain ⟨v20,L20,M20,h20,e20,rfl,rfl⟩:=hfe
  replace hs:=hs.add h20
  obtain rfl:=e20
  obtain ⟨tad,tcap,rfl,htc,htm⟩:=Rd.sl (Rd.of_row (hs.get (i:=0) rfl))
  refine s_q hs (c_buildS (zc:=knC d ep sq (mt + 1) nx (.slice tad np tcap)) ty72 bp72 (.cons (hs.ev rfl) (.cons (hs.ev rfl) (.cons (hs.ev rfl) (.cons (hs.ev rfl) .nil)))) ⟨rfl,rfl,(by simp [Value.cells,hnx]),(by simp [Value.cells,hnx]),trivial⟩ (by simp [flatCells,Value.cells,hnx]) (by simp [flatCells,Value.cells,hnx,knC])) rfl fun ac hs=>?_
  refine s_storeW (i:=2) hs ty72 rfl rfl rfl (knC_length hnx) (by simp [knC,Value.oneCell',B]) rfl fun ww hs=>?_
  refine s_end ?_
  replace hs:=hs.sub (F':=[(6,_)]) ⟨rfl,trivial⟩
  refine then_n (wp_ret ?_)
  refine s_ret hs rfl (.cell (hs.tmp rfl) (run_loadA ty72 ag72 (hs.seg (i:=2) rfl) (List.take_of_length_le (show (knC d ep sq (mt + 1) nx (.slice tad np tcap)).length≤21 by rw [knC_length hnx]; exact Nat.le_refl _)) (knC_length hnx)) .nil) rfl ⟨_,rfl,hs.fr,?_⟩
  exact ⟨_,⟨_,rfl,rfl⟩,(hs.pick (L':=[_]) (.cons_cons _ (List.nil_sublist _))).made⟩
end Go.Proofs.YtklajbdbnnceiaaGreat
end

section
/- Laws of proofs: an example. -/
namespace Go.Proofs.YtklajbdbnnceiaaGreat
open Go Go.Fw
open Sha
theorem SpSome.fr0 {w w':World} {p:Spr} (h:SpSome w p) (hf:Fr0 w w'):SpSome w' p:=by
  obtain ⟨K,t,h⟩:=h
  exact ⟨K,t,h.fr0 hf⟩
end Go.Proofs.YtklajbdbnnceiaaGreat
end

section
/- An example of a grove; nil groves. -/
namespace Go.Proofs.YtklajbdbnnceiaaGreat
open Go Go.Fw
open Sha
theorem gPath_chunk {d:Int} {ep:UInt32} {ls:List UInt8} {q lv:Nat} (hls:ls.length=16 * 2 ^ lv) (hq:q < 2 ^ lv) {k:Nat} (hk:k < lv):chunk (gPath d ep ls q lv) k=gWay d ep ls q k:=by
  have:=rows_chunk (f:=gWay d ep ls q) (N:=lv) (fun j hj=>by
    have:=gNode_length (d:=d) (ep:=ep) hls j _ (beside_fit hq hj)
    simpa only [gWay,wayN,gNode] using this) lv (Nat.le_refl _) k hk
  exact this
theorem gpath_leads {d:Int} {ep:UInt32} {ls:List UInt8} {q lv:Nat} (hls:ls.length=16 * 2 ^ lv) (hq:q < 2 ^ lv):gRise d ep q (chunk ls q) (gPath d ep ls q lv) lv=gNode d ep ls lv 0:=by
  have h1:gRise d ep q (chunk ls q) (gPath d ep ls q lv) lv=riseN (gJ d ep) q (gLf ls q) (wayN (gJ d ep) (gLf ls) q) lv:=rise_congr lv fun k hk=>gPath_chunk hls hq hk
  rw [h1,rise_node,Nat.div_eq_of_lt hq]
theorem gchk_own {d:Int} {ep:UInt32} {ls:List UInt8} {q lv:Nat} (hls:ls.length=16 * 2 ^ lv) (hlv:lv≤6) (hq:q < 2 ^ lv):chkB d ep (lv:Nat) (gNode d ep ls lv 0) (q:Nat) (chunk ls q) (gPath d ep ls q lv) lv=true:=by
  have h1:foldOk (q:Nat) lv=true:=fold_good (by omega) hlv (by exact_mod_cast hq)
  rw [chkB,foldE,foldB,if_pos h1,if_pos h1,Int.toNat_natCast,gpath_leads hls hq]
  simp
end Go.Proofs.YtklajbdbnnceiaaGreat
end

section
/- Honest proofs. -/
namespace Go.Proofs.YtklajbdbnnceiaaGreat
open Go Go.Fw
open Sha
theorem el_climb (p:Spr) (q k n:Nat):climbN p.d p.ep (i32 (q:Int)) (el p q k) (k:Nat) p.W n=el p q (k + n):=by
  have h:=climbN_add p.d p.ep (i32 (q:Int)) (elE p q) 0 p.W k n
  rw [Int.zero_add] at h
  exact h.symm
theorem i32_seq (sq:UInt32):i32 (sq.toNat:Int)=sq:=by
  apply UInt32.toNat_inj.1
  have h:=i32_toNat (sq.toNat:Int)
  have:=UInt32.toNat_lt sq
  omega
theorem clR_okS {W S H d mt sn:Int} {ep sq:UInt32} (h:clRight W S H d mt sn ep sq=true):okS mt W sn=true:=by
  obtain ⟨hR,_,_,h1,h2,_,_,h3,h4⟩:=clRight_iff.1 h
  obtain ⟨g1,g2,g3,g4,g5⟩:=spRight_iff.1 hR
  simp only [okS,rightB,Bool.and_eq_true,decide_eq_true_eq]
  omega
section
variable {p:Spr} {m:Nat} {sn:Int} {sq:UInt32}
abbrev hLf (p:Spr) (m:Nat) (sn:Int) (sq:UInt32):List UInt8:=shL p.d p.ep sq (m:Int) (el p sq.toNat m) p.W sn
abbrev hWs (p:Spr) (m:Nat) (sn:Int) (sq:UInt32):List UInt8:=shW p.d p.ep sq (m:Int) (el p sq.toNat m) p.W sn
abbrev hPs (p:Spr) (sq:UInt32):List UInt8:=gPath p.d p.ep (ends p p.m) sq.toNat p.H
abbrev hRt (p:Spr):List UInt8:=gNode p.d p.ep (ends p p.m) p.H 0
theorem honest_next (h:clRight p.W p.S p.H p.d m sn p.ep sq=true):rsB p.d p.ep sq m p.W sn (hLf p m sn sq) (hWs p m sn sq) (shN m p.W sn)=el p sq.toNat (m + 1)∧rsE m p.W sn (shN m p.W sn)=0:=by
  have h1:=meets (d:=p.d) (ep:=p.ep) (sq:=sq) (e:=el p sq.toNat m) (clR_okS h)
  refine ⟨h1.1.trans ?_,h1.2.1⟩
  rw [el_succ,i32_seq]
theorem climb_el (h:clRight p.W p.S p.H p.d m sn p.ep sq=true) {k:Nat} (hk:m + 1≤k) (hkS:k≤p.S):climbB p.d p.ep sq (el p sq.toNat (m + 1)) ((m:Int) + 1) k p.W=el p sq.toNat k∧climbE ((m:Int) + 1) k p.W=0:=by
  obtain ⟨hR,_,_,_,_,_,_,_,_⟩:=clRight_iff.1 h
  obtain ⟨g1,g2,g3,g4,g5⟩:=spRight_iff.1 hR
  have hok:climbOk ((m:Int) + 1) k p.W=true:=climbOk_iff.2 (by omega)
  rw [climbB,climbE,if_pos hok,if_pos hok]
  have e:=el_climb p sq.toNat (m + 1) (k - (m + 1))
  rw [i32_seq,show m + 1 + (k - (m + 1))=k by omega] at e
  rw [← e,show ((k:Int) - ((m:Int) + 1)).toNat=k - (m + 1) by omega]
  exact ⟨by push_cast; rfl,rfl⟩
theorem seq_lt (h:clRight p.W p.S p.H p.d m sn p.ep sq=true):sq.toNat < p.m:=by
  obtain ⟨_,_,_,_,_,_,h1,_,_⟩:=clRight_iff.1 h
  simpa [Spr.m] using h1
theorem end_chunk {p:Spr} {q:Nat} (h:q < p.m):chunk (ends p p.m) q=el p q p.S:=rows_chunk (f:=fun q=>el p q p.S) (N:=p.m) (fun j _=>el_length p j p.S) p.m (Nat.le_refl _) q h
theorem chk_el (ho:p.Ok) (h:clRight p.W p.S p.H p.d m sn p.ep sq=true):chkB p.d p.ep p.H (hRt p) (sq.toNat:Int) (el p sq.toNat p.S) (hPs p sq) p.H=true:=by
  have hq:=seq_lt h
  have hls:=ends_length p p.m
  have h2:=gchk_own (d:=p.d) (ep:=p.ep) (ls:=ends p p.m) (q:=sq.toNat) (lv:=p.H) hls ho.h6 hq
  rw [end_chunk hq] at h2
  exact h2
theorem check_climbs (ho:p.Ok) (h:clRight p.W p.S p.H p.d m sn p.ep sq=true) {lf ws:List UInt8} {nw k:Nat} (hr:rsE m p.W sn nw=0) (hk:m + 1≤k) (hkS:k≤p.S)
    (hc:climbB p.d p.ep sq (rsB p.d p.ep sq m p.W sn lf ws nw) ((m:Int) + 1) k p.W=el p sq.toNat k):ckR p.W p.S p.H p.d m sn p.ep sq (hRt p) lf ws nw (hPs p sq) p.H=(rsB p.d p.ep sq m p.W sn lf ws nw,0):=by
  obtain ⟨hR,_,_,_,_,_,_,_,_⟩:=clRight_iff.1 h
  obtain ⟨g1,g2,g3,g4,g5⟩:=spRight_iff.1 hR
  have h1:climbOk ((m:Int) + 1) k p.W=true:=climbOk_iff.2 (by omega)
  have h2:climbOk (k:Int) p.S p.W=true:=climbOk_iff.2 (by omega)
  have h3:=(climb_two (d:=p.d) (ep:=p.ep) (sq:=sq) (e:=rsB p.d p.ep sq m p.W sn lf ws nw) h1 h2).2
  have h4:climbB p.d p.ep sq (el p sq.toNat k) (k:Int) p.S p.W=el p sq.toNat p.S:=by
    rw [climbB,if_pos h2]
    have e:=el_climb p sq.toNat k (p.S - k)
    rw [i32_seq,show k + (p.S - k)=p.S by omega] at e
    rw [← e,show ((p.S:Int) - (k:Int)).toNat=p.S - k by omega]
  rw [hc,h4] at h3
  rw [ckR,if_pos h,if_pos rfl,if_pos hr,← h3,if_pos (chk_el ho h)]
theorem check_honest (ho:p.Ok) (h:clRight p.W p.S p.H p.d m sn p.ep sq=true):ckR p.W p.S p.H p.d m sn p.ep sq (hRt p) (hLf p m sn sq) (hWs p m sn sq) (shN m p.W sn) (hPs p sq) p.H=(el p sq.toNat (m + 1),0):=by
  obtain ⟨_,_,_,_,_,_,_,_,hmS⟩:=clRight_iff.1 h
  have h1:=honest_next h
  have h2:=check_climbs ho h (lf:=hLf p m sn sq) (ws:=hWs p m sn sq) (k:=m + 1) h1.2 (Nat.le_refl _) (by omega) (by rw [h1.1]; have:=(climb_el h (k:=m + 1) (Nat.le_refl _) (by omega)).1; exact_mod_cast this)
  rw [h2,h1.1]
end
end Go.Proofs.YtklajbdbnnceiaaGreat
end

section
/- The law of what leads to a root. -/
namespace Go.Proofs.YtklajbdbnnceiaaGreat
open Go Go.Fw
open Sha
theorem i64_toN {m:Nat} (h:m≤1000):(i64 (m:Int)).toNat=m:=by
  have:=i64_toNat (m:Int)
  omega
theorem modq (i:Int) (m:Nat) (h0:0 < m) (h:m≤16):i64 (m:Int) ≠ 0∧∃ q:Nat,(i64 i % i64 (m:Int)).toNat=q∧q < m:=by
  have h1:=i64_toN (m:=m) (by omega)
  refine ⟨fun e=>?_,_,rfl,?_⟩
  · rw [e] at h1
    simp at h1
    omega
  · rw [UInt64.toNat_mod,h1]
    exact Nat.mod_lt _ h0
section
variable {J:Nat→List UInt8→List UInt8→List UInt8} {lf lf2:Nat→List UInt8} {n:Nat}
theorem node_congr (h:∀ p,p < n→lf p=lf2 p):∀ k q,(q + 1) * 2 ^ k≤n→node J lf k q=node J lf2 k q
  | 0,q,hq=>h q (by omega)
  | k + 1,q,hq=>by
    obtain ⟨h1,h2,_⟩:=gfit hq
    rw [node,node,node_congr h k _ h1,node_congr h k _ h2]
theorem nodeTs_congr (h:∀ p,p < n→lf p=lf2 p):∀ k q,(q + 1) * 2 ^ k≤n→nodeTs J lf (fun _=>[]) k q=nodeTs J lf2 (fun _=>[]) k q
  | 0,q,hq=>rfl
  | k + 1,q,hq=>by
    obtain ⟨h1,h2,_⟩:=gfit hq
    rw [nodeTs,nodeTs,nodeTs_congr h k _ h1,nodeTs_congr h k _ h2,node_congr h k _ h1,node_congr h k _ h2]
end
def lf16 (ls:List UInt8) (n q:Nat):List UInt8:=if q < n then chunk ls q else List.replicate 16 0
theorem beside_ok {q lv k:Nat} (h:q < 2 ^ lv) (hk:k < lv):(besideI (q / 2 ^ k) + 1) * 2 ^ k≤2 ^ lv:=beside_fit h hk
theorem grove_sound {d:Int} {ep:UInt32} {ls:List UInt8} {q lv:Nat} {l ws:List UInt8} (hls:ls.length=16 * 2 ^ lv) (hl:l.length=16) (hw:ws.length=lv * 16) (hq:q < 2 ^ lv) (h:gRise d ep q l ws lv=gNode d ep ls lv 0) (hne:¬ (l=chunk ls q∧ws=gPath d ep ls q lv)) :
    clash (gNodeTs d ep ls lv 0) (gRiseTs d ep q l ws lv)=true:=by
  cases hc:clash (gNodeTs d ep ls lv 0) (gRiseTs d ep q l ws lv) with
  | true=>rfl
  | false =>
    exfalso
    have hq0:q / 2 ^ lv=0:=Nat.div_eq_of_lt hq
    have hcg:∀ p,p < 2 ^ lv→gLf ls p=lf16 ls (2 ^ lv) p:=fun p hp=>by rw [lf16,if_pos hp]; rfl
    have hfit:(0 + 1) * 2 ^ lv≤2 ^ lv:=by omega
    have e1:gNode d ep ls lv 0=node (gJ d ep) (lf16 ls (2 ^ lv)) lv 0:=node_congr hcg lv 0 hfit
    have e2:gNodeTs d ep ls lv 0=nodeTs (gJ d ep) (lf16 ls (2 ^ lv)) (fun _=>[]) lv 0:=nodeTs_congr hcg lv 0 hfit
    have hs:=rise_sound (J:=gJ d ep) (lf:=lf16 ls (2 ^ lv)) (lt:=fun _=>[]) (id:=q) (l:=l) (way:=chunk ws) (fun _ _ _ _ _ ha hc h=>aboveX_inj ha hc h) (fun p=>by
      unfold lf16
      split
      · exact chunk_len (by omega)
      · simp) hl lv (fun k hk=>chunk_l hw hk) (by rw [hq0,← e1]; exact h) (by rw [hq0,← e2]; exact fun x hx y hy e=>clash_not hc hx hy e)
    refine hne ⟨?_,sums_same hw (gPath_length hls hq lv (Nat.le_refl _)) fun i hi=>?_⟩
    · rw [hs.1,← hcg q hq]; rfl
    · rw [hs.2 i hi,gPath_chunk hls hq hi,gWay,wayN,wayN,node_congr hcg i _ (beside_ok hq hi)]
theorem chunk_le (l:List UInt8) (k:Nat):(chunk l k).length≤16:=by rw [chunk,List.length_take]; omega
theorem gNode_le (d:Int) (ep:UInt32) (ls:List UInt8):∀ k q,(gNode d ep ls k q).length≤16
  | 0,q=>chunk_le ls q
  | k + 1,q=>Nat.le_refl 16
theorem above_good {d:Int} {ep:UInt32} {x:Int} {a b:List UInt8} (ha:a.length≤16) (hb:b.length≤16):∃ kd tx,aboveX d ep x a b=kd::tx∧tx.length≤140737488355199:=⟨_,_,rfl,by rw [List.length_append,List.length_append,gHead_length]; omega⟩
theorem gnode_good (d:Int) (ep:UInt32) (ls:List UInt8):∀ n q,∀ t∈gNodeTs d ep ls n q,∃ kd tx,t=kd::tx∧tx.length≤140737488355199
  | 0,q,t,ht=>by simp [gNodeTs,nodeTs] at ht
  | n + 1,q,t,ht=>by
    simp only [gNodeTs,nodeTs,List.mem_append,List.mem_singleton] at ht
    rcases ht with (ht | ht) | rfl
    · exact gnode_good d ep ls n _ t ht
    · exact gnode_good d ep ls n _ t ht
    · exact above_good (gNode_le d ep ls n _) (gNode_le d ep ls n _)
theorem grise_good (d:Int) (ep:UInt32) (q:Nat) (l ws:List UInt8) (hl:l.length=16):∀ k,∀ t∈gRiseTs d ep q l ws k,∃ kd tx,t=kd::tx∧tx.length≤140737488355199
  | 0,t,ht=>by simp [gRiseTs,riseTs] at ht
  | k + 1,t,ht=>by
    simp only [gRiseTs,riseTs,List.mem_append,List.mem_singleton] at ht
    rcases ht with ht | rfl
    · exact grise_good d ep q l ws hl k t ht
    · have h1:(riseN (gJ d ep) q l (chunk ws) k).length=16:=riseN_length hl k
      unfold stepX
      split
      · exact above_good (chunk_le ws k) (by omega)
      · exact above_good (by omega) (chunk_le ws k)
end Go.Proofs.YtklajbdbnnceiaaGreat
end

section
/- What is passed on. -/
namespace Go.Proofs.YtklajbdbnnceiaaGreat
open Go Go.Fw
open Sha
def psE (W S H d mt id:Int) (ep sq:UInt32) (e ps:List UInt8) (np:Nat):Value→List Ent→World→Prop:=fun v L _ =>
  (clRight W S H d mt id ep sq=false∧v=.tuple #[.agg #[I 0,U 0,U 0,I 0,I 0],credV (List.replicate 16 0) (.slice none 0 0) (.slice none 0 0),I 1]∧L=[]) ∨
  (clRight W S H d mt id ep sq=true∧∃ wv pv,v=.tuple #[.agg #[I d,U ep,U sq,I mt,I id],credV (shL d ep sq mt e W id) wv pv,I 0]∧L=[.row pv np (ps.map B) 36 16,.row wv (shN mt W id) ((shW d ep sq mt e W id).map B) 36 16])
theorem cred_length {l:List UInt8} (h:l.length=16) (wv pv:Value):(l.map B++[wv,pv]).length=18:=by simp [h]
theorem proof_Pass (W S H d mt nid:Int) (ep sq:UInt32) (e ps:List UInt8) (np:Nat) (pv:Value) (hel:e.length=16) (hpl:ps.length=np * 16) (hnp:np≤1000000) (w:World) (hqp:Rd w pv np (ps.map B)):Ctr Tryz.prog 37 [.agg #[I W,I S,I H],knV d ep sq mt e pv,I nid] w (fun _=>False) (outE (psE W S H d mt nid ep sq e ps np) w):=by
  obtain ⟨pad,pcap,rfl,hpc,hpm⟩:=Rd.sl hqp
  refine fn_start (N:=47) Tryz.func37 rfl rfl rfl fun ac hk=>?_
  have hs:=St.start hk w
  refine wp_seq (wp_reg ?_)
  refine s_box hs rfl rfl rfl fun ac ww g3 hs=>?_
  refine s_box hs rfl rfl rfl fun ac ww g4 hs=>?_
  refine s_alloc hs ty61 rfl fun ac ww g6 hs=>?_
  refine s_alloc hs ty56 rfl fun ac ww g7 hs=>?_
  refine zA hs fun ac hs=>?_
  refine s_end ?_
  replace hs:=hs.sub (F':=[(2,_),(3,_),(4,_),(6,_),(7,_),(8,_)]) ⟨rfl,rfl,rfl,rfl,rfl,rfl,trivial⟩
  refine then_n (wp_seq (wp_reg ?_))
  refine s_q hs (c_fld fl72_0 (hs.ev rfl)) rfl fun ac hs=>?_
  refine s_q hs (c_loadS un3 rfl (hs.ev rfl) (hs.seg (i:=2) rfl) rfl) rfl fun ac hs=>?_
  refine s_q hs (c_fld fl72_1 (hs.ev rfl)) rfl fun ac hs=>?_
  refine s_q hs (c_loadA ty59 ag59 (hs.ev rfl) (hs.seg (i:=2) rfl) (show ((knC d ep sq mt e _).drop 1).take 3=[U ep,U sq,I mt] from rfl) (by rfl)) rfl fun ac hs=>?_
  refine zM hs fun ac hs=>?_
  refine s_q hs (c_buildS ty61 bp61 (.cons (hs.ev rfl) (.cons (hs.ev rfl) (.cons (hs.ev rfl) .nil))) ⟨rfl,rfl,rfl,trivial⟩ (by simp [flatCells,Value.cells]) rfl) rfl fun ac hs=>?_
  refine s_alloc hs ty61 rfl fun ac ww g9 hs=>?_
  refine s_storeW (i:=0) hs ty61 rfl rfl rfl (by rfl) (by rfl) (by simp) fun ww hs=>?_
  refine s_end ?_
  replace hs:=hs.sub (F':=[(2,_),(3,_),(4,_),(6,_),(7,_),(8,_),(9,_)]) ⟨rfl,rfl,rfl,rfl,rfl,rfl,rfl,trivial⟩
  refine then_n (wp_seq (wp_seq (wp_reg ?_)))
  refine s_q hs (c_loadW ty33 ag33 (hs.ev rfl) (hs.seg (i:=4) rfl) (by rfl)) rfl fun ac hs=>?_
  refine s_q hs (c_loadW ty61 ag61 (hs.ev rfl) (hs.seg (i:=0) rfl) (by rfl)) rfl fun ac hs=>?_
  refine s_call hs fu75 (.cons (hs.ev rfl) (.cons (hs.ev rfl) .nil)) (proof_Right W S H d mt nid ep sq _) rfl fun ac ww v21 hf hp hs=>?_
  obtain rfl:=hp
  replace hs:=hs [] (.nil _ _)
  refine s_q hs (c_not (hs.ev rfl)) rfl fun ac hs=>?_
  refine s_end ?_
  replace hs:=hs.sub (F':=[(2,_),(3,_),(4,_),(6,_),(7,_),(8,_),(9,_),(22,_)]) ⟨rfl,rfl,rfl,rfl,rfl,rfl,rfl,rfl,trivial⟩
  refine then_n ?_
  refine s_cond hs rfl (fun hc=>?_) (fun hc=>?_)
  · try simp only [z1,z2,z3,z4,z5,z6,z7] at hc
    have hno:clRight W S H d mt nid ep sq=false:=by simpa using hc
    refine wp_seq (wp_reg ?_)
    refine s_q hs (c_buildS ty61 bp61 .nil trivial (by simp [flatCells,Value.cells]) rfl) rfl fun ac hs=>?_
    refine s_q hs (c_buildS ty56 bp56 .nil trivial (by simp [flatCells,Value.cells]) rfl) rfl fun ac hs=>?_
    refine s_storeW (i:=2) hs ty61 rfl rfl rfl (by rfl) (by rfl) (by simp) fun ww hs=>?_
    refine s_storeW (i:=1) hs ty56 rfl rfl rfl (by rfl) (by rfl) (by simp) fun ww hs=>?_
    refine zA hs fun ac hs=>?_
    refine s_end ?_
    replace hs:=hs.sub (F':=[(2,_),(3,_),(4,_),(6,_),(7,_),(8,_),(9,_)]) ⟨rfl,rfl,rfl,rfl,rfl,rfl,rfl,trivial⟩
    refine then_n (wp_ret (then_r ?_))
    refine s_ret hs rfl (.cell (hs.tmp rfl) (run_loadA ty61 ag61 (hs.seg (i:=2) rfl) (by rfl) (by rfl)) (.cell (hs.tmp rfl) (run_loadA ty56 ag56 (hs.seg (i:=1) rfl) (by rfl) (by rfl)) (.tmp (hs.tmp rfl) .nil))) rfl ⟨_,rfl,hs.fr,?_⟩
    exact ⟨[],.inl ⟨hno,rfl,rfl⟩,.nil _ _⟩
  · try simp only [z1,z2,z3,z4,z5,z6,z7] at hc
    have hyes:clRight W S H d mt nid ep sq=true:=by simpa using hc
    refine wp_skip (then_n (wp_seq ?_))
    refine wp_region_rgX (J:=[13,14]) pmix 16 (by kernel_rfl) (by kernel_rfl) rfl rfl hs ?_
    simp only [List.take_succ_cons,List.take_zero]
    refine rg_q (fun ac ww h=>c_loadW ty61 ag61 (h.ev rfl) (h.blk (hs.seg (i:=0) rfl)) (by rfl)) rfl ?_
    refine rg_call fu77 (fun ac ww h=>(.cons (h.ev rfl) .nil)) (fun ww hf=>proof_place d mt nid ep sq _) rfl ?_
    refine rg_q (fun ac ww h=>c_fld fl72_1 (h.ev rfl)) rfl ?_
    refine rg_q (fun ac ww h=>c_fld fl59_2 (h.ev rfl)) rfl ?_
    refine rg_q (fun ac ww h=>c_loadS un3 rfl (h.ev rfl) (h.blk (hs.seg (i:=3) rfl)) rfl) rfl ?_
    refine rg_q (fun ac ww h=>c_fld fl72_2 (h.ev rfl)) rfl ?_
    refine rg_q (fun ac ww h=>c_loadA ty36 rfl (h.ev rfl) (h.blk (hs.seg (i:=3) rfl)) (kn_el hel) (by rw [List.length_map,hel])) rfl ?_
    refine rg_q (fun ac ww h=>c_fld fl33_0 (h.ev rfl)) rfl ?_
    refine rg_q (fun ac ww h=>c_loadS un3 rfl (h.ev rfl) (h.blk (hs.seg (i:=4) rfl)) rfl) rfl ?_
    refine rg_q (fun ac ww h=>c_move (h.ev rfl)) rfl ?_
    refine rg_callE (tupG [.agg ((shL d ep sq mt e W nid).map B).toArray] [I (shE mt W nid)] (rowS (shN mt W nid) (shW d ep sq mt e W nid))) (fun _ _ _ _ _ h=>h) fu76 (fun ac ww h=>?_) rfl ?_
    · exact ⟨_,.cons (h.ev rfl) (.cons (h.ev rfl) (.cons (h.ev rfl) (.cons (h.ev rfl) (.cons (h.ev rfl) (.nil))))),ladder_ShowA d ep sq mt e W nid hel _⟩
    refine rg_moveG rfl rfl rfl ?_
    refine rg_extGc rfl rfl rfl (fun _=>rfl) ?_
    refine rg_extGe rfl rfl rfl rfl ?_
    refine rg_extGc rfl rfl rfl (fun _=>rfl) ?_
    refine rg_alloc ty36 rfl ?_
    refine rg_nil fun ac ww L' hf hfe hs hlk=>?_
    simp only [List.drop_succ_cons,List.drop_zero]
    obtain ⟨v10,L10,M10,h10,e10,⟨v38,L38,M38,h38,e38,⟨v25,L25,M25,h25,e25,⟨v36,L36,M36,h36,e36,rfl,rfl⟩,rfl⟩,rfl⟩,rfl⟩:=hfe
    replace hs:=hs.add h10
    replace hs:=hs.add h38
    replace hs:=hs.add h25
    replace hs:=hs.add h36
    obtain ⟨g10,rfl,rfl⟩:=e10
    obtain ⟨tv36,rfl,e36⟩:=e36
    obtain ⟨-,rfl⟩:=e25
    obtain rfl:=lk_move (j:=11) hlk (by decide) rfl (by kernel_rfl) h25 h36
    obtain ⟨-,rfl⟩:=e38
    obtain rfl:=lk_ext (j:=13) hlk (by decide) rfl (by kernel_rfl) h38 h25 rfl
    obtain rfl:=e36
    refine sk_storeW (i:=0) hs ty36 rfl rfl rfl (by rw [List.length_map,shL_length]) (all_map_B _) rfl (fun ww hs=>late_turn rfl rfl (late_turn rfl rfl (late_nil))) fun ww hs=>?_
    refine zA hs fun ac hs=>?_
    refine zA hs fun ac hs=>?_
    refine s_end ?_
    replace hs:=hs.sub (F':=[(4,_),(6,_),(7,_),(8,_),(9,_),(10,_),(11,_)]) ⟨rfl,rfl,rfl,rfl,rfl,rfl,rfl,trivial⟩
    refine then_n (wp_seq ?_)
    obtain ⟨wad,wcap,rfl,hwc,hwm⟩:=Rd.sl (Rd.of_row (hs.get (i:=1) rfl))
    have hsl:=shL_length d ep sq mt e W nid
    refine wp_region_rgX (J:=[1,2,6]) pmix 7 (by kernel_rfl) (by kernel_rfl) rfl rfl hs ?_
    simp only [List.take_succ_cons,List.take_zero]
    refine rg_q (fun ac ww h=>c_loadW ty61 ag61 (h.ev rfl) (h.blk (hs.seg (i:=2) rfl)) (by rfl)) rfl ?_
    refine rg_q (fun ac ww h=>c_loadW ty36 rfl (h.ev rfl) (h.blk (hs.seg (i:=0) rfl)) (by rw [List.length_map,shL_length])) rfl ?_
    refine rg_q (fun ac ww h=>c_move (h.ev rfl)) rfl ?_
    refine rg_q (fun ac ww h=>c_fld fl72_3 (h.ev rfl)) rfl ?_
    refine rg_q (fun ac ww h=>c_loadS un39 rfl (h.ev rfl) (h.blk (hs.seg (i:=5) rfl)) (kn_path hel)) rfl ?_
    refine rg_callE (rowS np ps) (fun _ _ _ _ _ h=>h) fu81 (fun ac ww h=>?_) rfl ?_
    · exact ⟨_,.cons (h.ev rfl) (.nil),proof_clone np ps _ hpl hnp _ (hqp.fr0 (hs.fr.trans0 h.fr))⟩
    refine rg_eq (fun v L _=>L=[]∧∃ ad cap,v=.agg (((shL d ep sq mt e W nid).map B++[Value.slice wad (shN mt W nid) wcap,Value.slice ad np cap])).toArray) (fun _ _ _ _ _ h=>h) (fun ac ww h=>by
      obtain ⟨v,L',hev,hE,hh⟩:=h.ent (n:=45) rfl rfl
      obtain rfl:=(show L'=_ from hE)
      obtain ⟨ad,cap,rfl,_,_⟩:=Rd.sl (Rd.of_row (hh.holds _ (List.mem_of_getElem? (i:=0) rfl)))
      exact ⟨_,c_buildS (zc:=((shL d ep sq mt e W nid).map B++[Value.slice wad (shN mt W nid) wcap,Value.slice ad np cap])) ty56 bp56 (.cons (h.ev rfl) (.cons (h.ev rfl) (.cons hev .nil))) ⟨(by simp [Value.cells,hsl]),(by simp [Value.cells,hsl]),(by simp [Value.cells,hsl]),trivial⟩ (by simp [flatCells,Value.cells,hsl]) (by simp [flatCells,Value.cells,hsl]),rfl,ad,cap,rfl⟩) rfl ?_
    refine rg_nil fun ac ww L' hf hfe hs hlk=>?_
    simp only [List.drop_succ_cons,List.drop_zero]
    obtain ⟨v46,L46,M46,h46,e46,⟨v45,L45,M45,h45,e45,rfl,rfl⟩,rfl⟩:=hfe
    replace hs:=hs.add h46
    replace hs:=hs.add h45
    obtain ⟨rfl,ad46,cap46,rfl⟩:=e46
    obtain rfl:=e45
    obtain ⟨tad,tcap,rfl,htc,htm⟩:=Rd.sl (Rd.of_row (hs.get (i:=0) rfl))
    have hl46:=lk_build (j:=6) hlk (by decide) rfl (by kernel_rfl) h46 (fun w=>c_buildS (zc:=((shL d ep sq mt e W nid).map B++[Value.slice wad (shN mt W nid) wcap,Value.slice tad np tcap])) ty56 bp56 (.cons (hs.ev rfl) (.cons (hs.ev rfl) (.cons (hs.ev rfl) .nil))) ⟨(by simp [Value.cells,hsl]),(by simp [Value.cells,hsl]),(by simp [Value.cells,hsl]),trivial⟩ (by simp [flatCells,Value.cells,hsl]) (by simp [flatCells,Value.cells,hsl]))
    simp at hl46
    have hl46a:=hl46.1.symm
    have hl46b:=hl46.2.symm
    clear hl46
    subst hl46a
    subst hl46b
    refine sk_storeW (i:=5) hs ty61 rfl rfl rfl (by rfl) (by rfl) (by simp) (fun ww hs=>late_read rfl rfl (hs.know.at_ 41 _ rfl) (c_loadW ty36 rfl (hs.ev rfl) (hs.seg (i:=1) rfl) (by rw [List.length_map,shL_length])) (late_turn rfl rfl (late_read rfl rfl (hs.know.at_ 46 _ rfl) (c_buildS (zc:=((shL d ep sq mt e W nid).map B++[Value.slice wad (shN mt W nid) wcap,Value.slice tad np tcap])) ty56 bp56 (.cons (hs.ev rfl) (.cons (hs.ev rfl) (.cons (hs.ev rfl) .nil))) ⟨(by simp [Value.cells,hsl]),(by simp [Value.cells,hsl]),(by simp [Value.cells,hsl]),trivial⟩ (by simp [flatCells,Value.cells,hsl]) (by simp [flatCells,Value.cells,hsl])) (late_nil)))) fun ww hs=>?_
    refine s_storeW (i:=4) hs ty56 rfl rfl rfl (cred_length hsl _ _) (by simp [Value.oneCell',B]) rfl fun ww hs=>?_
    refine zA hs fun ac hs=>?_
    refine s_end ?_
    replace hs:=hs.sub (F':=[(6,_),(7,_),(8,_)]) ⟨rfl,rfl,rfl,trivial⟩
    refine then_n (wp_ret ?_)
    refine s_ret hs rfl (.cell (hs.tmp rfl) (run_loadA ty61 ag61 (hs.seg (i:=5) rfl) (List.take_of_length_le (by simp [hsl,flatCells,Value.cells])) (by simp [hsl,flatCells,Value.cells])) (.cell (hs.tmp rfl) (run_loadA ty56 ag56 (hs.seg (i:=4) rfl) (List.take_of_length_le (by simp [hsl,flatCells,Value.cells])) (by simp [hsl,flatCells,Value.cells])) (.tmp (hs.tmp rfl) .nil))) rfl ⟨_,rfl,hs.fr,?_⟩
    exact ⟨_,.inr ⟨hyes,_,_,rfl,rfl⟩,(hs.pick (L':=[_,_]) (.cons_cons _ (.cons _ (.cons_cons _ (List.nil_sublist _))))).made⟩
end Go.Proofs.YtklajbdbnnceiaaGreat
end

section
/- Springs as the document has them. -/
namespace Go.Proofs.YtklajbdbnnceiaaGreat
open Go Go.Fw
open Sha
theorem climb_el0 {p:Spr} (hlv:0≤levels p.W) (q n:Nat) (hn:n≤16):climbB p.d p.ep (i32 (q:Int)) (elE p q) 0 (n:Int) p.W=el p q n:=by
  rw [climbB,if_pos (climbOk_iff.2 ⟨by omega,by omega,by omega,hlv⟩),el]
  congr 1
theorem ref06_ClimbEl {p:Spr} (hlv:0≤levels p.W) (q n:Nat) (hn:n≤16) (w:World):Ctr Tryz.prog 71 [.agg #[I p.d,U p.ep,U (i32 (q:Int))],.agg ((elE p q).map B).toArray,I 0,I n,I p.W] w (fun _=>False) fun v _=>v=.tuple #[.agg ((el p q n).map B).toArray,I (climbE 0 n p.W)]:=by
  have h9:=ref06_Climb p.d p.ep (i32 (q:Int)) (elE p q) 0 (n:Int) p.W (elE_length p q) (by omega) (by omega) w
  rw [climb_el0 hlv q n hn] at h9
  exact h9
theorem ref08_Element (p:Spr) (ho:p.Ok) (hlv:0≤levels p.W) (q n:Nat) (hn:n≤16) (w:World) :Ctr Tryz.prog 21 [.agg #[I p.W,I p.S,I p.H],.agg (p.seed.map B).toArray,I p.d,U p.ep,I q,I n] w (fun _=>False) (fun v _=>v=.agg ((el p q n).map B).toArray):=by
  refine fn_start (N:=41) Tryz.func21 rfl rfl rfl fun ac hk=>?_
  have hs:=St.start hk w
  refine wp_seq (wp_reg ?_)
  refine s_box hs rfl rfl rfl fun ac ww g6 hs=>?_
  refine s_box hs rfl rfl rfl fun ac ww g7 hs=>?_
  refine s_alloc hs ty35 rfl fun ac ww g12 hs=>?_
  refine s_end ?_
  replace hs:=hs.sub (F':=[(2,_),(3,_),(4,_),(5,_),(6,_),(7,_),(12,_)]) ⟨rfl,rfl,rfl,rfl,rfl,rfl,rfl,trivial⟩
  refine then_n (wp_seq (wp_reg ?_))
  refine s_q hs (c_loadW ty24 rfl (hs.ev rfl) (hs.seg (i:=1) rfl) (by rw [List.length_map,ho.seed])) rfl fun ac hs=>?_
  refine zM hs fun ac hs=>?_
  refine s_q hs (c_cvIV un3 un124 (hs.ev rfl)) rfl fun ac hs=>?_
  refine zM hs fun ac hs=>?_
  refine s_q hs (c_cvUV un25 un124 (hs.ev rfl)) rfl fun ac hs=>?_
  refine zM hs fun ac hs=>?_
  refine s_q hs (c_cvIV un3 un124 (hs.ev rfl)) rfl fun ac hs=>?_
  refine s_bslice hs un155 ty124 (.cons (hs.ev rfl) (.cons (hs.ev rfl) (.cons (hs.ev rfl) .nil))) rfl (by simp [Value.cells]) (by decide) rfl rfl fun ac ww g24 hs=>?_
  refine s_call hs fu70 (.cons (hs.ev rfl) (.cons (hs.ev rfl) (.cons (hs.ev rfl) .nil))) (ref05_Prf p.seed 69 [i64 p.d,p.ep.toUInt64,i64 (q:Int)] _ ho.seed (by show 3≤17592186044000; decide) _ (RdV.seg (l:=[i64 p.d,p.ep.toUInt64,i64 (q:Int)]) (hs.seg (i:=0) rfl) (by show 3≤maxLen; decide))) rfl fun ac ww v25 hf hp hs=>?_
  obtain rfl:=hp
  replace hs:=hs [] (.nil _ _)
  refine s_alloc hs ty35 rfl fun ac ww g13 hs=>?_
  refine s_storeW (i:=0) hs ty35 rfl rfl rfl (by rw [List.length_map]; exact elE_length p q) (all_map_B _) rfl fun ww hs=>?_
  refine s_end ?_
  replace hs:=hs.sub (F':=[(2,_),(3,_),(4,_),(5,_),(6,_),(12,_),(13,_)]) ⟨rfl,rfl,rfl,rfl,rfl,rfl,rfl,trivial⟩
  refine then_n (wp_seq (wp_reg ?_))
  refine zM hs fun ac hs=>?_
  refine zM hs fun ac hs=>?_
  refine zM hs fun ac hs=>?_
  refine s_q hs (c_cvIU un3 un25 (hs.ev rfl)) rfl fun ac hs=>?_
  refine s_q hs (c_buildS ty157 bp157 (.cons (hs.ev rfl) (.cons (hs.ev rfl) (.cons (hs.ev rfl) .nil))) ⟨rfl,rfl,rfl,trivial⟩ (by simp [flatCells,Value.cells]) rfl) rfl fun ac hs=>?_
  refine s_alloc hs ty157 rfl fun ac ww g14 hs=>?_
  refine s_storeW (i:=0) hs ty157 rfl rfl rfl (by rfl) (by rfl) (by simp) fun ww hs=>?_
  refine s_end ?_
  replace hs:=hs.sub (F':=[(5,_),(6,_),(12,_),(13,_),(14,_)]) ⟨rfl,rfl,rfl,rfl,rfl,trivial⟩
  refine then_n (wp_seq (wp_reg ?_))
  refine s_q hs (c_loadW ty157 ag157 (hs.ev rfl) (hs.seg (i:=0) rfl) (by rfl)) rfl fun ac hs=>?_
  refine s_q hs (c_loadW ty35 rfl (hs.ev rfl) (hs.seg (i:=1) rfl) (by rw [List.length_map]; exact elE_length p q)) rfl fun ac hs=>?_
  refine zM hs fun ac hs=>?_
  refine s_q hs (c_fld fl23_0 (hs.ev rfl)) rfl fun ac hs=>?_
  refine s_q hs (c_loadS un3 rfl (hs.ev rfl) (hs.seg (i:=5) rfl) rfl) rfl fun ac hs=>?_
  refine s_call hs fu71 (.cons (hs.ev rfl) (.cons (hs.ev rfl) (.cons (hs.ev rfl) (.cons (hs.ev rfl) (.cons (hs.ev rfl) .nil))))) (ref06_ClimbEl hlv q n hn _) rfl fun ac ww v37 hf hp hs=>?_
  obtain rfl:=hp
  replace hs:=hs [] (.nil _ _)
  refine zM hs fun ac hs=>?_
  refine s_q hs (c_extract (hs.ev rfl) rfl) rfl fun ac hs=>?_
  refine s_q hs (c_extract (hs.ev rfl) rfl) rfl fun ac hs=>?_
  refine s_alloc hs ty35 rfl fun ac ww g15 hs=>?_
  refine s_storeW (i:=0) hs ty35 rfl rfl rfl (by rw [List.length_map,el_length]) (all_map_B _) rfl fun ww hs=>?_
  refine zA hs fun ac hs=>?_
  refine s_end ?_
  replace hs:=hs.sub (F':=[(12,_),(15,_)]) ⟨rfl,rfl,trivial⟩
  refine then_n (wp_seq (wp_reg ?_))
  refine s_q hs (c_loadW ty35 rfl (hs.ev rfl) (hs.seg (i:=0) rfl) (by rw [List.length_map,el_length])) rfl fun ac hs=>?_
  refine s_storeW (i:=4) hs ty35 rfl rfl rfl (by rw [List.length_map,el_length]) (all_map_B _) rfl fun ww hs=>?_
  refine s_end ?_
  replace hs:=hs.sub (F':=[(12,_)]) ⟨rfl,trivial⟩
  refine then_n (wp_ret ?_)
  refine s_ret hs rfl (.cell (hs.tmp rfl) (run_loadA ty35 rfl (hs.seg (i:=4) rfl) (List.take_of_length_le (show (List.map B (el p q n)).length≤16 by rw [List.length_map,el_length]; exact Nat.le_refl _)) (show (List.map B (el p q n)).length=16 by rw [List.length_map,el_length])) .nil) rfl ⟨_,rfl,hs.fr,?_⟩
  rfl
theorem ref08_Ends (p:Spr) (ho:p.Ok) (hlv:0≤levels p.W) (w:World) :Ctr Tryz.prog 69 [.agg #[I p.W,I p.S,I p.H],.agg (p.seed.map B).toArray,I p.d,U p.ep] w (fun _=>False) (outE (rowS' p.m (ends p p.m)) w):=by
  refine fn_start (N:=29) Tryz.func69 rfl rfl rfl fun ac hk=>?_
  have hs:=St.start hk w
  refine wp_seq (wp_reg ?_)
  refine s_box hs rfl rfl rfl fun ac ww g4 hs=>?_
  refine s_box hs rfl rfl rfl fun ac ww g5 hs=>?_
  refine zA hs fun ac hs=>?_
  refine s_end ?_
  replace hs:=hs.sub (F':=[(2,_),(3,_),(4,_),(5,_),(8,_)]) ⟨rfl,rfl,rfl,rfl,rfl,trivial⟩
  refine then_n (wp_seq (wp_reg ?_))
  refine zA hs fun ac hs=>?_
  refine s_end ?_
  replace hs:=hs.nilrow 35 16
  refine then_n (wp_seq (wp_seq (wp_reg ?_)))
  refine zA hs fun ac hs=>?_
  refine s_end (then_n (wp_block ?_))
  refine s_loop hs (X:=Nat × Value) (fun x=>[(9,x.2),(10,I x.1)]) [(2,_),(3,_),(4,_),(5,_),(8,_)] (fun x=>[.row x.2 x.1 ((ends p x.1).map B) 35 16,_,_]) (fun m x=>x.1≤p.m∧m=p.m - x.1) (_) ((0,_)) (⟨Nat.zero_le _,rfl⟩) ⟨rfl,rfl,rfl,rfl,rfl,rfl,rfl,trivial⟩ rfl ?_
  rintro n ⟨k,v⟩ ac ww hok hs
  simp only [List.cons_append,List.nil_append] at hs
  obtain ⟨hk,rfl⟩:=hok
  simp only at hk hs
  have hm64:=ho.m64
  have hs16:=ho.s16
  have hcl:=ends_length p k
  refine wp_seq (wp_seq (wp_reg ?_))
  refine zM hs fun ac hs=>?_
  refine s_q hs (c_loadW ty23 ag23 (hs.ev rfl) (hs.seg (i:=2) rfl) (by rfl)) rfl fun ac hs=>?_
  refine s_call hs fu18 (.cons (hs.ev rfl) .nil) (ref08_Many p.W p.S p.H ho.h6 _) rfl fun ac ww v13 hf hp hs=>?_
  obtain rfl:=hp
  replace hs:=hs [] (.nil _ _)
  refine s_q hs (c_lssI (hs.ev rfl) (hs.ev rfl)) rfl fun ac hs=>?_
  refine s_end (then_n ?_)
  refine s_cond hs rfl (fun hc=>?_) (fun hc=>?_)
  · try simp only [z1,z2,z3,z4,z5,z6,z7] at hc
    have hkn:k < p.m:=by unfold Spr.m; omega
    refine wp_skip (then_n (wp_seq (wp_block (wp_reg ?_))))
    refine zM hs fun ac hs=>?_
    refine s_q hs (c_loadW ty23 ag23 (hs.ev rfl) (hs.seg (i:=2) rfl) (by rfl)) rfl fun ac hs=>?_
    refine s_q hs (c_loadW ty24 rfl (hs.ev rfl) (hs.seg (i:=1) rfl) (by rw [List.length_map,ho.seed])) rfl fun ac hs=>?_
    refine zM hs fun ac hs=>?_
    refine zM hs fun ac hs=>?_
    refine zM hs fun ac hs=>?_
    refine s_q hs (c_fld fl23_1 (hs.ev rfl)) rfl fun ac hs=>?_
    refine s_q hs (c_loadS un3 rfl (hs.ev rfl) (hs.seg (i:=2) rfl) rfl) rfl fun ac hs=>?_
    refine s_call hs fu21 (.cons (hs.ev rfl) (.cons (hs.ev rfl) (.cons (hs.ev rfl) (.cons (hs.ev rfl) (.cons (hs.ev rfl) (.cons (hs.ev rfl) .nil)))))) (ref08_Element p ho hlv k p.S hs16 _) rfl fun ac ww v25 hf hp hs=>?_
    obtain rfl:=hp
    replace hs:=hs [] (.nil _ _)
    refine s_bslice hs un47 ty35 (.cons (hs.ev rfl) .nil) rfl (by intro v hv; simp only [List.mem_singleton] at hv; subst hv; simp [Value.cells,el_length]) (by decide) (show _=(el p k p.S).map B by simp [flatCells,Value.cells]) rfl fun ac ww g26 hs=>?_
    refine s_append (i:=1) hs un47 ty35 (by decide) rfl rfl rfl (Rd.of_seg (n:=1) (hs.seg (i:=0) rfl) (Nat.le_refl _) (by decide) (List.take_of_length_le (by simp))) (by rw [List.length_map,el_length]) (all_map_B _) (by unfold maxLen; omega) (by omega) rfl fun ac ww v27 hf hnil hs=>?_
    refine zA hs fun ac hs=>?_
    refine s_end (blk_n (then_n (wp_reg ?_)))
    refine zM hs fun ac hs=>?_
    refine s_q hs (c_addI (hs.ev rfl) (hs.ev rfl) (by omega) (by omega)) rfl fun ac hs=>?_
    refine zA hs fun ac hs=>?_
    refine s_end (then_n ?_)
    replace hs:=hs.pick (L':=[_,_,_]) (.cons _ (.refl _))
    exact ⟨p.m - (k + 1),by (try simp only); omega,(k + 1,_),⟨by (try simp only); omega,rfl⟩,St.next hs ⟨rfl,rfl,rfl,rfl,rfl,rfl,rfl,trivial⟩ (by rw [ends_succ,List.map_append]; try rfl)⟩
  · try simp only [z1,z2,z3,z4,z5,z6,z7] at hc
    have hmm:p.m=2 ^ p.H:=rfl
    obtain rfl:k=p.m:=by omega
    refine wp_exit (then_e (then_e (blk_hit (then_n (wp_seq (wp_reg ?_))))))
    refine zM hs fun ac hs=>?_
    refine zA hs fun ac hs=>?_
    refine s_end ?_
    replace hs:=hs.sub (F':=[(8,_)]) ⟨rfl,trivial⟩
    refine then_n (wp_ret ?_)
    refine s_ret hs rfl (.tmp (hs.tmp rfl) .nil) rfl ⟨_,rfl,hs.fr,?_⟩
    exact ⟨_,rfl,(hs.pick (L':=[_]) (.cons_cons _ (List.nil_sublist _))).made⟩
theorem rt_length (p:Spr):(gNode p.d p.ep (ends p p.m) p.H 0).length=16:=gNode_length (by rw [ends_length]) p.H 0 (by unfold Spr.m; omega)
end Go.Proofs.YtklajbdbnnceiaaGreat
end

section
/- Credentials as the document has them. -/
namespace Go.Proofs.YtklajbdbnnceiaaGreat
open Go Go.Fw
open Sha
def crE (T:TypeId) (lf:List UInt8) (nw:Nat) (ws:List UInt8) (np:Nat) (ps:List UInt8):Value→List Ent→World→Prop:=fun v L _ =>
  ∃ wv pv,v=credV lf wv pv∧L=[.row pv np (ps.map B) T 16,.row wv nw (ws.map B) T 16]
theorem ref09_Place (d mt sn:Int) (ep sq:UInt32) (w:World) :Ctr Tryz.prog 80 [.agg #[I d,U ep,U sq,I mt,I sn]] w (fun _=>False) (fun v _=>v=.agg #[I d,U ep,U sq]):=by
  refine fn_start (N:=12) Tryz.func80 rfl rfl rfl fun ac hk=>?_
  have hs:=St.start hk w
  refine wp_seq (wp_reg ?_)
  refine s_box hs rfl rfl rfl fun ac ww g1 hs=>?_
  refine s_alloc hs ty157 rfl fun ac ww g2 hs=>?_
  refine s_end ?_
  replace hs:=hs.sub (F':=[(1,_),(2,_)]) ⟨rfl,rfl,trivial⟩
  refine then_n (wp_seq (wp_reg ?_))
  refine s_q hs (c_fld fl54_0 (hs.ev rfl)) rfl fun ac hs=>?_
  refine s_q hs (c_loadS un3 rfl (hs.ev rfl) (hs.seg (i:=1) rfl) rfl) rfl fun ac hs=>?_
  refine s_q hs (c_fld fl54_1 (hs.ev rfl)) rfl fun ac hs=>?_
  refine s_q hs (c_fld fl52_0 (hs.ev rfl)) rfl fun ac hs=>?_
  refine s_q hs (c_loadS un25 rfl (hs.ev rfl) (hs.seg (i:=1) rfl) rfl) rfl fun ac hs=>?_
  refine s_q hs (c_fld fl54_1 (hs.ev rfl)) rfl fun ac hs=>?_
  refine s_q hs (c_fld fl52_1 (hs.ev rfl)) rfl fun ac hs=>?_
  refine s_q hs (c_loadS un25 rfl (hs.ev rfl) (hs.seg (i:=1) rfl) rfl) rfl fun ac hs=>?_
  refine s_q hs (c_buildS ty157 bp157 (.cons (hs.ev rfl) (.cons (hs.ev rfl) (.cons (hs.ev rfl) .nil))) ⟨rfl,rfl,rfl,trivial⟩ (by simp [flatCells,Value.cells]) rfl) rfl fun ac hs=>?_
  refine s_storeW (i:=0) hs ty157 rfl rfl rfl (by rfl) (by rfl) (by simp) fun ww hs=>?_
  refine s_end ?_
  replace hs:=hs.sub (F':=[(2,_)]) ⟨rfl,trivial⟩
  refine then_n (wp_ret ?_)
  refine s_ret hs rfl (.cell (hs.tmp rfl) (run_loadA ty157 ag157 (hs.seg (i:=0) rfl) rfl (by rfl)) .nil) rfl ⟨_,rfl,hs.fr,?_⟩
  rfl
theorem law09_Light (lf ws ps:List UInt8) (nw np:Nat) (wv pv:Value) (hlf:lf.length=16) (w:World) (hqw:Rd w wv nw (ws.map B)) (hqp:Rd w pv np (ps.map B)):Ctr Tryz.prog 32 [credV lf wv pv] w (fun _=>False) (fun v _=>v=.bool (decide (nw≤20) && decide (np≤20))):=by
  have hnwl:=hqw.le
  have hnpl:=hqp.le
  obtain ⟨wad,wcap,rfl,hwc,hwm⟩:=Rd.sl hqw
  obtain ⟨pad,pcap,rfl,hpc,hpm⟩:=Rd.sl hqp
  refine fn_start (N:=13) Tryz.func32 rfl rfl rfl fun ac hk=>?_
  have hs:=St.start hk w
  refine wp_seq (wp_reg ?_)
  refine s_box hs rfl rfl rfl fun ac ww g1 hs=>?_
  refine zA hs fun ac hs=>?_
  refine s_end ?_
  replace hs:=hs.sub (F':=[(1,_),(2,_)]) ⟨rfl,rfl,trivial⟩
  refine then_n (wp_seq (wp_reg ?_))
  refine s_q hs (c_fld fl66_1 (hs.ev rfl)) rfl fun ac hs=>?_
  refine s_q hs (c_loadS un47 rfl (hs.ev rfl) (hs.seg (i:=0) rfl) (cred_way hlf _ _)) rfl fun ac hs=>?_
  refine s_q hs (c_lenS un47 (hs.ev rfl)) rfl fun ac hs=>?_
  refine s_q hs (c_to (c_leqI (hs.ev rfl) (hs.ev rfl)) ((congrArg (fun b:Bool=>Value.bool b) (show decide ((nw:Int)≤20)=decide (nw≤20) by simp; omega)))) rfl fun ac hs=>?_
  refine zM hs fun ac hs=>?_
  refine s_g hs rfl rfl (fun hg=>c_fld fl66_2 (hs.ev rfl)) rfl fun ac hs=>?_
  refine s_g hs rfl rfl (fun hg=>c_loadS un47 rfl (gev (hs.ev rfl) hg) (hs.seg (i:=0) rfl) (cred_path hlf _ _)) rfl fun ac hs=>?_
  refine s_g hs rfl rfl (fun hg=>c_lenS un47 (gev (hs.ev rfl) hg)) rfl fun ac hs=>?_
  refine s_g hs rfl rfl (fun hg=>c_to (c_leqI (gev (hs.ev rfl) hg) (hs.ev rfl)) ((congrArg (fun b:Bool=>Value.bool b) (show decide ((np:Int)≤20)=decide (np≤20) by simp; omega)))) rfl fun ac hs=>?_
  refine s_q hs (c_and (hs.ev rfl) (hs.ev rfl)) rfl fun ac hs=>?_
  refine zA hs fun ac hs=>?_
  refine s_end ?_
  replace hs:=hs.sub (F':=[(2,_)]) ⟨rfl,trivial⟩
  refine then_n (wp_ret ?_)
  refine s_ret hs rfl (.tmp (hs.tmp rfl) .nil) rfl ⟨_,rfl,hs.fr,?_⟩
  rfl
theorem law09_ToCred (lf ws ps:List UInt8) (nw np:Nat) (wv pv:Value) (hlf:lf.length=16) (hwl:ws.length=nw * 16) (hpl:ps.length=np * 16) (hnw:nw≤1000000) (hnp:np≤1000000) (w:World) (hqw:Rd w wv nw (ws.map B)) (hqp:Rd w pv np (ps.map B)):Ctr Tryz.prog 34 [credV lf wv pv] w (fun _=>False) (outE (crE 36 lf nw ws np ps) w):=by
  have hnwl:=hqw.le
  have hnpl:=hqp.le
  obtain ⟨wad,wcap,rfl,hwc,hwm⟩:=Rd.sl hqw
  obtain ⟨pad,pcap,rfl,hpc,hpm⟩:=Rd.sl hqp
  refine fn_start (N:=12) Tryz.func34 rfl rfl rfl fun ac hk=>?_
  have hs:=St.start hk w
  refine wp_seq (wp_reg ?_)
  refine s_box hs rfl rfl rfl fun ac ww g1 hs=>?_
  refine s_alloc hs ty56 rfl fun ac ww g2 hs=>?_
  refine s_end ?_
  replace hs:=hs.sub (F':=[(1,_),(2,_)]) ⟨rfl,rfl,trivial⟩
  refine then_n (wp_seq ?_)
  refine wp_region_rg pmix 8 (by kernel_rfl) rfl hs ?_
  simp only [List.take_succ_cons,List.take_zero]
  refine rg_q (fun ac ww h=>c_fld fl66_0 (h.ev rfl)) rfl ?_
  refine rg_q (fun ac ww h=>c_loadA ty35 rfl (h.ev rfl) (h.blk (hs.seg (i:=1) rfl)) (cred_leaf hlf _ _) (show (List.map B lf).length=16 by rw [List.length_map,hlf])) rfl ?_
  refine rg_q (fun ac ww h=>c_fld fl66_1 (h.ev rfl)) rfl ?_
  refine rg_q (fun ac ww h=>c_loadS un47 rfl (h.ev rfl) (h.blk (hs.seg (i:=1) rfl)) (cred_way hlf _ _)) rfl ?_
  refine rg_callE (rowS nw ws) (fun _ _ _ _ _ h=>h) fu82 (fun ac ww h=>?_) rfl ?_
  · exact ⟨_,.cons (h.ev rfl) (.nil),law03_To nw ws _ hwl hnw _ (hqw.fr0 (hs.fr.trans0 h.fr))⟩
  refine rg_q (fun ac ww h=>c_fld fl66_2 (h.ev rfl)) rfl ?_
  refine rg_q (fun ac ww h=>c_loadS un47 rfl (h.ev rfl) (h.blk (hs.seg (i:=1) rfl)) (cred_path hlf _ _)) rfl ?_
  refine rg_callE (rowS np ps) (fun _ _ _ _ _ h=>h) fu82 (fun ac ww h=>?_) rfl ?_
  · exact ⟨_,.cons (h.ev rfl) (.nil),law03_To np ps _ hpl hnp _ (hqp.fr0 (hs.fr.trans0 h.fr))⟩
  refine rg_nil fun ac ww L' hf hfe hs=>?_
  simp only [List.drop_succ_cons,List.drop_zero]
  obtain ⟨v10,L10,M10,h10,e10,⟨v7,L7,M7,h7,e7,rfl,rfl⟩,rfl⟩:=hfe
  replace hs:=hs.add h10
  replace hs:=hs.add h7
  obtain rfl:=e7
  obtain rfl:=e10
  obtain ⟨wad2,wcap2,rfl,hwc2,hwm2⟩:=Rd.sl (Rd.of_row (hs.get (i:=1) rfl))
  obtain ⟨pad2,pcap2,rfl,hpc2,hpm2⟩:=Rd.sl (Rd.of_row (hs.get (i:=0) rfl))
  refine s_q hs (c_buildS (zc:=lf.map B++[.slice wad2 nw wcap2,.slice pad2 np pcap2]) ty56 bp56 (.cons (hs.ev rfl) (.cons (hs.ev rfl) (.cons (hs.ev rfl) .nil))) ⟨(by simp [Value.cells,hlf]),(by simp [Value.cells,hlf]),(by simp [Value.cells,hlf]),trivial⟩ (by simp [flatCells,Value.cells,hlf]) (by simp [flatCells,Value.cells,hlf])) rfl fun ac hs=>?_
  refine s_storeW (i:=2) hs ty56 rfl rfl rfl (by simp [hlf]) (by simp [Value.oneCell',B]) rfl fun ww hs=>?_
  refine s_end ?_
  replace hs:=hs.sub (F':=[(2,_)]) ⟨rfl,trivial⟩
  refine then_n (wp_ret ?_)
  refine s_ret hs rfl (.cell (hs.tmp rfl) (run_loadA ty56 ag56 (hs.seg (i:=2) rfl) (List.take_of_length_le (by simp [hlf])) (by simp [hlf])) .nil) rfl ⟨_,rfl,hs.fr,?_⟩
  exact ⟨_,⟨_,_,rfl,rfl⟩,(hs.pick (L':=[_,_]) (.cons_cons _ (.cons_cons _ (List.nil_sublist _)))).made⟩
end Go.Proofs.YtklajbdbnnceiaaGreat
end

section
/- Whoever shows a claim shows what the spring issues,or two unlike texts have one short sum. -/
namespace Go.Proofs.YtklajbdbnnceiaaGreat
open Go Go.Fw
open Sha
theorem clash_mono {a b a' b':List (List UInt8)} (h:clash a b=true) (ha:∀ x∈a,x∈a') (hb:∀ y∈b,y∈b'):clash a' b'=true:=by
  unfold clash at h ⊢
  obtain ⟨x,hx,h⟩:=List.any_eq_true.1 h
  obtain ⟨y,hy,h⟩:=List.any_eq_true.1 h
  exact List.any_eq_true.2 ⟨x,ha x hx,List.any_eq_true.2 ⟨y,hb y hy,h⟩⟩
theorem leafX_inj {d:Int} {ep sq:UInt32} {r:Int} {e e':List UInt8} {id:Int} (he:e.length=16) (he':e'.length=16) (h:leafX d ep sq r e id=leafX d ep sq r e' id):e=e':=by
  have h2:=(List.cons.inj h).2
  rw [List.append_assoc,List.append_assoc] at h2
  exact (List.append_inj (List.append_cancel_left h2) (by omega)).1
theorem lnode_inj {d:Int} {ep sq:UInt32} {r:Int} {e e':List UInt8} (he:e.length=16) (he':e'.length=16):∀ n,lNode d ep sq r e n 0=lNode d ep sq r e' n 0→(∀ x∈lNodeTs d ep sq r e n 0,∀ y∈lNodeTs d ep sq r e' n 0,ofT x=ofT y→x=y)→e=e'
  | 0,h,hc=>leafX_inj he he' (hc _ (List.mem_singleton.2 rfl) _ (List.mem_singleton.2 rfl) h)
  | n + 1,h,hc=>by
    have h1:=hc _ (List.mem_append.2 (.inr (List.mem_singleton.2 rfl))) _ (List.mem_append.2 (.inr (List.mem_singleton.2 rfl))) h
    have h2:=(joinX_inj (lNode_length _ _ _ _ _ _ _) (lNode_length _ _ _ _ _ _ _) h1).1
    exact lnode_inj he he' n h2 fun x hx y hy=>hc x (List.mem_append.2 (.inl (List.mem_append.2 (.inl hx)))) y (List.mem_append.2 (.inl (List.mem_append.2 (.inl hy))))
def rungTs (d:Int) (ep sq:UInt32) (lv m:Nat) (f:Nat→List UInt8):Nat→List (List UInt8)
  | 0=>[]
  | n + 1=>rungTs d ep sq lv m f n++lNodeTs d ep sq ((m + n:Nat):Int) (f n) lv 0
theorem rungTs_mem {d:Int} {ep sq:UInt32} {lv m:Nat} {f:Nat→List UInt8} {k:Nat} {x:List UInt8} (hx:x∈lNodeTs d ep sq ((m + k:Nat):Int) (f k) lv 0):∀ n,k < n→x∈rungTs d ep sq lv m f n
  | 0,h=>absurd h (by omega)
  | n + 1,h=>by
    by_cases e:k=n
    · subst e; exact List.mem_append.2 (.inr hx)
    · exact List.mem_append.2 (.inl (rungTs_mem hx n (by omega)))
section
variable {p:Spr} {m:Nat} {sn:Int} {sq:UInt32} {lf ws ps:List UInt8} {nw np:Nat}
def lvOf (p:Spr):Nat:=(levels p.W).toNat
def txs (p:Spr) (m:Nat) (sq:UInt32):List (List UInt8):=rungTs p.d p.ep sq (lvOf p) m (fun n=>el p sq.toNat (m + n)) (p.S - m)++gNodeTs p.d p.ep (ends p p.m) p.H 0
def nxt (p:Spr) (m:Nat) (sn:Int) (sq:UInt32) (lf ws:List UInt8) (nw:Nat):List UInt8:=rsB p.d p.ep sq (m:Int) p.W sn lf ws nw
def cl (p:Spr) (m:Nat) (sq:UInt32) (nx:List UInt8) (n:Nat):List UInt8:=climbN p.d p.ep sq nx ((m + 1:Nat):Int) p.W n
theorem cl_length {nx:List UInt8} (h:nx.length=16) (n:Nat):(cl p m sq nx n).length=16:=climbN_length h n
def cks (p:Spr) (m:Nat) (sn:Int) (sq:UInt32) (lf ws:List UInt8) (nw:Nat) (ps:List UInt8) (np:Nat):List (List UInt8) :=
  rsX p.d p.ep sq (m:Int) p.W sn lf ws nw++rungTs p.d p.ep sq (lvOf p) (m + 1) (cl p m sq (nxt p m sn sq lf ws nw)) (p.S - (m + 1))++foldX p.d p.ep (sq.toNat:Int) (cl p m sq (nxt p m sn sq lf ws nw) (p.S - (m + 1))) ps np
theorem up_node {k:Nat} (hlv:0≤levels p.W) (hk:k≤15) (e:List UInt8):upB p.d p.ep sq (k:Int) e p.W=lNode p.d p.ep sq (k:Int) e (lvOf p) 0:=by
  rw [upB,if_pos (by simp only [rightB,Bool.and_eq_true,decide_eq_true_eq]; omega)]
  rfl
theorem el_up (hlv:0≤levels p.W) {k:Nat} (hk:k≤15):el p sq.toNat (k + 1)=lNode p.d p.ep sq (k:Int) (el p sq.toNat k) (lvOf p) 0:=by
  rw [el_succ,i32_seq,up_node hlv hk]
theorem cl_up (hlv:0≤levels p.W) {nx:List UInt8} {n:Nat} (hk:m + 1 + n≤15):cl p m sq nx (n + 1)=lNode p.d p.ep sq ((m + 1 + n:Nat):Int) (cl p m sq nx n) (lvOf p) 0:=by
  rw [← up_node hlv hk]
  show upB _ _ _ (((m + 1:Nat):Int) + (n:Int)) _ _=_
  rw [show ((m + 1:Nat):Int) + (n:Int)=((m + 1 + n:Nat):Int) by push_cast; rfl]
  rfl
theorem climb_cl (hlv:0≤levels p.W) {nx:List UInt8} (hS:p.S≤16) (hm:m + 1≤p.S):climbB p.d p.ep sq nx ((m:Int) + 1) (p.S:Int) p.W=cl p m sq nx (p.S - (m + 1)):=by
  rw [climbB,if_pos (climbOk_iff.2 (by omega)),cl,show ((p.S:Int) - ((m:Int) + 1)).toNat=p.S - (m + 1) by omega]
  push_cast
  rfl
theorem sound_shown (ho:p.Ok) (hcr:clRight p.W p.S p.H p.d m sn p.ep sq=true) (hlf:lf.length=16) (hwl:ws.length=nw * 16) (hpl:ps.length=np * 16)
    (hck:(ckR p.W p.S p.H p.d m sn p.ep sq (hRt p) lf ws nw ps np).2=0) (hno:clash (txs p m sq) (cks p m sn sq lf ws nw ps np)=false) :
    lf=hLf p m sn sq∧ws=hWs p m sn sq∧ps=hPs p sq:=by
  obtain ⟨hR,hd0,hdW,hsn0,hsnW,hep,hsq,hmt0,hmtS⟩:=clRight_iff.1 hcr
  obtain ⟨hlv,hS1,hS16,hH0,hH6⟩:=spRight_iff.1 hR
  have hok:=clR_okS hcr
  have hsqm:=seq_lt hcr
  unfold ckR at hck
  rw [if_pos hcr] at hck
  by_cases hnp:(np:Int)=(p.H:Int)
  · rw [if_pos hnp] at hck
    obtain rfl:np=p.H:=by omega
    by_cases hre:rsE (m:Int) p.W sn nw=0
    · rw [if_pos hre] at hck
      by_cases hck2:chkB p.d p.ep p.H (hRt p) (sq.toNat:Int) (climbB p.d p.ep sq (rsB p.d p.ep sq m p.W sn lf ws nw) ((m:Int) + 1) p.S p.W) ps p.H=true
      · -- the path
        have hnl:(nxt p m sn sq lf ws nw).length=16:=rsB_length hlf _
        have hcc:=climb_cl (p:=p) (m:=m) (sq:=sq) hlv (nx:=nxt p m sn sq lf ws nw) (by omega) (by omega)
        have hcc':climbB p.d p.ep sq (rsB p.d p.ep sq m p.W sn lf ws nw) ((m:Int) + 1) p.S p.W=cl p m sq (nxt p m sn sq lf ws nw) (p.S - (m + 1)):=hcc
        rw [hcc'] at hck2
        simp only [chkB,Bool.and_eq_true,decide_eq_true_eq] at hck2
        obtain ⟨⟨_,hfe⟩,hfb⟩:=hck2
        have hfo:foldOk (sq.toNat:Int) p.H=true:=by
          rw [← Bool.not_eq_false]
          intro h
          rw [foldE,h] at hfe
          cases hfe
        rw [foldB,if_pos hfo,Int.toNat_natCast] at hfb
        have hq2:sq.toNat < 2 ^ p.H:=hsqm
        have hls:(ends p p.m).length=16 * 2 ^ p.H:=by rw [ends_length]; rfl
        have hX:foldX p.d p.ep (sq.toNat:Int) (cl p m sq (nxt p m sn sq lf ws nw) (p.S - (m + 1))) ps p.H=gRiseTs p.d p.ep sq.toNat (cl p m sq (nxt p m sn sq lf ws nw) (p.S - (m + 1))) ps p.H:=by
          rw [foldX,if_pos hfo,Int.toNat_natCast]
        have h1:cl p m sq (nxt p m sn sq lf ws nw) (p.S - (m + 1))=chunk (ends p p.m) sq.toNat∧ps=gPath p.d p.ep (ends p p.m) sq.toNat p.H:=by
          apply Classical.byContradiction
          intro hne
          have h2:=grove_sound hls (cl_length hnl _) hpl hq2 hfb hne
          have h3:=clash_mono (a':=txs p m sq) (b':=cks p m sn sq lf ws nw ps p.H) h2 (fun x hx=>List.mem_append.2 (.inr hx)) (fun y hy=>List.mem_append.2 (.inr (by rw [hX]; exact hy)))
          rw [hno] at h3
          cases h3
        rw [end_chunk hsqm] at h1
        -- down the ladder
        have down:∀ j,j≤p.S - (m + 1)→cl p m sq (nxt p m sn sq lf ws nw) (p.S - (m + 1) - j)=el p sq.toNat (p.S - j):=by
          intro j
          induction j with
          | zero=>intro _; exact h1.1
          | succ j ih =>
            intro hj
            have h2:=ih (by omega)
            obtain ⟨n,hn⟩:∃ n,p.S - (m + 1) - j=n + 1:=⟨p.S - (m + 1) - j - 1,by omega⟩
            rw [hn,cl_up hlv (by omega),show p.S - j=(m + 1 + n) + 1 by omega,el_up hlv (by omega)] at h2
            rw [show p.S - (m + 1) - (j + 1)=n by omega,show p.S - (j + 1)=m + 1 + n by omega]
            refine (lnode_inj (el_length _ _ _) (cl_length hnl _) _ h2.symm fun x hx y hy e=>clash_not hno (List.mem_append.2 (.inl ?_)) (List.mem_append.2 (.inl (List.mem_append.2 (.inr ?_)))) e).symm
            · refine rungTs_mem (k:=1 + n) ?_ _ (by omega)
              rw [show m + (1 + n)=m + 1 + n by omega]
              exact hx
            · exact rungTs_mem (k:=n) hy _ (by omega)
        have h3:=down (p.S - (m + 1)) (Nat.le_refl _)
        rw [Nat.sub_self,show p.S - (p.S - (m + 1))=m + 1 by omega] at h3
        have h4:rsB p.d p.ep sq (m:Int) p.W sn lf ws nw=el p sq.toNat (m + 1):=h3
        -- the leaf and the way
        obtain ⟨lv,W,q,g1,g2,g3,g4,g5,g6,g7⟩:=okS_spec hok
        have hlve:(levels p.W).toNat=lv:=by rw [g4]; rfl
        have hsnq:sn.toNat=q:=by rw [g5]; rfl
        rw [rsE,if_pos hok,hlve,riseE] at hre
        have hnw:nw=lv:=by
          apply Classical.byContradiction
          intro h
          rw [if_neg h] at hre
          cases hre
        subst hnw
        have hri:rsB p.d p.ep sq (m:Int) p.W sn lf ws nw=lRise p.d p.ep sq (m:Int) q lf ws nw:=by rw [rsB,if_pos hok,hlve,hsnq,riseB,if_pos rfl]
        have hrx:rsX p.d p.ep sq (m:Int) p.W sn lf ws nw=lRiseTs p.d p.ep sq (m:Int) q lf ws nw:=by rw [rsX,if_pos hok,hlve,hsnq,riseX,if_pos rfl]
        rw [hri,el_up hlv (by omega)] at h4
        have hlvo:lvOf p=nw:=hlve
        rw [hlvo] at h4
        have h5:lf=lNode p.d p.ep sq (m:Int) (el p sq.toNat m) 0 q∧ws=showW p.d p.ep sq (m:Int) (el p sq.toNat m) q nw:=by
          apply Classical.byContradiction
          intro hne
          have h6:=ladder_sound hlf hwl (g2 ▸ g6) h4 hne
          have h7:=clash_mono (a':=txs p m sq) (b':=cks p m sn sq lf ws nw ps p.H) h6 (fun x hx=>List.mem_append.2 (.inl (rungTs_mem (k:=0) (by rw [hlvo]; exact hx) _ (by omega)))) (fun y hy=>List.mem_append.2 (.inl (List.mem_append.2 (.inl (by rw [hrx]; exact hy)))))
          rw [hno] at h7
          cases h7
        refine ⟨h5.1.trans ?_,h5.2.trans ?_,h1.2⟩
        · show _=shL _ _ _ _ _ _ _
          rw [shL,if_pos hok,hsnq]
        · show _=shW _ _ _ _ _ _ _
          rw [shW,if_pos hok,hsnq,hlve]
      · rw [if_neg hck2] at hck
        cases hck
    · rw [if_neg hre] at hck
      exact absurd hck hre
  · rw [if_neg hnp] at hck
    cases hck
end
end Go.Proofs.YtklajbdbnnceiaaGreat
end

section
/- All that is summed,as the document has it. -/
namespace Go.Proofs.YtklajbdbnnceiaaGreat
open Go Go.Fw
open Sha
theorem rungTs_le (d:Int) (ep sq:UInt32) {lv m:Nat} (f:Nat→List UInt8) (h:lv≤3):∀ n,(rungTs d ep sq lv m f n).length≤100 * n
  | 0=>Nat.le_refl _
  | n + 1=>by
    have h1:=rungTs_le d ep sq (m:=m) f h n
    have h2:=nodeTs_le d ep sq ((m + n:Nat):Int) (f n) lv 0 (by omega)
    rw [rungTs,List.length_append]
    omega
theorem rsX_le (d:Int) (ep sq:UInt32) (r x id:Int) (l ws:List UInt8) (n:Nat):(rsX d ep sq r x id l ws n).length≤n:=by
  unfold rsX riseX
  split
  · split
    · rw [lRiseTs_length]; exact Nat.le_refl _
    · exact Nat.zero_le _
  · exact Nat.zero_le _
theorem foldX_le (d:Int) (ep:UInt32) (i:Int) (l ws:List UInt8) (m:Nat):(foldX d ep i l ws m).length≤m:=by
  unfold foldX
  split
  · rw [gRiseTs_length]; exact Nat.le_refl _
  · exact Nat.zero_le _
theorem lvOf_spec {p:Spr} (hlv:0≤levels p.W):levels p.W=(lvOf p:Nat)∧lvOf p≤3:=by
  obtain ⟨lv,W,h1,h2,h3,h4⟩:=levels_lv hlv
  unfold lvOf
  omega
theorem ref09_Texts (p:Spr) (ho:p.Ok) (m:Nat) (sn:Int) (sq:UInt32) (hcr:clRight p.W p.S p.H p.d m sn p.ep sq=true) (w:World) :Ctr Tryz.prog 42 [.agg #[I p.W,I p.S,I p.H],.agg (p.seed.map B).toArray,.agg #[I p.d,U p.ep,U sq,I (m:Nat),I sn]] w (fun _=>False) (outE (textsE 177 5 (txs p m sq)) w):=by
  obtain ⟨hR,hd0,hdW,hsn0,hsnW,hep,hsq,hmt0,hmtS⟩:=clRight_iff.1 hcr
  obtain ⟨hlv,hS1,hS16,hH0,hH6⟩:=spRight_iff.1 hR
  obtain ⟨hxl,hlv3⟩:=lvOf_spec hlv
  have hsqm:=seq_lt hcr
  have hm64:=ho.m64
  have hmS:m < p.S:=by omega
  refine fn_start (N:=72) Tryz.func42 rfl rfl rfl fun ac hk=>?_
  have hs:=St.start hk w
  refine wp_seq (wp_reg ?_)
  refine s_box hs rfl rfl rfl fun ac ww g3 hs=>?_
  refine s_box hs rfl rfl rfl fun ac ww g4 hs=>?_
  refine s_box hs rfl rfl rfl fun ac ww g5 hs=>?_
  refine zA hs fun ac hs=>?_
  refine s_end ?_
  replace hs:=hs.sub (F':=[(3,_),(4,_),(5,_),(6,_)]) ⟨rfl,rfl,rfl,rfl,trivial⟩
  refine then_n (wp_seq (wp_reg ?_))
  refine zA hs fun ac hs=>?_
  refine s_end ?_
  replace hs:=hs.texts0 177 (Ent.part 5)
  refine then_n (wp_seq (wp_seq (wp_reg ?_)))
  refine s_q hs (c_fld fl54_1 (hs.ev rfl)) rfl fun ac hs=>?_
  refine s_q hs (c_fld fl52_2 (hs.ev rfl)) rfl fun ac hs=>?_
  refine s_q hs (c_loadS un3 rfl (hs.ev rfl) (hs.seg (i:=1) rfl) rfl) rfl fun ac hs=>?_
  refine zA hs fun ac hs=>?_
  refine s_end ?_
  replace hs:=hs.sub (F':=[(3,_),(4,_),(5,_),(6,_),(7,_),(8,_)]) ⟨rfl,rfl,rfl,rfl,rfl,rfl,trivial⟩
  refine then_n (wp_block ?_)
  refine s_loop hs (X:=Nat × Value × List (Value × List UInt8)) (fun x=>[(7,x.2.1),(8,I (m + x.1:Nat))]) [(3,_),(4,_),(5,_),(6,_)] (fun x=>[.texts 177 (Ent.part 5) x.2.1 x.2.2,_,_,_]) (fun j x=>x.1≤p.S - m∧j=p.S - m - x.1∧x.2.2.map (·.2)=rungTs p.d p.ep sq (lvOf p) m (fun n=>el p sq.toNat (m + n)) x.1) (_) ((0,_,[])) (⟨Nat.zero_le _,rfl,rfl⟩) ⟨rfl,rfl,rfl,rfl,rfl,rfl,trivial⟩ rfl ?_
  rintro n ⟨k,v,ps⟩ ac ww hok hs
  simp only [List.cons_append,List.nil_append] at hs
  obtain ⟨hk,rfl,hps⟩:=hok
  simp only at hk hps hs
  have hpl:ps.length≤100 * k:=by have h9:=congrArg List.length hps; rw [List.length_map] at h9; rw [h9]; exact rungTs_le _ _ _ _ hlv3 k
  refine wp_seq (wp_seq (wp_reg ?_))
  refine zM hs fun ac hs=>?_
  refine s_q hs (c_fld fl23_1 (hs.ev rfl)) rfl fun ac hs=>?_
  refine s_q hs (c_loadS un3 rfl (hs.ev rfl) (hs.seg (i:=3) rfl) rfl) rfl fun ac hs=>?_
  refine s_q hs (c_lssI (hs.ev rfl) (hs.ev rfl)) rfl fun ac hs=>?_
  refine s_end (then_n ?_)
  refine s_cond hs rfl (fun hc=>?_) (fun hc=>?_)
  · try simp only [z1,z2,z3,z4,z5,z6,z7] at hc
    have hkS:m + k < p.S:=by omega
    refine wp_skip (then_n (wp_seq (wp_block (wp_seq (wp_reg ?_)))))
    refine s_q hs (c_loadW ty23 ag23 (hs.ev rfl) (hs.seg (i:=3) rfl) (by rfl)) rfl fun ac hs=>?_
    refine s_q hs (c_loadW ty24 rfl (hs.ev rfl) (hs.seg (i:=2) rfl) (by rw [List.length_map,ho.seed])) rfl fun ac hs=>?_
    refine s_q hs (c_fld fl54_0 (hs.ev rfl)) rfl fun ac hs=>?_
    refine s_q hs (c_loadS un3 rfl (hs.ev rfl) (hs.seg (i:=1) rfl) rfl) rfl fun ac hs=>?_
    refine s_q hs (c_fld fl54_1 (hs.ev rfl)) rfl fun ac hs=>?_
    refine s_q hs (c_fld fl52_0 (hs.ev rfl)) rfl fun ac hs=>?_
    refine s_q hs (c_loadS un25 rfl (hs.ev rfl) (hs.seg (i:=1) rfl) rfl) rfl fun ac hs=>?_
    refine s_q hs (c_fld fl54_1 (hs.ev rfl)) rfl fun ac hs=>?_
    refine s_q hs (c_fld fl52_1 (hs.ev rfl)) rfl fun ac hs=>?_
    refine s_q hs (c_loadS un25 rfl (hs.ev rfl) (hs.seg (i:=1) rfl) rfl) rfl fun ac hs=>?_
    refine s_q hs (c_cvUI un25 un3 (hs.ev rfl)) rfl fun ac hs=>?_
    refine zM hs fun ac hs=>?_
    refine s_call hs fu21 (.cons (hs.ev rfl) (.cons (hs.ev rfl) (.cons (hs.ev rfl) (.cons (hs.ev rfl) (.cons (hs.ev rfl) (.cons (hs.ev rfl) .nil)))))) (ref08_Element p ho hlv sq.toNat (m + k) (by omega) _) rfl fun ac ww v35 hf hp hs=>?_
    obtain rfl:=hp
    replace hs:=hs [] (.nil _ _)
    refine s_alloc hs ty35 rfl fun ac ww g9 hs=>?_
    refine s_storeW (i:=0) hs ty35 rfl rfl rfl (by rw [List.length_map,el_length]) (all_map_B _) rfl fun ww hs=>?_
    refine s_end (then_n (wp_seq ?_))
    refine wp_region_rgX (J:=[10]) pmix 12 (by kernel_rfl) (by kernel_rfl) rfl rfl hs ?_
    simp only [List.take_succ_cons,List.take_zero]
    refine rg_q (fun ac ww h=>c_loadW ty54 ag54 (h.ev rfl) (h.blk (hs.seg (i:=2) rfl)) (by rfl)) rfl ?_
    refine rg_call fu80 (fun ac ww h=>(.cons (h.ev rfl) .nil)) (fun ww hf=>ref09_Place p.d (m:Nat) sn p.ep sq ww) rfl ?_
    refine rg_q (fun ac ww h=>c_move (h.ev rfl)) rfl ?_
    refine rg_q (fun ac ww h=>c_loadW ty35 rfl (h.ev rfl) (h.blk (hs.seg (i:=0) rfl)) (by rw [List.length_map,el_length])) rfl ?_
    refine rg_q (fun ac ww h=>c_fld fl23_0 (h.ev rfl)) rfl ?_
    refine rg_q (fun ac ww h=>c_loadS un3 rfl (h.ev rfl) (h.blk (hs.seg (i:=4) rfl)) rfl) rfl ?_
    refine rg_call fu88 (fun ac ww h=>(.cons (h.ev rfl) .nil)) (fun ww hf=>(by have h:=ref06_Levels p.W ww; rw [hxl] at h; exact h)) rfl ?_
    refine rg_callE (tupE (.agg ((lNode p.d p.ep sq (((m + k:Nat):Int)) (el p sq.toNat (m + k)) (lvOf p) 0).map B).toArray) (textsE 177 5 (lNodeTs p.d p.ep sq (((m + k:Nat):Int)) (el p sq.toNat (m + k)) (lvOf p) 0))) (fun _ _ _ _ _ h=>h) fu87 (fun ac ww h=>?_) rfl ?_
    · exact ⟨_,.cons (h.ev rfl) (.cons (h.ev rfl) (.cons (h.ev rfl) (.cons (h.ev rfl) (.cons (h.ev rfl) (.nil))))),ref06_Node p.d p.ep sq ((m + k:Nat):Int) (el p sq.toNat (m + k)) (el_length _ _ _) (lvOf p) hlv3 0 (Nat.two_pow_pos _) _⟩
    refine rg_moveT rfl rfl rfl ?_
    refine rg_ext0 rfl rfl rfl ?_
    refine rg_ext1 rfl rfl rfl ?_
    refine rg_alloc ty35 rfl ?_
    refine rg_nil fun ac ww L' hf hfe hs hlk=>?_
    simp only [List.drop_succ_cons,List.drop_zero]
    obtain ⟨v10,L10,M10,h10,e10,⟨v46,L46,M46,h46,e46,⟨v36,L36,M36,h36,e36,⟨v44,L44,M44,h44,e44,rfl,rfl⟩,rfl⟩,rfl⟩,rfl⟩:=hfe
    replace hs:=hs.add h10
    replace hs:=hs.add h46
    replace hs:=hs.add h36
    replace hs:=hs.add h44
    obtain ⟨g10,rfl,rfl⟩:=e10
    obtain ⟨tv44,rfl,e44⟩:=e44
    obtain ⟨-,rfl⟩:=e36
    obtain rfl:=lk_move (j:=8) hlk (by decide) rfl (by kernel_rfl) h36 h44
    obtain ⟨-,rfl⟩:=e46
    obtain rfl:=lk_ext (j:=10) hlk (by decide) rfl (by kernel_rfl) h46 h36 rfl
    obtain ⟨ps44,hps44,rfl⟩:=e44
    have hpl44:ps44.length≤100:=by have h9:=congrArg List.length hps44; rw [List.length_map] at h9; rw [h9]; exact nodeTs_le _ _ _ _ _ _ _ (by omega)
    refine sk_storeW (i:=0) hs ty35 rfl rfl rfl (by rw [List.length_map]; exact lNode_length _ _ _ _ _ _ _) (all_map_B _) rfl (fun ww hs=>late_turn rfl rfl (late_nil)) fun ww hs=>?_
    refine zA hs fun ac hs=>?_
    refine s_end (then_n (wp_reg ?_))
    refine zM hs fun ac hs=>?_
    refine zM hs fun ac hs=>?_
    refine s_appTT (i:=3) (j:=1) hs un87 ty177 rfl rfl rfl rfl rfl (RdP.ones (RdP.texts (hs.get (i:=1) rfl))) (by omega) rfl fun ac ww v49 hs=>?_
    refine zA hs fun ac hs=>?_
    refine s_end (blk_n (then_n (wp_reg ?_)))
    refine zM hs fun ac hs=>?_
    refine s_q hs (c_addI (hs.ev rfl) (hs.ev rfl) (by omega) (by omega)) rfl fun ac hs=>?_
    refine zA hs fun ac hs=>?_
    refine s_end (then_n ?_)
    replace hs:=hs.pick (L':=[_,_,_,_]) (.cons _ (.cons _ (.cons _ (.refl _))))
    exact ⟨p.S - m - (k + 1),by (try simp only); omega,(k + 1,_,ps++ps44),⟨by (try simp only); omega,rfl,by simp only [List.map_append]; rw [hps,hps44]; rfl⟩,St.next hs ⟨rfl,(congrArg (fun z=>some (I z)) (by push_cast; omega)),rfl,rfl,rfl,rfl,trivial⟩ rfl⟩
  · try simp only [z1,z2,z3,z4,z5,z6,z7] at hc
    obtain rfl:k=p.S - m:=by omega
    refine wp_exit (then_e (then_e (blk_hit (then_n (wp_seq ?_)))))
    refine wp_region_rgX (J:=[18]) pmix 20 (by kernel_rfl) (by kernel_rfl) rfl rfl hs ?_
    simp only [List.take_succ_cons,List.take_zero]
    refine rg_q (fun ac ww h=>c_fld fl54_0 (h.ev rfl)) rfl ?_
    refine rg_q (fun ac ww h=>c_loadS un3 rfl (h.ev rfl) (h.blk (hs.seg (i:=1) rfl)) rfl) rfl ?_
    refine rg_q (fun ac ww h=>c_fld fl54_1 (h.ev rfl)) rfl ?_
    refine rg_q (fun ac ww h=>c_fld fl52_0 (h.ev rfl)) rfl ?_
    refine rg_q (fun ac ww h=>c_loadS un25 rfl (h.ev rfl) (h.blk (hs.seg (i:=1) rfl)) rfl) rfl ?_
    refine rg_q (fun ac ww h=>c_loadW ty23 ag23 (h.ev rfl) (h.blk (hs.seg (i:=3) rfl)) (by rfl)) rfl ?_
    refine rg_q (fun ac ww h=>c_loadW ty24 rfl (h.ev rfl) (h.blk (hs.seg (i:=2) rfl)) (by rw [List.length_map,ho.seed])) rfl ?_
    refine rg_q (fun ac ww h=>c_fld fl54_0 (h.ev rfl)) rfl ?_
    refine rg_q (fun ac ww h=>c_loadS un3 rfl (h.ev rfl) (h.blk (hs.seg (i:=1) rfl)) rfl) rfl ?_
    refine rg_q (fun ac ww h=>c_fld fl54_1 (h.ev rfl)) rfl ?_
    refine rg_q (fun ac ww h=>c_fld fl52_0 (h.ev rfl)) rfl ?_
    refine rg_q (fun ac ww h=>c_loadS un25 rfl (h.ev rfl) (h.blk (hs.seg (i:=1) rfl)) rfl) rfl ?_
    refine rg_callE (rowS' p.m (ends p p.m)) (fun _ _ _ _ _ h=>h) fu69 (fun ac ww h=>?_) rfl ?_
    · exact ⟨_,.cons (h.ev rfl) (.cons (h.ev rfl) (.cons (h.ev rfl) (.cons (h.ev rfl) (.nil)))),ref08_Ends p ho hlv _⟩
    refine rg_q (fun ac ww h=>c_fld fl23_2 (h.ev rfl)) rfl ?_
    refine rg_q (fun ac ww h=>c_loadS un3 rfl (h.ev rfl) (h.blk (hs.seg (i:=3) rfl)) rfl) rfl ?_
    refine rg_callE (tupE (.agg ((gNode p.d p.ep (ends p p.m) p.H 0).map B).toArray) (textsE 177 5 (gNodeTs p.d p.ep (ends p p.m) p.H 0))) (fun _ _ _ _ _ h=>h) fu89 (fun ac ww h=>?_) rfl ?_
    · obtain ⟨u63,L63,he63,hee,hh63⟩:=h.ent (n:=63) rfl rfl
      obtain rfl:=hee
      exact ⟨_,.cons (h.ev rfl) (.cons (h.ev rfl) (.cons he63 (.cons (h.ev rfl) (.cons (h.ev rfl) .nil)))),ref07_Node p.d p.ep (ends p p.m) p.m _ (ends_len p) (by omega) p.H ho.h6 0 (by show (0 + 1) * 2 ^ p.H≤2 ^ p.H; omega) _ (Rd.of_row (hh63.holds _ (List.mem_singleton.2 rfl)))⟩
    refine rg_moveT rfl rfl rfl ?_
    refine rg_ext0 rfl rfl rfl ?_
    refine rg_ext1 rfl rfl rfl ?_
    refine rg_alloc ty35 rfl ?_
    refine rg_nil fun ac ww L' hf hfe hs hlk=>?_
    simp only [List.drop_succ_cons,List.drop_zero]
    obtain ⟨v12,L12,M12,h12,e12,⟨v68,L68,M68,h68,e68,⟨v50,L50,M50,h50,e50,⟨v66,L66,M66,h66,e66,⟨v63,L63,M63,h63,e63,rfl,rfl⟩,rfl⟩,rfl⟩,rfl⟩,rfl⟩:=hfe
    replace hs:=hs.add h12
    replace hs:=hs.add h68
    replace hs:=hs.add h50
    replace hs:=hs.add h66
    replace hs:=hs.add h63
    obtain ⟨g12,rfl,rfl⟩:=e12
    obtain ⟨tv66,rfl,e66⟩:=e66
    obtain ⟨-,rfl⟩:=e50
    obtain rfl:=lk_move (j:=16) hlk (by decide) rfl (by kernel_rfl) h50 h66
    obtain ⟨-,rfl⟩:=e68
    obtain rfl:=lk_ext (j:=18) hlk (by decide) rfl (by kernel_rfl) h68 h50 rfl
    obtain ⟨ps66,hps66,rfl⟩:=e66
    obtain rfl:=e63
    have hpl66:ps66.length≤100:=by have h9:=congrArg List.length hps66; rw [List.length_map] at h9; rw [h9]; exact (by rw [gNodeTs_length]; have:=pow64 ho.h6; omega)
    refine sk_storeW (i:=0) hs ty35 rfl rfl rfl (by rw [List.length_map,rt_length]) (all_map_B _) rfl (fun ww hs=>late_turn rfl rfl (late_nil)) fun ww hs=>?_
    refine zA hs fun ac hs=>?_
    refine s_end ?_
    replace hs:=hs.sub (F':=[(6,_),(7,_),(13,_)]) ⟨rfl,rfl,rfl,trivial⟩
    refine then_n (wp_seq (wp_reg ?_))
    refine zM hs fun ac hs=>?_
    refine zM hs fun ac hs=>?_
    refine s_appTT (i:=3) (j:=1) hs un87 ty177 rfl rfl rfl rfl rfl (RdP.ones (RdP.texts (hs.get (i:=1) rfl))) (by omega) rfl fun ac ww v71 hs=>?_
    refine zA hs fun ac hs=>?_
    refine s_end ?_
    replace hs:=hs.sub (F':=[(6,_)]) ⟨rfl,trivial⟩
    refine then_n (wp_ret ?_)
    refine s_ret hs rfl (.tmp (hs.tmp rfl) .nil) rfl ⟨_,rfl,hs.fr,?_⟩
    exact ⟨_,⟨ps++ps66,by rw [List.map_append,hps,hps66]; rfl,rfl⟩,(hs.pick (L':=[_]) (.cons _ (.cons _ (.cons _ (.cons_cons _ (List.nil_sublist _)))))).made⟩
theorem ref09_Checked (p:Spr) (ho:p.Ok) (m:Nat) (sn:Int) (sq:UInt32) (lf ws ps:List UInt8) (nw np:Nat) (wv pv:Value) (hcr:clRight p.W p.S p.H p.d m sn p.ep sq=true) (hlf:lf.length=16) (hwl:ws.length=nw * 16) (hpl:ps.length=np * 16) (hnw2:nw≤100000) (hnp2:np≤100000) (w:World) (hqw:Rd w wv nw (ws.map B)) (hqp:Rd w pv np (ps.map B)):Ctr Tryz.prog 43 [.agg #[I p.W,I p.S,I p.H],.agg #[I p.d,U p.ep,U sq,I (m:Nat),I sn],credV lf wv pv] w (fun _=>False) (outE (textsE 177 5 (cks p m sn sq lf ws nw ps np)) w):=by
  obtain ⟨hR,hd0,hdW,hsn0,hsnW,hep,hsq,hmt0,hmtS⟩:=clRight_iff.1 hcr
  obtain ⟨hlv,hS1,hS16,hH0,hH6⟩:=spRight_iff.1 hR
  obtain ⟨hxl,hlv3⟩:=lvOf_spec hlv
  have hsqm:=seq_lt hcr
  have hm64:=ho.m64
  have hmS:m < p.S:=by omega
  have hnl:(nxt p m sn sq lf ws nw).length=16:=rsB_length hlf _
  obtain ⟨wad,wcap,rfl,hwc,hwm⟩:=Rd.sl hqw
  obtain ⟨pad,pcap,rfl,hpc,hpm⟩:=Rd.sl hqp
  refine fn_start (N:=79) Tryz.func43 rfl rfl rfl fun ac hk=>?_
  have hs:=St.start hk w
  refine wp_seq (wp_reg ?_)
  refine s_box hs rfl rfl rfl fun ac ww g3 hs=>?_
  refine s_box hs rfl rfl rfl fun ac ww g4 hs=>?_
  refine s_box hs rfl rfl rfl fun ac ww g5 hs=>?_
  refine zA hs fun ac hs=>?_
  refine s_end ?_
  replace hs:=hs.sub (F':=[(3,_),(4,_),(5,_),(6,_)]) ⟨rfl,rfl,rfl,rfl,trivial⟩
  refine then_n (wp_seq ?_)
  refine wp_region_rgX (J:=[16,17]) pmix 19 (by kernel_rfl) (by kernel_rfl) rfl rfl hs ?_
  simp only [List.take_succ_cons,List.take_zero]
  refine rg_q (fun ac ww h=>c_loadW ty54 ag54 (h.ev rfl) (h.blk (hs.seg (i:=1) rfl)) (by rfl)) rfl ?_
  refine rg_call fu80 (fun ac ww h=>(.cons (h.ev rfl) .nil)) (fun ww hf=>ref09_Place p.d (m:Nat) sn p.ep sq ww) rfl ?_
  refine rg_q (fun ac ww h=>c_fld fl54_1 (h.ev rfl)) rfl ?_
  refine rg_q (fun ac ww h=>c_fld fl52_2 (h.ev rfl)) rfl ?_
  refine rg_q (fun ac ww h=>c_loadS un3 rfl (h.ev rfl) (h.blk (hs.seg (i:=1) rfl)) rfl) rfl ?_
  refine rg_q (fun ac ww h=>c_fld fl23_0 (h.ev rfl)) rfl ?_
  refine rg_q (fun ac ww h=>c_loadS un3 rfl (h.ev rfl) (h.blk (hs.seg (i:=2) rfl)) rfl) rfl ?_
  refine rg_q (fun ac ww h=>c_fld fl54_2 (h.ev rfl)) rfl ?_
  refine rg_q (fun ac ww h=>c_loadS un3 rfl (h.ev rfl) (h.blk (hs.seg (i:=1) rfl)) rfl) rfl ?_
  refine rg_q (fun ac ww h=>c_fld fl66_0 (h.ev rfl)) rfl ?_
  refine rg_q (fun ac ww h=>c_loadA ty35 rfl (h.ev rfl) (h.blk (hs.seg (i:=0) rfl)) (cred_leaf hlf _ _) (show (List.map B lf).length=16 by rw [List.length_map,hlf])) rfl ?_
  refine rg_q (fun ac ww h=>c_fld fl66_1 (h.ev rfl)) rfl ?_
  refine rg_q (fun ac ww h=>c_loadS un47 rfl (h.ev rfl) (h.blk (hs.seg (i:=0) rfl)) (cred_way hlf _ _)) rfl ?_
  refine rg_callE (tupG [.agg ((nxt p m sn sq lf ws nw).map B).toArray] [I (rsE (m:Int) p.W sn nw)] (textsE 177 5 (rsX p.d p.ep sq (m:Int) p.W sn lf ws nw))) (fun _ _ _ _ _ h=>h) fu90 (fun ac ww h=>?_) rfl ?_
  · exact ⟨_,.cons (h.ev rfl) (.cons (h.ev rfl) (.cons (h.ev rfl) (.cons (h.ev rfl) (.cons (h.ev rfl) (.cons (h.ev rfl) (.nil)))))),ref06_RiseA p.d p.ep sq (m:Int) p.W sn lf ws nw _ hlf hwl (by omega) _ (hqw.fr0 (hs.fr.trans0 h.fr))⟩
  refine rg_moveG rfl rfl rfl ?_
  refine rg_extGc rfl rfl rfl (fun _=>rfl) ?_
  refine rg_extGe rfl rfl rfl rfl ?_
  refine rg_extGc rfl rfl rfl (fun _=>rfl) ?_
  refine rg_alloc ty35 rfl ?_
  refine rg_nil fun ac ww L' hf hfe hs hlk=>?_
  simp only [List.drop_succ_cons,List.drop_zero]
  obtain ⟨v7,L7,M7,h7,e7,⟨v32,L32,M32,h32,e32,⟨v16,L16,M16,h16,e16,⟨v30,L30,M30,h30,e30,rfl,rfl⟩,rfl⟩,rfl⟩,rfl⟩:=hfe
  replace hs:=hs.add h7
  replace hs:=hs.add h32
  replace hs:=hs.add h16
  replace hs:=hs.add h30
  obtain ⟨g7,rfl,rfl⟩:=e7
  obtain ⟨tv30,rfl,e30⟩:=e30
  obtain ⟨-,rfl⟩:=e16
  obtain rfl:=lk_move (j:=14) hlk (by decide) rfl (by kernel_rfl) h16 h30
  obtain ⟨-,rfl⟩:=e32
  obtain rfl:=lk_ext (j:=16) hlk (by decide) rfl (by kernel_rfl) h32 h16 rfl
  obtain ⟨ps30,hps30,rfl⟩:=e30
  have hpl30:ps30.length≤nw:=by have h9:=congrArg List.length hps30; rw [List.length_map] at h9; rw [h9]; exact rsX_le _ _ _ _ _ _ _ _ _
  refine sk_storeW (i:=0) hs ty35 rfl rfl rfl (by rw [List.length_map]; exact hnl) (all_map_B _) rfl (fun ww hs=>late_turn rfl rfl (late_turn rfl rfl (late_nil))) fun ww hs=>?_
  refine zA hs fun ac hs=>?_
  refine zA hs fun ac hs=>?_
  refine s_end ?_
  replace hs:=hs.sub (F':=[(3,_),(4,_),(5,_),(6,_),(7,_),(8,_)]) ⟨rfl,rfl,rfl,rfl,rfl,rfl,trivial⟩
  refine then_n (wp_seq (wp_seq (wp_reg ?_)))
  refine s_q hs (c_fld fl54_1 (hs.ev rfl)) rfl fun ac hs=>?_
  refine s_q hs (c_fld fl52_2 (hs.ev rfl)) rfl fun ac hs=>?_
  refine s_q hs (c_loadS un3 rfl (hs.ev rfl) (hs.seg (i:=3) rfl) rfl) rfl fun ac hs=>?_
  refine s_q hs (c_addI (hs.ev rfl) (hs.ev rfl) (by omega) (by omega)) rfl fun ac hs=>?_
  refine zA hs fun ac hs=>?_
  refine s_end ?_
  replace hs:=hs.sub (F':=[(3,_),(4,_),(5,_),(6,_),(7,_),(8,_),(10,_)]) ⟨rfl,rfl,rfl,rfl,rfl,rfl,rfl,trivial⟩
  refine then_n (wp_block ?_)
  refine s_loop hs (X:=Nat × Value × List (Value × List UInt8)) (fun x=>[(8,x.2.1),(10,I (m + 1 + x.1:Nat))]) [(3,_),(4,_),(5,_),(6,_),(7,_)] (fun x=>[.seg g7 ((cl p m sq (nxt p m sn sq lf ws nw) x.1).map B) 35,.texts 177 (Ent.part 5) x.2.1 x.2.2,_,_,_]) (fun j x=>x.1≤p.S - (m + 1)∧j=p.S - (m + 1) - x.1∧x.2.2.map (·.2)=rsX p.d p.ep sq (m:Int) p.W sn lf ws nw++rungTs p.d p.ep sq (lvOf p) (m + 1) (cl p m sq (nxt p m sn sq lf ws nw)) x.1) (_) ((0,_,ps30)) (⟨Nat.zero_le _,rfl,by simp only [rungTs,List.append_nil]; exact hps30⟩) ⟨rfl,(congrArg (fun z=>some (I z)) (by push_cast; omega)),rfl,rfl,rfl,rfl,rfl,trivial⟩ rfl ?_
  rintro n ⟨k,v,ps2⟩ ac ww hok hs
  simp only [List.cons_append,List.nil_append] at hs
  obtain ⟨hk,rfl,hps⟩:=hok
  simp only at hk hps hs
  have hpl2:ps2.length≤nw + 100 * k:=by have h9:=congrArg List.length hps; rw [List.length_map,List.length_append] at h9; have h8:=rsX_le p.d p.ep sq (m:Int) p.W sn lf ws nw; have h7:=rungTs_le p.d p.ep sq (m:=m + 1) (cl p m sq (nxt p m sn sq lf ws nw)) hlv3 k; omega
  refine wp_seq (wp_seq (wp_reg ?_))
  refine zM hs fun ac hs=>?_
  refine s_q hs (c_fld fl23_1 (hs.ev rfl)) rfl fun ac hs=>?_
  refine s_q hs (c_loadS un3 rfl (hs.ev rfl) (hs.seg (i:=4) rfl) rfl) rfl fun ac hs=>?_
  refine s_q hs (c_lssI (hs.ev rfl) (hs.ev rfl)) rfl fun ac hs=>?_
  refine s_end (then_n ?_)
  refine s_cond hs rfl (fun hc=>?_) (fun hc=>?_)
  · try simp only [z1,z2,z3,z4,z5,z6,z7] at hc
    have hkS:m + 1 + k < p.S:=by omega
    refine wp_skip (then_n (wp_seq (wp_block (wp_seq ?_))))
    refine wp_region_rgX (J:=[10]) pmix 12 (by kernel_rfl) (by kernel_rfl) rfl rfl hs ?_
    simp only [List.take_succ_cons,List.take_zero]
    refine rg_q (fun ac ww h=>c_loadW ty54 ag54 (h.ev rfl) (h.blk (hs.seg (i:=3) rfl)) (by rfl)) rfl ?_
    refine rg_call fu80 (fun ac ww h=>(.cons (h.ev rfl) .nil)) (fun ww hf=>ref09_Place p.d (m:Nat) sn p.ep sq ww) rfl ?_
    refine rg_q (fun ac ww h=>c_move (h.ev rfl)) rfl ?_
    refine rg_q (fun ac ww h=>c_loadW ty35 rfl (h.ev rfl) (h.blk (hs.seg (i:=0) rfl)) (by rw [List.length_map]; exact cl_length hnl _)) rfl ?_
    refine rg_q (fun ac ww h=>c_fld fl23_0 (h.ev rfl)) rfl ?_
    refine rg_q (fun ac ww h=>c_loadS un3 rfl (h.ev rfl) (h.blk (hs.seg (i:=4) rfl)) rfl) rfl ?_
    refine rg_call fu88 (fun ac ww h=>(.cons (h.ev rfl) .nil)) (fun ww hf=>(by have h:=ref06_Levels p.W ww; rw [hxl] at h; exact h)) rfl ?_
    refine rg_callE (tupE (.agg ((lNode p.d p.ep sq (((m + 1 + k:Nat):Int)) (cl p m sq (nxt p m sn sq lf ws nw) k) (lvOf p) 0).map B).toArray) (textsE 177 5 (lNodeTs p.d p.ep sq (((m + 1 + k:Nat):Int)) (cl p m sq (nxt p m sn sq lf ws nw) k) (lvOf p) 0))) (fun _ _ _ _ _ h=>h) fu87 (fun ac ww h=>?_) rfl ?_
    · exact ⟨_,.cons (h.ev rfl) (.cons (h.ev rfl) (.cons (h.ev rfl) (.cons (h.ev rfl) (.cons (h.ev rfl) (.nil))))),ref06_Node p.d p.ep sq ((m + 1 + k:Nat):Int) (cl p m sq (nxt p m sn sq lf ws nw) k) (cl_length hnl _) (lvOf p) hlv3 0 (Nat.two_pow_pos _) _⟩
    refine rg_moveT rfl rfl rfl ?_
    refine rg_ext0 rfl rfl rfl ?_
    refine rg_ext1 rfl rfl rfl ?_
    refine rg_alloc ty35 rfl ?_
    refine rg_nil fun ac ww L' hf hfe hs hlk=>?_
    simp only [List.drop_succ_cons,List.drop_zero]
    obtain ⟨v11,L11,M11,h11,e11,⟨v54,L54,M54,h54,e54,⟨v44,L44,M44,h44,e44,⟨v52,L52,M52,h52,e52,rfl,rfl⟩,rfl⟩,rfl⟩,rfl⟩:=hfe
    replace hs:=hs.add h11
    replace hs:=hs.add h54
    replace hs:=hs.add h44
    replace hs:=hs.add h52
    obtain ⟨g11,rfl,rfl⟩:=e11
    obtain ⟨tv52,rfl,e52⟩:=e52
    obtain ⟨-,rfl⟩:=e44
    obtain rfl:=lk_move (j:=8) hlk (by decide) rfl (by kernel_rfl) h44 h52
    obtain ⟨-,rfl⟩:=e54
    obtain rfl:=lk_ext (j:=10) hlk (by decide) rfl (by kernel_rfl) h54 h44 rfl
    obtain ⟨ps52,hps52,rfl⟩:=e52
    have hpl52:ps52.length≤100:=by have h9:=congrArg List.length hps52; rw [List.length_map] at h9; rw [h9]; exact nodeTs_le _ _ _ _ _ _ _ (by omega)
    refine sk_storeW (i:=0) hs ty35 rfl rfl rfl (by rw [List.length_map]; exact lNode_length _ _ _ _ _ _ _) (all_map_B _) rfl (fun ww hs=>late_turn rfl rfl (late_nil)) fun ww hs=>?_
    refine zA hs fun ac hs=>?_
    refine s_end (then_n (wp_seq (wp_reg ?_)))
    refine zM hs fun ac hs=>?_
    refine zM hs fun ac hs=>?_
    refine s_appTT (i:=3) (j:=1) hs un87 ty177 rfl rfl rfl rfl rfl (RdP.ones (RdP.texts (hs.get (i:=1) rfl))) (by omega) rfl fun ac ww v57 hs=>?_
    refine zA hs fun ac hs=>?_
    refine s_end (then_n (wp_reg ?_))
    refine s_q hs (c_loadW ty35 rfl (hs.ev rfl) (hs.seg (i:=0) rfl) (by rw [List.length_map]; exact lNode_length _ _ _ _ _ _ _)) rfl fun ac hs=>?_
    refine s_storeW (i:=2) hs ty35 rfl rfl rfl (by rw [List.length_map]; exact lNode_length _ _ _ _ _ _ _) (all_map_B _) (by rw [List.length_map]; exact cl_length hnl _) fun ww hs=>?_
    refine s_end (blk_n (then_n (wp_reg ?_)))
    refine zM hs fun ac hs=>?_
    refine s_q hs (c_addI (hs.ev rfl) (hs.ev rfl) (by omega) (by omega)) rfl fun ac hs=>?_
    refine zA hs fun ac hs=>?_
    refine s_end (then_n ?_)
    replace hs:=hs.pick (L':=[_,_,_,_,_]) (.cons _ (.cons _ (.refl _)))
    exact ⟨p.S - (m + 1) - (k + 1),by (try simp only); omega,(k + 1,_,ps2++ps52),⟨by (try simp only); omega,rfl,by simp only [List.map_append]; rw [hps,hps52,rungTs,List.append_assoc]⟩,St.next hs ⟨rfl,(congrArg (fun z=>some (I z)) (by push_cast; omega)),rfl,rfl,rfl,rfl,rfl,trivial⟩ (by rw [cl_up hlv (by omega)])⟩
  · try simp only [z1,z2,z3,z4,z5,z6,z7] at hc
    obtain rfl:k=p.S - (m + 1):=by omega
    refine wp_exit (then_e (then_e (blk_hit (then_n (wp_seq (wp_reg ?_))))))
    refine s_q hs (c_fld fl54_0 (hs.ev rfl)) rfl fun ac hs=>?_
    refine s_q hs (c_loadS un3 rfl (hs.ev rfl) (hs.seg (i:=3) rfl) rfl) rfl fun ac hs=>?_
    refine s_q hs (c_fld fl54_1 (hs.ev rfl)) rfl fun ac hs=>?_
    refine s_q hs (c_fld fl52_0 (hs.ev rfl)) rfl fun ac hs=>?_
    refine s_q hs (c_loadS un25 rfl (hs.ev rfl) (hs.seg (i:=3) rfl) rfl) rfl fun ac hs=>?_
    refine s_q hs (c_fld fl54_1 (hs.ev rfl)) rfl fun ac hs=>?_
    refine s_q hs (c_fld fl52_1 (hs.ev rfl)) rfl fun ac hs=>?_
    refine s_q hs (c_loadS un25 rfl (hs.ev rfl) (hs.seg (i:=3) rfl) rfl) rfl fun ac hs=>?_
    refine s_q hs (c_cvUI un25 un3 (hs.ev rfl)) rfl fun ac hs=>?_
    refine s_q hs (c_loadW ty35 rfl (hs.ev rfl) (hs.seg (i:=0) rfl) (by rw [List.length_map]; exact cl_length hnl _)) rfl fun ac hs=>?_
    refine s_q hs (c_fld fl66_2 (hs.ev rfl)) rfl fun ac hs=>?_
    refine s_q hs (c_loadS un47 rfl (hs.ev rfl) (hs.seg (i:=2) rfl) (cred_path hlf _ _)) rfl fun ac hs=>?_
    refine s_call hs fu91 (.cons (hs.ev rfl) (.cons (hs.ev rfl) (.cons (hs.ev rfl) (.cons (hs.ev rfl) (.cons (hs.ev rfl) .nil))))) (ref07_Fold p.d p.ep (sq.toNat:Int) np (cl p m sq (nxt p m sn sq lf ws nw) (p.S - (m + 1))) ps _ (cl_length hnl _) hpl _ (hqp.fr0 hs.fr)) rfl fun ac ww v72 hf hp hs=>?_
    obtain ⟨L',⟨tv72,rfl,ps72,hps72,rfl⟩,hh⟩:=hp
    replace hs:=hs _ hh
    have hpl72:ps72.length≤np:=by have h9:=congrArg List.length hps72; rw [List.length_map] at h9; rw [h9]; exact foldX_le _ _ _ _ _ _
    refine zM hs fun ac hs=>?_
    refine s_q hs (c_extract (hs.ev rfl) rfl) rfl fun ac hs=>?_
    refine s_q hs (c_extract (hs.ev rfl) rfl) rfl fun ac hs=>?_
    refine s_q hs (c_extract (hs.ev rfl) rfl) rfl fun ac hs=>?_
    refine s_alloc hs ty35 rfl fun ac ww g13 hs=>?_
    refine s_storeW (i:=0) hs ty35 rfl rfl rfl (by rw [List.length_map,foldB_length (cl_length hnl _)]) (all_map_B _) rfl fun ww hs=>?_
    refine zA hs fun ac hs=>?_
    refine zA hs fun ac hs=>?_
    refine s_end ?_
    replace hs:=hs.sub (F':=[(6,_),(8,_),(14,_)]) ⟨rfl,rfl,rfl,trivial⟩
    refine then_n (wp_seq (wp_reg ?_))
    refine zM hs fun ac hs=>?_
    refine zM hs fun ac hs=>?_
    refine s_appTT (i:=3) (j:=1) hs un87 ty177 rfl rfl rfl rfl rfl (RdP.ones (RdP.texts (hs.get (i:=1) rfl))) (by omega) rfl fun ac ww v78 hs=>?_
    refine zA hs fun ac hs=>?_
    refine s_end ?_
    replace hs:=hs.sub (F':=[(6,_)]) ⟨rfl,trivial⟩
    refine then_n (wp_ret ?_)
    refine s_ret hs rfl (.tmp (hs.tmp rfl) .nil) rfl ⟨_,rfl,hs.fr,?_⟩
    exact ⟨_,⟨ps2++ps72,by rw [List.map_append,hps,hps72]; rfl,rfl⟩,(hs.pick (L':=[_]) (.cons _ (.cons _ (.cons _ (.cons_cons _ (List.nil_sublist _)))))).made⟩
end Go.Proofs.YtklajbdbnnceiaaGreat
end

section
/- The law of quick checks. -/
namespace Go.Proofs.YtklajbdbnnceiaaGreat
open Go Go.Fw
open Sha
theorem keepS {w w':World} {p:Spr} {lk:Int} {K:Nat→Option Value} {t:Option Value} {b:Nat} {cs:Array Value} {T:TypeId} {fr:Nat × Nat} (hsp:SpAt w p lk K t) (hf:Fr (SpM p) w w') (hb:w.heap[b]?=some (.cells cs T fr)) (h1:Nat.beq 149 T=false:=by rfl) (h2:Nat.beq 203 T=false:=by rfl):w'.heap[b]?=some (.cells cs T fr) :=
  hf.keepT hb fun i hi=>hi.elim (fun e=>⟨_,_,_,e ▸ hsp.hg,h1⟩) fun e=>⟨_,_,_,e ▸ hsp.hc,h2⟩
theorem hPs_length {p:Spr} {m:Nat} {sn:Int} {sq:UInt32} (h:clRight p.W p.S p.H p.d m sn p.ep sq=true):(hPs p sq).length=p.H * 16:=gPath_length (ends_length p p.m) (seq_lt h) p.H (Nat.le_refl _)
theorem hRt_length {p:Spr}:(hRt p).length=16:=gNode_length (ends_length p p.m) p.H 0 (by unfold Spr.m; omega)
theorem far_right {W S H d m sn s2:Int} {ep sq:UInt32} {m2:Int} (h:clRight W S H d m sn ep sq=true) (h1:0≤s2) (h2:s2 < W) (h3:m≤m2) (h4:m2 < S):clRight W S H d m2 s2 ep sq=true:=by
  obtain ⟨hR,g1,g2,g3,g4,g5,g6,g7,g8⟩:=clRight_iff.1 h
  exact clRight_iff.2 ⟨hR,g1,g2,h1,h2,g5,g6,by omega,by omega⟩
end Go.Proofs.YtklajbdbnnceiaaGreat
end

section
/- A made spring stays. -/
namespace Go.Proofs.YtklajbdbnnceiaaGreat
open Go Go.Fw
open Sha
theorem row_kind {w:World} {v:Value} {n sz:Nat} {xs:List Value} {T:TypeId} (h:w.ownsRow 0 T sz v n xs) {k:Nat} (hk:v.ownBlock=some k):∃ cs fr,w.heap[k]?=some (.cells cs T fr):=by
  obtain ⟨h1,h2⟩:=h
  rcases h2 with ⟨rfl,_⟩ | ⟨g,cap,cur,rfl,hg,hb,_⟩
  · cases hk
  · simp only [Value.ownBlock,Option.some.injEq] at hk
    subst hk
    exact ⟨_,_,hb⟩
def otherK (T:TypeId):Bool:=!(Nat.beq T 149 || Nat.beq T 203 || Nat.beq T 36 || Nat.beq T 39 || Nat.beq T 211)
theorem other_ne {w:World} {b b':Nat} {cs cs':Array Value} {T T':TypeId} {fr fr':Nat × Nat} (h:w.heap[b]?=some (.cells cs T fr)) (h':w.heap[b']?=some (.cells cs' T' fr')) (hT:otherK T=true) (hT':otherK T'=false):b ≠ b':=fun e=>by
  subst e
  rw [h] at h'
  cases h'
  rw [hT] at hT'
  cases hT'
theorem grove_kind {w:World} {d:Int} {ep:UInt32} {g:Nat} {v:Value} {ps:List (Value × Nat × List UInt8)} (h:Has 0 w (groveL d ep g v ps)):∀ e∈groveL d ep g v ps,∀ k,e.keys k→∃ cs T fr,w.heap[k]?=some (.cells cs T fr)∧otherK T=false:=by
  intro e he k hk
  have hh:=h.holds e he
  simp only [groveL,List.mem_cons,List.not_mem_nil,or_false] at he
  rcases he with rfl | rfl
  · obtain ⟨e2,he2,hk2⟩:=hk
    have hh2:Has 0 w (textsL 39 (Ent.partS 36 16) v ps):=hh
    have h3:=hh2.holds e2 he2
    rcases List.mem_cons.1 he2 with rfl | h4
    · obtain ⟨cs,fr,h5⟩:=row_kind h3 hk2
      exact ⟨cs,_,fr,h5,rfl⟩
    · obtain ⟨q,_,rfl⟩:=List.mem_map.1 h4
      obtain ⟨cs,fr,h5⟩:=row_kind h3 hk2
      exact ⟨cs,_,fr,h5,rfl⟩
  · have hk:k=g:=hk
    subst hk
    exact ⟨_,_,_,hh,rfl⟩
theorem SpAt.other {w w':World} {p:Spr} {lk:Int} {K:Nat→Option Value} {t:Option Value} {M:Nat→Prop} (h:SpAt w p lk K t) (hf:Fr M w w') (hM:∀ k,M k→∃ cs T fr,w.heap[k]?=some (.cells cs T fr)∧otherK T=true):SpAt w' p lk K t:=by
  have nb:∀ {b:Nat} {cs:Array Value} {T:TypeId} {fr:Nat × Nat},w.heap[b]?=some (.cells cs T fr)→otherK T=false→¬ M b:=fun hb hT hm=>by
    obtain ⟨cs',T',fr',h1,h2⟩:=hM _ hm
    exact other_ne h1 hb h2 hT rfl
  refine ⟨(hf.block _ (heap_lt h.hg) (nb h.hg rfl)).trans h.hg,(hf.block _ (heap_lt h.hc) (nb h.hc rfl)).trans h.hc,fun q hq v hv=>(h.col q hq v hv).frk hf fun k hk=>?_,fun v hv=>⟨?_,(h.tree v hv).2⟩⟩
  · obtain ⟨b,cap,cur,rfl,h2,_⟩:=h.col q hq v hv
    simp only [Value.ownBlock,Option.some.injEq] at hk
    subst hk
    exact nb h2 rfl
  · obtain ⟨g,v',ps,h1,h2,h3,h4⟩:=(h.tree v hv).1
    exact ⟨g,v',ps,h1,h2,h3.same hf.size fun e he k hk=>by
      obtain ⟨cs,T,fr,h5,h6⟩:=grove_kind h3 e he k hk
      exact hf.block k (h3.lt e he k hk) (nb h5 h6),h4⟩
end Go.Proofs.YtklajbdbnnceiaaGreat
end

section
/- The law of what lasts. -/
namespace Go.Proofs.YtklajbdbnnceiaaGreat
open Go Go.Fw
open Sha
theorem ne_kind {w:World} {b b':Nat} {cs cs':Array Value} {T T':TypeId} {fr fr':Nat × Nat} (h:w.heap[b]?=some (.cells cs T fr)) (h':w.heap[b']?=some (.cells cs' T' fr')) (hT:Nat.beq T T'=false):b ≠ b':=fun e=>by
  subst e
  rw [h] at h'
  cases h'
  simp at hT
theorem two_keys {g h:Nat} {x y:List Value} {U V:TypeId} {k:Nat} (hm:(Ent.grp [.seg g x U,.seg h y V]).keys k):k=g∨k=h:=by
  obtain ⟨e,he,hk⟩:=hm
  simp only [List.mem_cons,List.not_mem_nil,or_false] at he
  rcases he with rfl | rfl
  · exact .inl hk
  · exact .inr hk
end Go.Proofs.YtklajbdbnnceiaaGreat
end

section
/- The law of what is made once. -/
namespace Go.Proofs.YtklajbdbnnceiaaGreat
open Go Go.Fw
open Sha
theorem SpAt.otherG {w w':World} {p:Spr} {lk:Int} {K:Nat→Option Value} {t:Option Value} {M:Nat→Prop} (h:SpAt w p lk K t) (hf:Fr M w w') (hM:∀ k,M k→∀ cs T fr,w.heap[k]?=some (.cells cs T fr)→otherK T=true):SpAt w' p lk K t:=by
  have nb:∀ {b:Nat} {cs:Array Value} {T:TypeId} {fr:Nat × Nat},w.heap[b]?=some (.cells cs T fr)→otherK T=false→¬ M b:=fun hb hT hm=>by
    rw [hM _ hm _ _ _ hb] at hT
    cases hT
  refine ⟨(hf.block _ (heap_lt h.hg) (nb h.hg rfl)).trans h.hg,(hf.block _ (heap_lt h.hc) (nb h.hc rfl)).trans h.hc,fun q hq v hv=>(h.col q hq v hv).frk hf fun k hk=>?_,fun v hv=>⟨?_,(h.tree v hv).2⟩⟩
  · obtain ⟨b,cap,cur,rfl,h2,_⟩:=h.col q hq v hv
    simp only [Value.ownBlock,Option.some.injEq] at hk
    subst hk
    exact nb h2 rfl
  · obtain ⟨g,v',ps,h1,h2,h3,h4⟩:=(h.tree v hv).1
    exact ⟨g,v',ps,h1,h2,h3.same hf.size fun e he k hk=>by
      obtain ⟨cs,T,fr,h5,h6⟩:=grove_kind h3 e he k hk
      exact hf.block k (h3.lt e he k hk) (nb h5 h6),h4⟩
end Go.Proofs.YtklajbdbnnceiaaGreat
end

section
/- The law of whoever shows a claim. -/
namespace Go.Proofs.YtklajbdbnnceiaaGreat
open Go Go.Fw
open Sha
theorem rungTs_good (d:Int) (ep sq:UInt32) (lv m:Nat) (f:Nat→List UInt8) (hf:∀ n,(f n).length=16):∀ n,∀ t∈rungTs d ep sq lv m f n,∃ kd tx,t=kd::tx∧tx.length≤140737488355199
  | 0,t,ht=>by simp [rungTs] at ht
  | n + 1,t,ht=>(List.mem_append.1 ht).elim (rungTs_good d ep sq lv m f hf n t) (lnode_good d ep sq _ _ (hf n) lv 0 t)
theorem txs_good (p:Spr) (m:Nat) (sq:UInt32):∀ t∈txs p m sq,∃ kd tx,t=kd::tx∧tx.length≤140737488355199:=fun t ht =>
  (List.mem_append.1 ht).elim (rungTs_good _ _ _ _ _ _ (fun n=>el_length _ _ _) _ t) (gnode_good _ _ _ p.H 0 t)
theorem rsX_good (d:Int) (ep sq:UInt32) (r x id:Int) (l ws:List UInt8) (n:Nat) (hl:l.length=16) (hw:ws.length=n * 16):∀ t∈rsX d ep sq r x id l ws n,∃ kd tx,t=kd::tx∧tx.length≤140737488355199:=fun t ht=>by
  unfold rsX riseX at ht
  split at ht
  · split at ht
    · exact lrise_good d ep sq r id.toNat l ws n hl hw n (Nat.le_refl _) t ht
    · simp at ht
  · simp at ht
theorem foldX_good (d:Int) (ep:UInt32) (i:Int) (l ws:List UInt8) (m:Nat) (hl:l.length=16):∀ t∈foldX d ep i l ws m,∃ kd tx,t=kd::tx∧tx.length≤140737488355199:=fun t ht=>by
  unfold foldX at ht
  split at ht
  · exact grise_good d ep i.toNat l ws hl m t ht
  · simp at ht
theorem cks_good {p:Spr} {m:Nat} {sn:Int} {sq:UInt32} {lf ws ps:List UInt8} {nw np:Nat} (hlf:lf.length=16) (hwl:ws.length=nw * 16):∀ t∈cks p m sn sq lf ws nw ps np,∃ kd tx,t=kd::tx∧tx.length≤140737488355199:=fun t ht=>by
  have hnl:(nxt p m sn sq lf ws nw).length=16:=rsB_length hlf _
  unfold cks at ht
  rcases List.mem_append.1 ht with h | h
  · rcases List.mem_append.1 h with h | h
    · exact rsX_good _ _ _ _ _ _ _ _ _ hlf hwl t h
    · exact rungTs_good _ _ _ _ _ _ (fun n=>cl_length hnl n) _ t h
  · exact foldX_good _ _ _ _ _ _ (cl_length hnl _) t h
theorem txs_le {p:Spr} (ho:p.Ok) (hlv:lvOf p≤3) (m:Nat) (sq:UInt32):(txs p m sq).length≤2000:=by
  have h1:=rungTs_le p.d p.ep sq (m:=m) (fun n=>el p sq.toNat (m + n)) hlv (p.S - m)
  have h2:=pow64 ho.h6
  have h3:=ho.s16
  rw [txs,List.length_append,gNodeTs_length]
  omega
theorem cks_le {p:Spr} (ho:p.Ok) (hlv:lvOf p≤3) {m:Nat} {sn:Int} {sq:UInt32} {lf ws ps:List UInt8} {nw np:Nat}:(cks p m sn sq lf ws nw ps np).length≤2000 + nw + np:=by
  have h1:=rungTs_le p.d p.ep sq (m:=m + 1) (cl p m sq (nxt p m sn sq lf ws nw)) hlv (p.S - (m + 1))
  have h2:=rsX_le p.d p.ep sq (m:Int) p.W sn lf ws nw
  have h3:=foldX_le p.d p.ep (sq.toNat:Int) (cl p m sq (nxt p m sn sq lf ws nw) (p.S - (m + 1))) ps np
  have h4:=ho.s16
  rw [cks,List.length_append,List.length_append]
  omega
end Go.Proofs.YtklajbdbnnceiaaGreat
end

section
/- The oracle's seeds; rows compared. -/
namespace Go.Proofs.YtklajbdbnnceiaaGreat
open Go Go.Fw
open Sha
def sdB (d:List UInt8) (k:Nat):List UInt8:=d.set 0 (i8 (k:Int))
theorem sdB_length {d:List UInt8} (h:d.length=32) (k:Nat):(sdB d k).length=32:=by simp [sdB,h]
def sdR (d:List UInt8):Nat→List UInt8
  | 0=>[]
  | n + 1=>sdR d n++sdB d n
theorem sdR_length {d:List UInt8} (h:d.length=32):∀ n,(sdR d n).length=n * 32
  | 0=>rfl
  | n + 1=>by rw [sdR,List.length_append,sdR_length h n,sdB_length h]; omega
def rowD (n:Nat) (ws:List UInt8):Value→List Ent→World→Prop:=fun v L _=>L=[.row v n (ws.map B) 24 32]
def rowD' (n:Nat) (ws:List UInt8):Value→List Ent→World→Prop:=fun v L _=>L=[.row v n (ws.map B) 129 32]
theorem set0 {dd:List UInt8} (h:dd.length=32) (y:UInt8):(dd.map B).take (0 + 0 * 1)++[B y]++(dd.map B).drop (0 + 0 * 1 + 1)=(dd.set 0 y).map B:=by
  cases dd with
  | nil=>simp at h
  | cons x xs=>rfl
theorem take32 {ws:List UInt8} {k:Nat}:ws.take (k * 32)++(ws.drop (k * 32)).take 32=ws.take ((k + 1) * 32):=by
  rw [Nat.succ_mul]
  exact List.take_add.symm
theorem Rd.bytes_at32 {w:World} {ad:Option Addr} {cap n:Nat} {ws:List UInt8} (h:Rd w (.slice ad n cap) n (ws.map B)) (hl:ws.length=n * 32) (hn:0 < n) :
    ∃ b o T fr all,ad=some ⟨b,o,none⟩∧w.heap[b]?=some (.cells all T fr)∧(all.toList.drop o).take (n * 32)=ws.map B:=by
  obtain ⟨b,o,cap',T,fr,all,e,_,_,hb,hc⟩:=Rd.at_ h (by intro e; have:=congrArg List.length e; rw [List.length_map] at this; simp only [List.length_nil] at this; omega)
  cases e
  rw [List.length_map,hl] at hc
  exact ⟨b,o,T,fr,all,rfl,hb,hc⟩
theorem piece32 {all:List Value} {o n k:Nat} {ws:List UInt8} (h:(all.drop o).take (n * 32)=ws.map B) (hl:ws.length=n * 32) (hk:k < n):(all.drop (o + k * 32)).take 32=((ws.drop (k * 32)).take 32).map B:=by
  have hle:=Nat.mul_le_mul_right 32 (show k + 1≤n from hk)
  rw [Nat.succ_mul] at hle
  have h2:(((all.drop o).take (n * 32)).drop (k * 32)).take 32=((ws.map B).drop (k * 32)).take 32:=by rw [h]
  rw [List.drop_take,List.take_take,Nat.min_eq_left (by omega),List.drop_drop] at h2
  rw [h2,List.map_take,List.map_drop]
theorem tr_made (n:Nat) (S H:Int) (d:List UInt8) (hd:d.length=32) (hn:n≤1000) (w:World) :Ctr Tryz.prog 49 [.agg #[I (n:Int),I S,I H],.agg (d.map B).toArray] w (fun _=>False) (outE (rowD n (sdR d n)) w):=by
  refine fn_start (N:=21) Tryz.func49 rfl rfl rfl fun ac hk=>?_
  have hs:=St.start hk w
  refine wp_seq (wp_reg ?_)
  refine s_box hs rfl rfl rfl fun ac ww g2 hs=>?_
  refine s_box hs rfl rfl rfl fun ac ww g3 hs=>?_
  refine zA hs fun ac hs=>?_
  refine s_end ?_
  replace hs:=hs.sub (F':=[(2,_),(3,_),(4,_)]) ⟨rfl,rfl,rfl,trivial⟩
  refine then_n (wp_seq (wp_reg ?_))
  refine zA hs fun ac hs=>?_
  refine s_end ?_
  replace hs:=hs.nilrow 24 32
  refine then_n (wp_seq (wp_seq (wp_reg ?_)))
  refine s_q hs (c_fld fl23_0 (hs.ev rfl)) rfl fun ac hs=>?_
  refine s_q hs (c_loadS un3 rfl (hs.ev rfl) (hs.seg (i:=2) rfl) rfl) rfl fun ac hs=>?_
  refine zM hs fun ac hs=>?_
  refine s_end ?_
  replace hs:=hs.sub (F':=[(3,_),(4,_),(5,_),(8,_),(9,_)]) ⟨rfl,rfl,rfl,rfl,rfl,trivial⟩
  refine then_n (wp_block ?_)
  refine s_loop hs (X:=Nat × Value × List UInt8) (fun x=>[(5,x.2.1),(9,I x.1)]) [(3,_),(4,_),(8,_)] (fun x=>[.row x.2.1 x.1 ((sdR d x.1).map B) 24 32,.seg g3 (x.2.2.map B) 24,.seg g2 [I (n:Int),I S,I H] 23]) (fun m x=>x.1≤n∧m=n - x.1∧x.2.2.length=32∧∀ y,x.2.2.set 0 y=d.set 0 y) (_) ((0,_,d)) (⟨Nat.zero_le _,rfl,hd,fun _=>rfl⟩) ⟨rfl,rfl,rfl,rfl,rfl,trivial⟩ rfl ?_
  rintro n ⟨k,v,dd⟩ ac ww hok hs
  simp only [List.cons_append,List.nil_append] at hs
  obtain ⟨hk,rfl,hdl,hdd⟩:=hok
  simp only at hk hdl hdd hs
  refine wp_seq (wp_reg ?_)
  refine s_q hs (c_lssI (hs.ev rfl) (hs.ev rfl)) rfl fun ac hs=>?_
  refine s_end (then_n (wp_seq ?_))
  refine s_cond hs rfl (fun hc=>?_) (fun hc=>?_)
  · try simp only [z1,z2,z3,z4,z5,z6,z7] at hc
    have hkn:k < n:=by omega
    refine wp_skip (then_n (wp_seq (wp_block (wp_seq (wp_reg ?_)))))
    refine zM hs fun ac hs=>?_
    refine zA hs fun ac hs=>?_
    refine s_end (then_n (wp_seq (wp_reg ?_)))
    refine zM hs fun ac hs=>?_
    refine s_q hs (c_cvIB un3 un5 (hs.ev rfl)) rfl fun ac hs=>?_
    refine s_q hs (c_idxA un24 ty5 (hs.ev rfl) (hs.ev rfl) rfl (by decide)) rfl fun ac hs=>?_
    refine s_store (i:=1) hs ty5 rfl rfl rfl rfl rfl rfl (by simp [hdl]) (set0 hdl _) fun ww hs=>?_
    rw [hdd] at hs
    replace hs:=hs.toL (L':=[_,.seg g3 ((sdB d k).map B) 24,_]) rfl
    refine s_end (then_n (wp_reg ?_))
    refine zM hs fun ac hs=>?_
    refine s_q hs (c_loadW ty24 rfl (hs.ev rfl) (hs.seg (i:=1) rfl) (by rw [List.length_map,sdB_length hd])) rfl fun ac hs=>?_
    refine s_bslice hs un100 ty24 (.cons (hs.ev rfl) .nil) rfl (by intro v hv; simp only [List.mem_singleton] at hv; subst hv; simp [Value.cells,sdB_length hd]) (by decide) (show _=(sdB d k).map B by simp [flatCells,Value.cells]) rfl fun ac ww g17 hs=>?_
    refine s_append (i:=1) hs un100 ty24 (by decide) rfl rfl rfl (Rd.of_seg (n:=1) (hs.seg (i:=0) rfl) (Nat.le_refl _) (by decide) (List.take_of_length_le (by simp))) (by rw [List.length_map,sdB_length hd]) (all_map_B _) (by unfold maxLen; omega) (by omega) rfl fun ac ww v18 hf hnil hs=>?_
    refine zA hs fun ac hs=>?_
    refine s_end (blk_n (then_n (wp_reg ?_)))
    refine s_q hs (c_addI (hs.ev rfl) (hs.ev rfl) (by omega) (by omega)) rfl fun ac hs=>?_
    refine zM hs fun ac hs=>?_
    refine s_end (then_n ?_)
    replace hs:=hs.pick (L':=[_,_,_]) (.cons _ (.refl _))
    exact ⟨n - (k + 1),by (try simp only); omega,(k + 1,_,sdB d k),⟨by (try simp only); omega,rfl,sdB_length hd k,fun y=>by simp [sdB,List.set_set]⟩,St.next hs ⟨rfl,rfl,rfl,rfl,rfl,trivial⟩ (by rw [show sdR d (k + 1)=sdR d k++sdB d k from rfl,List.map_append])⟩
  · try simp only [z1,z2,z3,z4,z5,z6,z7] at hc
    obtain rfl:n=k:=by omega
    refine wp_exit (then_e (then_e (blk_hit (then_n (wp_seq (wp_reg ?_))))))
    refine zM hs fun ac hs=>?_
    refine zA hs fun ac hs=>?_
    refine s_end ?_
    replace hs:=hs.sub (F':=[(4,_)]) ⟨rfl,trivial⟩
    refine then_n (wp_ret ?_)
    refine s_ret hs rfl (.tmp (hs.tmp rfl) .nil) rfl ⟨_,rfl,hs.fr,?_⟩
    exact ⟨_,rfl,(hs.pick (L':=[_]) (.cons_cons _ (List.nil_sublist _))).made⟩
theorem tr_digests (n:Nat) (ws:List UInt8) (wv:Value) (hwl:ws.length=n * 32) (hn:n≤1000) (w:World) (hq:Rd w wv n (ws.map B)):Ctr Tryz.prog 51 [wv] w (fun _=>False) (outE (rowD' n ws) w):=by
  obtain ⟨wad,wcap,rfl,hwc,hwm⟩:=Rd.sl hq
  refine fn_start (N:=18) Tryz.func51 rfl rfl rfl fun ac hk=>?_
  have hs:=St.start hk w
  refine wp_seq (wp_reg ?_)
  refine zA hs fun ac hs=>?_
  refine s_end (then_n (wp_seq (wp_reg ?_)))
  refine zA hs fun ac hs=>?_
  refine s_end ?_
  replace hs:=hs.nilrow 129 32
  refine then_n (wp_seq (wp_seq (wp_reg ?_)))
  refine zM hs fun ac hs=>?_
  refine s_q hs (c_lenS un100 (hs.ev rfl)) rfl fun ac hs=>?_
  refine zM hs fun ac hs=>?_
  refine s_end ?_
  replace hs:=hs.sub (F':=[(2,_),(3,_),(6,_),(7,_),(8,_)]) ⟨rfl,rfl,rfl,rfl,rfl,trivial⟩
  refine then_n (wp_block ?_)
  refine s_loop hs (X:=Nat × Value) (fun x=>[(3,x.2),(8,I x.1)]) [(2,_),(6,_),(7,_)] (fun x=>[.row x.2 x.1 ((ws.take (x.1 * 32)).map B) 129 32]) (fun m x=>x.1≤n∧m=n - x.1) (_) ((0,_)) (⟨Nat.zero_le _,rfl⟩) ⟨rfl,rfl,rfl,rfl,rfl,trivial⟩ (by rw [Nat.zero_mul,List.take_zero]; rfl) ?_
  rintro n ⟨k,v⟩ ac ww hok hs
  simp only [List.cons_append,List.nil_append] at hs
  obtain ⟨hk,rfl⟩:=hok
  simp only at hk hs
  refine wp_seq (wp_reg ?_)
  refine s_q hs (c_lssI (hs.ev rfl) (hs.ev rfl)) rfl fun ac hs=>?_
  refine s_end (then_n (wp_seq ?_))
  refine s_cond hs rfl (fun hc=>?_) (fun hc=>?_)
  · try simp only [z1,z2,z3,z4,z5,z6,z7] at hc
    have hkn:k < n:=by omega
    have hle:=Nat.mul_le_mul_right 32 (show k + 1≤n from hkn)
    rw [Nat.succ_mul] at hle
    have hcl:((ws.drop (k * 32)).take 32).length=32:=by rw [List.length_take,List.length_drop]; omega
    obtain ⟨pb,po,pT,pf,pall,rfl,hpb,hps⟩:=Rd.bytes_at32 hq hwl (by omega)
    refine wp_skip (then_n (wp_seq (wp_block (wp_seq (wp_reg ?_)))))
    refine s_q hs (c_idxS (j:=k) un100 ty24 (hs.ev rfl) (hs.ev rfl) (by omega) (by omega)) rfl fun ac hs=>?_
    refine s_q hs (c_loadA ty24 rfl (hs.ev rfl) (hs.old hpb id) (piece32 hps hwl hkn) (by rw [List.length_map,hcl])) rfl fun ac hs=>?_
    refine s_alloc hs ty24 rfl fun ac ww g5 hs=>?_
    refine s_storeW (i:=0) hs ty24 rfl rfl rfl (by rw [List.length_map,hcl]) (all_map_B _) rfl fun ww hs=>?_
    refine s_end (then_n (wp_reg ?_))
    refine zM hs fun ac hs=>?_
    refine s_q hs (c_loadW ty24 rfl (hs.ev rfl) (hs.seg (i:=0) rfl) (by rw [List.length_map,hcl])) rfl fun ac hs=>?_
    refine s_bslice hs un105 ty129 (.cons (hs.ev rfl) .nil) rfl (by intro v hv; simp only [List.mem_singleton] at hv; subst hv; simp [Value.cells]; omega) (by decide) (show _=((ws.drop (k * 32)).take 32).map B by simp [flatCells,Value.cells]) rfl fun ac ww g14 hs=>?_
    refine s_append (i:=2) hs un105 ty129 (by decide) rfl rfl rfl (Rd.of_seg (n:=1) (hs.seg (i:=0) rfl) (Nat.le_refl _) (by decide) (List.take_of_length_le (by simp))) (by rw [List.length_map,hcl]) (all_map_B _) (by unfold maxLen; omega) (by omega) rfl fun ac ww v15 hf hnil hs=>?_
    refine zA hs fun ac hs=>?_
    refine s_end (blk_n (then_n (wp_reg ?_)))
    refine s_q hs (c_addI (hs.ev rfl) (hs.ev rfl) (by omega) (by omega)) rfl fun ac hs=>?_
    refine zM hs fun ac hs=>?_
    refine s_end (then_n ?_)
    replace hs:=hs.pick (L':=[_]) (.cons _ (.cons _ (.refl _)))
    exact ⟨n - (k + 1),by (try simp only); omega,(k + 1,_),⟨by (try simp only); omega,rfl⟩,St.next hs ⟨rfl,rfl,rfl,rfl,rfl,trivial⟩ (by rw [← take32,List.map_append]; try rfl)⟩
  · try simp only [z1,z2,z3,z4,z5,z6,z7] at hc
    obtain rfl:n=k:=by omega
    rw [List.take_of_length_le (by omega)] at hs
    refine wp_exit (then_e (then_e (blk_hit (then_n (wp_seq (wp_reg ?_))))))
    refine zM hs fun ac hs=>?_
    refine zA hs fun ac hs=>?_
    refine s_end ?_
    replace hs:=hs.sub (F':=[(2,_)]) ⟨rfl,trivial⟩
    refine then_n (wp_ret ?_)
    refine s_ret hs rfl (.tmp (hs.tmp rfl) .nil) rfl ⟨_,rfl,hs.fr,?_⟩
    exact ⟨_,rfl,hs.made⟩
theorem tr_EqualFunc (n m:Nat) (xs ys:List UInt8) (xv yv:Value) (hxl:xs.length=n * 16) (hyl:ys.length=m * 16) (w:World) (hqx:Rd w xv n (xs.map B)) (hqy:Rd w yv m (ys.map B)):Ctr Tryz.prog 127 [xv,yv,.func (.func 93) #[] #[]] w (fun _=>False) (fun v _=>v=.bool (decide (xs=ys))):=by
  have hnl:=hqx.le
  have hml:=hqy.le
  obtain ⟨xad,xcap,rfl,hxc,hxm⟩:=Rd.sl hqx
  obtain ⟨yad,ycap,rfl,hyc,hym⟩:=Rd.sl hqy
  refine fn_start (N:=32) Tryz.func127 rfl rfl rfl fun ac hk=>?_
  have hs:=St.start hk w
  refine wp_seq (wp_reg ?_)
  refine zA hs fun ac hs=>?_
  refine s_end (then_n (wp_seq (wp_seq (wp_reg ?_))))
  refine zM hs fun ac hs=>?_
  refine s_q hs (c_lenS un39 (hs.ev rfl)) rfl fun ac hs=>?_
  refine zM hs fun ac hs=>?_
  refine s_q hs (c_lenS un39 (hs.ev rfl)) rfl fun ac hs=>?_
  refine s_q hs (c_neqI (hs.ev rfl) (hs.ev rfl)) rfl fun ac hs=>?_
  refine s_end ?_
  replace hs:=hs.sub (F':=[(0,_),(1,_),(2,_),(6,_),(14,_)]) ⟨rfl,rfl,rfl,rfl,rfl,trivial⟩
  refine then_n ?_
  refine s_cond hs rfl (fun hc=>?_) (fun hc=>?_)
  · try simp only [z1,z2,z3,z4,z5,z6,z7] at hc
    have hne:xs ≠ ys:=fun e=>hc (by rw [e,hyl] at hxl; omega)
    refine wp_seq (wp_reg ?_)
    refine zA hs fun ac hs=>?_
    refine s_end ?_
    replace hs:=hs.sub (F':=[(0,_),(1,_),(2,_),(6,_)]) ⟨rfl,rfl,rfl,rfl,trivial⟩
    refine then_n (wp_ret (then_r ?_))
    refine s_ret hs rfl (.tmp (hs.tmp rfl) .nil) rfl ⟨_,rfl,hs.fr,?_⟩
    show Value.bool false=_
    rw [decide_eq_false hne]
  · try simp only [z1,z2,z3,z4,z5,z6,z7] at hc
    obtain rfl:n=m:=by omega
    refine wp_skip (then_n (wp_seq (wp_seq (wp_reg ?_))))
    refine zM hs fun ac hs=>?_
    refine s_q hs (c_lenS un39 (hs.ev rfl)) rfl fun ac hs=>?_
    refine zM hs fun ac hs=>?_
    refine s_end ?_
    replace hs:=hs.sub (F':=[(1,_),(2,_),(6,_),(15,_),(16,_),(17,_)]) ⟨rfl,rfl,rfl,rfl,rfl,rfl,trivial⟩
    refine then_n (wp_block ?_)
    refine s_loop hs (X:=Nat) (fun k=>[(17,I k)]) [(1,_),(2,_),(15,_),(16,_)] (fun _=>[]) (fun j k=>k≤n∧j=n - k∧∀ i,i < k→chunk xs i=chunk ys i) (_) (0) (⟨Nat.zero_le _,rfl,fun _ h=>absurd h (by omega)⟩) ⟨rfl,rfl,rfl,rfl,rfl,trivial⟩ rfl ?_
    rintro n k ac ww hok hs
    simp only [List.cons_append,List.nil_append] at hs
    obtain ⟨hk,rfl,heq⟩:=hok
    refine wp_seq (wp_reg ?_)
    refine s_q hs (c_lssI (hs.ev rfl) (hs.ev rfl)) rfl fun ac hs=>?_
    refine s_end (then_n (wp_seq ?_))
    refine s_cond hs rfl (fun hc=>?_) (fun hc=>?_)
    · try simp only [z1,z2,z3,z4,z5,z6,z7] at hc
      have hkn:k < n:=by omega
      obtain ⟨pb,po,pT,pf,pall,rfl,hpb,hps⟩:=Rd.bytes_at hqx hxl (by omega)
      obtain ⟨qb,qo,qT,qf,qall,rfl,hqb,hqs⟩:=Rd.bytes_at hqy hyl (by omega)
      have hc1:=chunk_l hxl hkn
      have hc2:=chunk_l hyl hkn
      refine wp_skip (then_n (wp_seq (wp_block (wp_seq (wp_reg ?_)))))
      refine zM hs fun ac hs=>?_
      refine s_q hs (c_idxS (j:=k) un39 ty36 (hs.ev rfl) (hs.ev rfl) (by omega) (by omega)) rfl fun ac hs=>?_
      refine s_q hs (c_loadA ty36 rfl (hs.ev rfl) (hs.old hpb id) (rdpiece hps hxl hkn) (by rw [List.length_map,hc1])) rfl fun ac hs=>?_
      refine s_alloc hs ty36 rfl fun ac ww g8 hs=>?_
      refine zA hs fun ac hs=>?_
      refine s_storeW (i:=0) hs ty36 rfl rfl rfl (by rw [List.length_map,hc1]) (all_map_B _) rfl fun ww hs=>?_
      refine s_end (then_n (wp_seq (wp_reg ?_)))
      refine zM hs fun ac hs=>?_
      refine zM hs fun ac hs=>?_
      refine s_q hs (c_idxS (j:=k) un39 ty36 (hs.ev rfl) (hs.ev rfl) (by omega) (by omega)) rfl fun ac hs=>?_
      refine s_q hs (c_loadA ty36 rfl (hs.ev rfl) (hs.old hqb id) (rdpiece hqs hyl hkn) (by rw [List.length_map,hc2])) rfl fun ac hs=>?_
      refine s_alloc hs ty36 rfl fun ac ww g9 hs=>?_
      refine s_storeW (i:=0) hs ty36 rfl rfl rfl (by rw [List.length_map,hc2]) (all_map_B _) rfl fun ww hs=>?_
      refine s_end (then_n (wp_seq (wp_reg ?_)))
      refine zM hs fun ac hs=>?_
      refine s_q hs (c_loadW ty36 rfl (hs.ev rfl) (hs.seg (i:=1) rfl) (by rw [List.length_map,hc1])) rfl fun ac hs=>?_
      refine s_q hs (c_loadW ty36 rfl (hs.ev rfl) (hs.seg (i:=0) rfl) (by rw [List.length_map,hc2])) rfl fun ac hs=>?_
      refine s_callV hs fu93 rfl (.cons (hs.ev rfl) (.cons (hs.ev rfl) .nil)) (mac_Same (chunk xs k) (chunk ys k) hc1 hc2 _) rfl fun ac ww v29 hf hp hs=>?_
      obtain rfl:=hp
      replace hs:=hs [] (.nil _ _)
      refine s_q hs (c_not (hs.ev rfl)) rfl fun ac hs=>?_
      refine s_end (then_n ?_)
      refine s_cond hs rfl (fun hc=>?_) (fun hc=>?_)
      · try simp only [z1,z2,z3,z4,z5,z6,z7] at hc
        have hdf:¬ chunk xs k=chunk ys k:=by simpa using hc
        refine wp_seq (wp_reg ?_)
        refine zA hs fun ac hs=>?_
        refine s_end (then_n (wp_ret (blk_r (then_r (then_r (blk_r (then_r ?_)))))))
        refine s_ret hs rfl (.tmp (hs.tmp rfl) .nil) rfl ⟨_,rfl,hs.fr,?_⟩
        show Value.bool false=_
        rw [decide_eq_false fun e=>hdf (by rw [e])]
      · try simp only [z1,z2,z3,z4,z5,z6,z7] at hc
        have hsm:chunk xs k=chunk ys k:=by simpa using hc
        refine wp_skip (blk_n (then_n (wp_reg ?_)))
        refine s_q hs (c_addI (hs.ev rfl) (hs.ev rfl) (by omega) (by omega)) rfl fun ac hs=>?_
        refine zM hs fun ac hs=>?_
        refine s_end (then_n ?_)
        replace hs:=hs.pick (L':=[]) (List.nil_sublist _)
        exact ⟨n - (k + 1),by omega,k + 1,⟨by omega,rfl,fun i hi=>by
            by_cases e:i=k
            · subst e; exact hsm
            · exact heq i (by omega)⟩,St.next hs ⟨rfl,rfl,rfl,rfl,rfl,trivial⟩ rfl⟩
    · try simp only [z1,z2,z3,z4,z5,z6,z7] at hc
      obtain rfl:n=k:=by omega
      refine wp_exit (then_e (then_e (blk_hit (then_n (wp_seq (wp_reg ?_))))))
      refine zA hs fun ac hs=>?_
      refine s_end ?_
      replace hs:=hs.sub (F':=[(6,_)]) ⟨rfl,trivial⟩
      refine then_n (wp_ret ?_)
      refine s_ret hs rfl (.tmp (hs.tmp rfl) .nil) rfl ⟨_,rfl,hs.fr,?_⟩
      show Value.bool true=_
      rw [decide_eq_true (sums_same hxl hyl heq)]
theorem tr_sums (n m:Nat) (xs ys:List UInt8) (xv yv:Value) (hxl:xs.length=n * 16) (hyl:ys.length=m * 16) (w:World) (hqx:Rd w xv n (xs.map B)) (hqy:Rd w yv m (ys.map B)):Ctr Tryz.prog 98 [xv,yv] w (fun _=>False) (fun v _=>v=.bool (decide (xs=ys))):=by
  refine fn_start (N:=8) Tryz.func98 rfl rfl rfl fun ac hk=>?_
  have hs:=St.start hk w
  refine wp_seq (wp_reg ?_)
  refine zA hs fun ac hs=>?_
  refine s_end (then_n (wp_seq (wp_reg ?_)))
  refine zM hs fun ac hs=>?_
  refine zM hs fun ac hs=>?_
  refine s_call hs fu127 (.cons (hs.ev rfl) (.cons (hs.ev rfl) (.cons (hs.ev rfl) .nil))) (tr_EqualFunc n m xs ys xv yv hxl hyl _ (hqx.fr0 hs.fr) (hqy.fr0 hs.fr)) rfl fun ac ww v7 hf hp hs=>?_
  obtain rfl:=hp
  replace hs:=hs [] (.nil _ _)
  refine zA hs fun ac hs=>?_
  refine s_end ?_
  replace hs:=hs.sub (F':=[(4,_)]) ⟨rfl,trivial⟩
  refine then_n (wp_ret ?_)
  refine s_ret hs rfl (.tmp (hs.tmp rfl) .nil) rfl ⟨_,rfl,hs.fr,?_⟩
  rfl
end Go.Proofs.YtklajbdbnnceiaaGreat
end

section
/- The oracle. -/
namespace Go.Proofs.YtklajbdbnnceiaaGreat
open Go Go.Fw
open Sha
def RdT (w:World) (v:Value) (n sz:Nat) (l:List Value) (T:TypeId):Prop :=
  l.length=n * sz∧∃ b cap cur,v=.slice (some ⟨b,0,none⟩) n cap∧w.heap[b]?=some (.cells cur T (0,0))∧n≤cap∧cap≤maxLen∧cur.size=cap * sz∧cur.toList.take (n * sz)=l
theorem RdT.row {w:World} {v:Value} {n sz:Nat} {l:List Value} {T:TypeId} (h:w.ownsRow 0 T sz v n l) (hn:0 < n):RdT w v n sz l T:=by
  obtain ⟨h1,⟨_,h2⟩ | ⟨g,cap,cur,h2,_,h3,h4,h5,h6,h7⟩⟩:=h
  · omega
  · exact ⟨h1,g,cap,cur,h2,h3,h4,h5,h6,h7⟩
theorem RdT.frM {w w':World} {v:Value} {n sz:Nat} {l:List Value} {T:TypeId} {M:Nat→Prop} (h:RdT w v n sz l T) (hf:Fr M w w') (hM:∀ k,M k→∀ cs fr,w.heap[k]? ≠ some (Obj.cells cs T fr)):RdT w' v n sz l T:=by
  obtain ⟨h1,g,cap,cur,h2,h3,h4,h5,h6,h7⟩:=h
  exact ⟨h1,g,cap,cur,h2,(hf.block g (heap_lt h3) fun hm=>hM g hm _ _ h3).trans h3,h4,h5,h6,h7⟩
theorem RdT.fr0 {w w':World} {v:Value} {n sz:Nat} {l:List Value} {T:TypeId} (h:RdT w v n sz l T) (hf:Fr0 w w'):RdT w' v n sz l T:=h.frM hf fun _ hm=>hm.elim
structure Orc where
  g:Nat
  mb:Nat
  n:Nat
  dv:Value
  W:Int
  S:Int
  H:Int
  sd:List UInt8
structure Orc.Ok (o:Orc):Prop where
  hn:(o.n:Int)=o.W
  right:spRight o.W o.S o.H=true
  sd:o.sd.length=o.n * 32
def Orc.seed (o:Orc) (d:Int):List UInt8:=(o.sd.drop (d.toNat * 32)).take 32
open Classical in
noncomputable def mapO (s:Option Spr):Lit→Option Value:=fun q=>match s with
  | none=>none
  | some p=>if keyOf Tryz.prog 230 (.agg #[I p.d,U p.ep])=some q then some (.pointer (some ⟨p.g,0,none⟩)) else none
theorem mapO_put {p:Spr} {q:Lit} (h:keyOf Tryz.prog 230 (.agg #[I p.d,U p.ep])=some q):putL (mapO none) q (.pointer (some ⟨p.g,0,none⟩))=mapO (some p):=by
  funext x
  by_cases e:x=q
  · subst e
    rw [putL_same]
    simp [mapO,h]
  · rw [putL_other e]
    have:¬ q=x:=fun e2=>e e2.symm
    simp [mapO,h,this]
theorem mapO_get {p:Spr} {q:Lit} (h:keyOf Tryz.prog 230 (.agg #[I p.d,U p.ep])=some q):mapO (some p) q=some (.pointer (some ⟨p.g,0,none⟩)):=by simp [mapO,h]
theorem at_keyed:Maps.Keyed Tryz.prog 230:=iu_keyed (by kernel_rfl) Tryz.underlying230 (by decide +kernel) (by kernel_rfl)
theorem at_key {d:Int} (h:-9223372036854775808≤d∧d≤9223372036854775807) (ep:UInt32):∃ q,keyOf Tryz.prog 230 (.agg #[I d,U ep])=some q :=
  iu_key Tryz.underlying230 (by kernel_rfl) (by kernel_rfl) Tryz.underlying3 Tryz.underlying25 rfl rfl (by kernel_rfl) (by kernel_rfl) (by kernel_rfl) ⟨_,rfl⟩ h ep
def nbO:Option Spr→Nat
  | none=>0
  | some _=>1
structure OrAt (w:World) (o:Orc) (s:Option Spr):Prop where
  ok:o.Ok
  hg:w.heap[o.g]?=some (.cells #[I o.W,I o.S,I o.H,o.dv,.map (some o.mb)] 191 (0,0))
  rd:RdT w o.dv o.n 32 (o.sd.map B) 129
  mp:MapV Tryz.prog 230 o.mb (nbO s) (mapO s) w
  sp:∀ p,s=some p→SpIs p o.W o.S o.H (o.seed p.d) p.d p.ep∧spFits o.W o.S o.H p.d p.ep=true∧SpSome w p
theorem OrAt.fr0 {w w':World} {o:Orc} {s:Option Spr} (h:OrAt w o s) (hf:Fr0 w w'):OrAt w' o s:=by
  obtain ⟨es,cl,hb⟩:=h.mp.blk
  exact ⟨h.ok,(hf.block _ (heap_lt h.hg) id).trans h.hg,h.rd.fr0 hf,h.mp.loc (hf.block _ (heap_lt hb) id),fun p hp=>⟨(h.sp p hp).1,(h.sp p hp).2.1,(h.sp p hp).2.2.fr0 hf⟩⟩
theorem OrAt.mapBlk {w:World} {o:Orc} {s:Option Spr} (h:OrAt w o s):∀ k,k=o.mb→∀ cs T fr,w.heap[k]? ≠ some (Obj.cells cs T fr):=by
  rintro k rfl cs T fr hb
  obtain ⟨es,cl,h2⟩:=h.mp.blk
  rw [hb] at h2
  cases h2
theorem spBlk {w:World} {p:Spr} (h:SpSome w p) {k:Nat} (hk:SpM p k):∃ cs T fr,w.heap[k]?=some (.cells cs T fr)∧(Nat.beq 149 T || Nat.beq 203 T)=true:=by
  obtain ⟨K,t,h⟩:=h
  rcases hk with rfl | rfl
  · exact ⟨_,_,_,h.hg,rfl⟩
  · exact ⟨_,_,_,h.hc,rfl⟩
theorem OrAt.spring {w w':World} {o:Orc} {p:Spr} (h:OrAt w o (some p)) (hf:Fr (SpM p) w w') (hs:SpSome w' p):OrAt w' o (some p):=by
  have hp:=h.sp p rfl
  have keep:∀ {k:Nat} {x:Obj},w.heap[k]?=some x→(∀ cs T fr,x=.cells cs T fr→(Nat.beq 149 T || Nat.beq 203 T)=false)→w'.heap[k]?=some x:=fun {k x} hk hx=>by
    refine (hf.block k (heap_lt hk) fun hm=>?_).trans hk
    obtain ⟨cs,T,fr,h1,h2⟩:=spBlk hp.2.2 hm
    rw [hk] at h1
    rw [hx cs T fr (Option.some.inj h1)] at h2
    cases h2
  obtain ⟨es,cl,hb⟩:=h.mp.blk
  obtain ⟨r1,b,cap,cur,r2,r3,r4⟩:=h.rd
  refine ⟨h.ok,keep h.hg (fun cs T fr e=>by cases e; rfl),⟨r1,b,cap,cur,r2,keep r3 (fun cs T fr e=>by cases e; rfl),r4⟩,h.mp.loc ((keep hb fun cs T fr e=>by cases e).trans hb.symm),fun q hq=>?_⟩
  cases hq
  exact ⟨hp.1,hp.2.1,hs⟩
abbrev OrM (o:Orc) (s:Option Spr):Nat→Prop:=fun k=>k=o.mb∨∃ p,s=some p∧SpM p k
theorem SpSome.frB {w w':World} {p:Spr} {M:Nat→Prop} (h:SpSome w p) (hf:Fr M w w') (hM:∀ k,M k→∀ cs T fr,w.heap[k]? ≠ some (Obj.cells cs T fr)):SpSome w' p:=by
  obtain ⟨K,t,h⟩:=h
  exact ⟨K,t,h.otherG hf fun k hk cs T fr hb=>absurd hb (hM k hk cs T fr)⟩
def SpB (w:World) (p:Spr) (Bd:Nat→Prop):Prop:=∃ K t,SpAt w p 0 K t∧SpFr w p K t Bd
theorem SpSome.b {w:World} {p:Spr} (h:SpSome w p):SpB w p (w.heap.size≤·):=by
  obtain ⟨K,t,h⟩:=h
  exact ⟨K,t,h,h.free⟩
theorem SpB.one {w:World} {p:Spr} {Bd:Nat→Prop} (h:SpB w p Bd):SpSome w p:=by
  obtain ⟨K,t,h,_⟩:=h
  exact ⟨K,t,h⟩
theorem SpB.mono {w:World} {p:Spr} {Bd Bd':Nat→Prop} (h:SpB w p Bd) (hm:∀ k,Bd' k→Bd k):SpB w p Bd':=by
  obtain ⟨K,t,h,hf⟩:=h
  exact ⟨K,t,h,hf.mono hm⟩
theorem SpFr.cells {w:World} {p:Spr} {lk:Int} {K:Nat→Option Value} {t:Option Value} {Bd:Nat→Prop} (h:SpFr w p K t Bd) (hs:SpAt w p lk K t):SpFr w p K t fun k=>Bd k∨∀ cs T fr,w.heap[k]? ≠ some (Obj.cells cs T fr):=by
  refine ⟨fun q hq v hv k hk hb=>hb.elim (h.1 q hq v hv k hk) fun hn=>?_,fun v hv=>?_⟩
  · obtain ⟨b,cap,cur,rfl,h2,_⟩:=hs.col q hq v hv
    simp only [Value.ownBlock,Option.some.injEq] at hk
    subst hk
    exact hn _ _ _ h2
  · obtain ⟨g,v',ps,h1,h2,h3,h4,h5⟩:=h.2 v hv
    refine ⟨g,v',ps,h1,h2,h3,h4,fun e he k hk hb=>hb.elim (h5 e he k hk) fun hn=>?_⟩
    obtain ⟨cs,T,fr,h6,_⟩:=grove_kind h3 e he k hk
    exact hn _ _ _ h6
theorem SpB.frM {w w':World} {p:Spr} {Bd M:Nat→Prop} (h:SpB w p Bd) (hf:Fr M w w') (hM:∀ k,M k→Bd k∨∀ cs T fr,w.heap[k]? ≠ some (Obj.cells cs T fr)) (hg:¬ M p.g) (hc:¬ M p.cg):SpB w' p Bd:=by
  obtain ⟨K,t,h,hb⟩:=h
  obtain ⟨h1,h2⟩:=(hb.cells h).keep h hf (fun k hk=>.inr (.inr (hM k hk))) (hf.block _ (heap_lt h.hg) hg) (hf.block _ (heap_lt h.hc) hc)
  exact ⟨K,t,h1,h2.mono fun k hk=>.inl hk⟩
theorem SpB.fr0 {w w':World} {p:Spr} {Bd:Nat→Prop} (h:SpB w p Bd) (hf:Fr0 w w'):SpB w' p Bd:=h.frM hf (fun _ hm=>hm.elim) id id
theorem SpB.frB {w w':World} {p:Spr} {Bd M:Nat→Prop} (h:SpB w p Bd) (hf:Fr M w w') (hM:∀ k,M k→∀ cs T fr,w.heap[k]? ≠ some (Obj.cells cs T fr)):SpB w' p Bd :=
  h.frM hf (fun k hk=>.inr (hM k hk)) (fun hm=>by obtain ⟨K,t,h,_⟩:=h; exact hM _ hm _ _ _ h.hg) (fun hm=>by obtain ⟨K,t,h,_⟩:=h; exact hM _ hm _ _ _ h.hc)
theorem SpB.new {w:World} {p:Spr} {Bd:Nat→Prop} (h:SpAt w p 0 (fun _=>none) none):SpB w p Bd:=⟨_,_,h,fun _ _ _ h=>(by cases h),fun _ h=>(by cases h)⟩
theorem OrAt.frX {w w':World} {o:Orc} {s:Option Spr} {M:Nat→Prop} (h:OrAt w o s) (hf:Fr M w w') (hM:∀ k,M k→∃ cs T fr,w.heap[k]?=some (.cells cs T fr)∧(Nat.beq 191 T || Nat.beq 129 T)=false) (hs:∀ p,s=some p→SpSome w' p):OrAt w' o s:=by
  have keep:∀ {k:Nat} {x:Obj},w.heap[k]?=some x→(∀ cs T fr,x=.cells cs T fr→(Nat.beq 191 T || Nat.beq 129 T)=true)→w'.heap[k]?=some x:=fun {k x} hk hx=>by
    refine (hf.block k (heap_lt hk) fun hm=>?_).trans hk
    obtain ⟨cs,T,fr,h1,h2⟩:=hM k hm
    rw [hk] at h1
    rw [hx cs T fr (Option.some.inj h1)] at h2
    cases h2
  obtain ⟨es,cl,hb⟩:=h.mp.blk
  obtain ⟨r1,b,cap,cur,r2,r3,r4⟩:=h.rd
  exact ⟨h.ok,keep h.hg (fun cs T fr e=>by cases e; rfl),⟨r1,b,cap,cur,r2,keep r3 (fun cs T fr e=>by cases e; rfl),r4⟩,h.mp.loc ((keep hb fun cs T fr e=>by cases e).trans hb.symm),fun q hq=>⟨(h.sp q hq).1,(h.sp q hq).2.1,hs q hq⟩⟩
structure OrNext (w w':World) (o:Orc) (s:Option Spr) (d:Int) (ep:UInt32) (p:Spr):Prop where
  at_:OrAt w' o (some p)
  d:p.d=d
  ep:p.ep=ep
  was:s=some p∨(s=none∧w.heap.size≤p.g∧w.heap.size≤p.cg)
theorem St.ownMap {N:Nat} {F:List (Nat × Value)} {a:Act} {w:World} {P:Program} {k:TypeId} {b n:Nat} {f:Lit→Option Value} (h:Know N F a) (hm:MapV P k b n f w):St N F [.mapV P k b n f] (fun j=>j=b) w a w :=
  ⟨h,⟨fun e he=>by simp only [List.mem_singleton] at he; subst he; exact hm,List.pairwise_singleton _ _,fun e he j hj=>by
    simp only [List.mem_singleton] at he
    subst he
    have hj:j=b:=hj
    subst hj
    obtain ⟨es,cl,hb⟩:=hm.blk
    exact heap_lt hb,fun _ _ _ _=>Nat.zero_le _⟩,fun e he j hj=>by
    simp only [List.mem_singleton] at he
    subst he
    exact .inr hj,Fr.refl _ _⟩
theorem tr_Clone (n:Nat) (ws:List UInt8) (wv:Value) (hwl:ws.length=n * 32) (hn0:0 < n) (hn:n≤1000) (w:World) (hq:Rd w wv n (ws.map B)):Ctr Tryz.prog 95 [wv] w (fun _=>False) (outE (rowD' n ws) w):=by
  obtain ⟨wad0,wcap,rfl,hwc,hwm⟩:=Rd.sl hq
  obtain ⟨wb,wo,wT,wfr,wall,rfl,hwb,hws⟩:=Rd.bytes_at32 hq hwl hn0
  refine fn_start (N:=8) Tryz.func95 rfl rfl rfl fun ac hk=>?_
  have hs:=St.start hk w
  refine wp_seq (wp_reg ?_)
  refine zA hs fun ac hs=>?_
  refine s_end (then_n (wp_seq (wp_seq (wp_reg ?_))))
  refine zM hs fun ac hs=>?_
  refine s_q hs (c_eqlSn un105 (hs.ev rfl) (hs.ev rfl)) rfl fun ac hs=>?_
  refine s_end ?_
  replace hs:=hs.sub (F':=[(0,_),(2,_),(4,_)]) ⟨rfl,rfl,rfl,trivial⟩
  refine then_n ?_
  refine wp_cond_false (hs.ev rfl) ?_
  refine wp_skip (then_n (wp_seq (wp_reg ?_)))
  refine s_bslice hs un105 ty129 .nil rfl (fun _ h=>absurd h (by simp)) (by decide) rfl rfl fun ac ww g5 hs=>?_
  replace hs:=hs.segrow (i:=0) (n:=0) (sz:=32) rfl rfl (by decide)
  refine zM hs fun ac hs=>?_
  refine s_append (i:=0) hs un105 ty129 (by decide) rfl rfl rfl (hq.fr0 hs.fr) (by rw [List.length_map,hwl]) (all_map_B _) (by unfold maxLen; omega) (by omega) rfl fun ac ww v7 hf hnil hs=>?_
  refine zA hs fun ac hs=>?_
  refine s_end ?_
  replace hs:=hs.sub (F':=[(2,_)]) ⟨rfl,trivial⟩
  refine then_n (wp_ret ?_)
  refine s_ret hs rfl (.tmp (hs.tmp rfl) .nil) rfl ⟨_,rfl,hs.fr,?_⟩
  exact ⟨_,rfl,(hs.toL (L':=[.row _ n (ws.map B) 129 32]) (by simp [flatCells])).made⟩
theorem tr_New (W S H:Int) (n:Nat) (sd:List UInt8) (v:Value) (hsd:sd.length=n * 32) (hn:n≤1000) (w:World) (hq:Rd w v n (sd.map B)):Ctr Tryz.prog 50 [.agg #[I W,I S,I H],v] w (fun _=>False) (fun v2 w'=>((spRight W S H && decide ((n:Int)=W))=false∧v2=.tuple #[.pointer none,I 1])∨((spRight W S H && decide ((n:Int)=W))=true∧∃ o,o.W=W∧o.S=S∧o.H=H∧o.sd=sd∧o.n=n∧OrAt w' o none∧w.heap.size≤o.mb∧v2=.tuple #[.pointer (some ⟨o.g,0,none⟩),I 0])):=by
  obtain ⟨vad,vcap,rfl,hvc,hvm⟩:=Rd.sl hq
  refine fn_start (N:=22) Tryz.func50 rfl rfl rfl fun ac hk=>?_
  have hs:=St.start hk w
  refine wp_seq (wp_reg ?_)
  refine s_box hs rfl rfl rfl fun ac ww g2 hs=>?_
  refine zA hs fun ac hs=>?_
  refine zA hs fun ac hs=>?_
  refine s_end ?_
  replace hs:=hs.sub (F':=[(1,_),(2,_),(4,_),(5,_)]) ⟨rfl,rfl,rfl,rfl,trivial⟩
  refine then_n (wp_seq (wp_seq (wp_reg ?_)))
  refine s_q hs (c_loadW ty33 ag33 (hs.ev rfl) (hs.seg (i:=0) rfl) (by rfl)) rfl fun ac hs=>?_
  refine s_call hs fu63 (.cons (hs.ev rfl) .nil) (spring_Right W S H _) rfl fun ac ww v7 hf hp hs=>?_
  obtain rfl:=hp
  replace hs:=hs [] (.nil _ _)
  refine s_q hs (c_not (hs.ev rfl)) rfl fun ac hs=>?_
  refine zM hs fun ac hs=>?_
  refine s_g hs rfl rfl (fun hg=>c_move (hs.ev rfl)) rfl fun ac hs=>?_
  refine s_g hs rfl rfl (fun hg=>c_lenS un105 (gev (hs.ev rfl) hg)) rfl fun ac hs=>?_
  refine s_g hs rfl rfl (fun hg=>c_fld fl33_0 (hs.ev rfl)) rfl fun ac hs=>?_
  refine s_g hs rfl rfl (fun hg=>c_loadS un3 rfl (gev (hs.ev rfl) hg) (hs.seg (i:=0) rfl) rfl) rfl fun ac hs=>?_
  refine s_g hs rfl rfl (fun hg=>c_neqI (gev (hs.ev rfl) hg) (gev (hs.ev rfl) hg)) rfl fun ac hs=>?_
  refine s_q hs (c_or (hs.ev rfl) (hs.ev rfl)) rfl fun ac hs=>?_
  refine s_end ?_
  replace hs:=hs.sub (F':=[(1,_),(2,_),(4,_),(5,_),(15,_)]) ⟨rfl,rfl,rfl,rfl,rfl,trivial⟩
  refine then_n ?_
  refine s_cond hs rfl (fun hc=>?_) (fun hc=>?_)
  · skip
    have hno:(spRight W S H && decide ((n:Int)=W))=false:=by
      cases h1:spRight W S H
      · rfl
      · rw [h1] at hc
        simpa using hc
    refine wp_seq (wp_reg ?_)
    refine zA hs fun ac hs=>?_
    refine zA hs fun ac hs=>?_
    refine s_end ?_
    replace hs:=hs.sub (F':=[(1,_),(2,_),(4,_),(5,_)]) ⟨rfl,rfl,rfl,rfl,trivial⟩
    refine then_n (wp_ret (then_r ?_))
    refine s_ret hs rfl (.tmp (hs.tmp rfl) (.tmp (hs.tmp rfl) .nil)) rfl ⟨_,rfl,hs.fr,?_⟩
    exact .inl ⟨hno,rfl⟩
  · skip
    have hyes:(spRight W S H && decide ((n:Int)=W))=true:=by
      cases h1:spRight W S H
      · rw [h1] at hc
        simp at hc
      · rw [h1] at hc
        simpa using hc
    have hyr:spRight W S H=true:=((Bool.and_eq_true _ _).mp hyes).1
    have hyn:(n:Int)=W:=of_decide_eq_true ((Bool.and_eq_true _ _).mp hyes).2
    have hn0:0 < n:=by
      have h5:=(spRight_iff.1 hyr).1
      have h6:=levels_cases W
      omega
    refine wp_skip (then_n (wp_seq ?_))
    refine wp_region_rg pmix 4 (by kernel_rfl) rfl hs ?_
    simp only [List.take_succ_cons,List.take_zero]
    refine rg_q (fun ac ww h=>c_loadW ty33 ag33 (h.ev rfl) (h.blk (hs.seg (i:=0) rfl)) (by rfl)) rfl ?_
    refine rg_q (fun ac ww h=>c_move (h.ev rfl)) rfl ?_
    refine rg_callE (rowD' n sd) (fun _ _ _ _ _ h=>h) fu95 (fun ac ww h=>?_) rfl ?_
    · exact ⟨_,.cons (h.ev rfl) (.nil),tr_Clone n sd _ hsd hn0 hn _ (hq.fr0 (hs.fr.trans0 h.fr))⟩
    refine rg_makeMapV (k:=230) rfl ?_
    refine rg_nil fun ac ww L' hf hfe hs=>?_
    simp only [List.drop_succ_cons,List.drop_zero]
    obtain ⟨v19,L19,M19,h19,e19,⟨v18,L18,M18,h18,e18,rfl,rfl⟩,rfl⟩:=hfe
    replace hs:=hs.add h19
    replace hs:=hs.add h18
    obtain rfl:=e18
    obtain ⟨mb,rfl,rfl⟩:=e19
    obtain ⟨cad,ccap,rfl,hcc,hcm⟩:=Rd.sl (Rd.of_row (hs.get (i:=1) rfl))
    refine s_q hs (c_buildS (zc:=[I W,I S,I H,.slice cad n ccap,.map (some mb)]) ty191 bp191 (.cons (hs.ev rfl) (.cons (hs.ev rfl) (.cons (hs.ev rfl) .nil))) ⟨rfl,rfl,rfl,trivial⟩ (by simp [flatCells,Value.cells]) rfl) rfl fun ac hs=>?_
    refine s_box hs rfl rfl rfl fun ac ww g21 hs=>?_
    refine zA hs fun ac hs=>?_
    refine zA hs fun ac hs=>?_
    refine s_end ?_
    replace hs:=hs.sub (F':=[(4,_),(5,_)]) ⟨rfl,rfl,trivial⟩
    refine then_n (wp_ret ?_)
    refine s_ret hs rfl (.tmp (hs.tmp rfl) (.tmp (hs.tmp rfl) .nil)) rfl ⟨_,rfl,hs.fr,?_⟩
    refine .inr ⟨hyes,⟨g21,mb,n,.slice cad n ccap,W,S,H,sd⟩,rfl,rfl,rfl,rfl,rfl,⟨⟨hyn,hyr,hsd⟩,hs.seg (i:=0) rfl,RdT.row (hs.get (i:=2) rfl) hn0,hs.get (i:=1) rfl,fun _ h=>by cases h⟩,(hs.own _ (List.mem_of_getElem? (i:=1) rfl) mb rfl).resolve_right id,rfl⟩
theorem tr_spring (o:Orc) (s:Option Spr) (d:Int) (ep:UInt32) (Bd:Nat→Prop) (w:World) (hor:OrAt w o s) (hkey:∀ p,s=some p→p.d=d∧p.ep=ep) (hfb:∀ p,s=some p→SpB w p Bd):Ctr Tryz.prog 99 [.pointer (some ⟨o.g,0,none⟩),I d,U ep] w (fun k=>k=o.mb) (fun v2 w'=>(spFits o.W o.S o.H d ep=false∧v2=.tuple #[.pointer none,I 1]∧OrAt w' o s)∨(spFits o.W o.S o.H d ep=true∧∃ p,v2=.tuple #[.pointer (some ⟨p.g,0,none⟩),I 0]∧OrNext w w' o s d ep p∧SpB w' p Bd)):=by
  refine fn_start (N:=73) Tryz.func99 rfl rfl rfl fun ac hk=>?_
  have hs:=St.ownMap hk hor.mp
  refine wp_seq (wp_reg ?_)
  refine zA hs fun ac hs=>?_
  refine zA hs fun ac hs=>?_
  refine s_end (then_n (wp_seq (wp_block (wp_seq (wp_reg ?_)))))
  refine zM hs fun ac hs=>?_
  refine s_q hs (c_eqlNil un102 (hs.ev rfl) (hs.ev rfl)) rfl fun ac hs=>?_
  refine zA hs fun ac hs=>?_
  refine s_end ?_
  replace hs:=hs.sub (F':=[(0,_),(1,_),(2,_),(6,_),(7,_),(12,_)]) ⟨rfl,rfl,rfl,rfl,rfl,rfl,trivial⟩
  refine then_n ?_
  refine wp_cond_false (hs.ev rfl) ?_
  refine wp_seq (wp_reg ?_)
  refine zM hs fun ac hs=>?_
  refine s_q hs (c_lssI (hs.ev rfl) (hs.ev rfl)) rfl fun ac hs=>?_
  refine zM hs fun ac hs=>?_
  refine s_g hs rfl rfl (fun hg=>c_move (hs.ev rfl)) rfl fun ac hs=>?_
  refine s_g hs rfl rfl (fun hg=>c_move (hs.ev rfl)) rfl fun ac hs=>?_
  refine s_g hs rfl rfl (fun hg=>c_nil (gev (hs.ev rfl) hg)) rfl fun ac hs=>?_
  refine s_g hs rfl rfl (fun hg=>c_fld fl191_0 (gev (hs.ev rfl) hg)) rfl fun ac hs=>?_
  refine s_g hs rfl rfl (fun hg=>c_fld fl33_0 (gev (hs.ev rfl) hg)) rfl fun ac hs=>?_
  refine s_g hs rfl rfl (fun hg=>c_loadS un3 rfl (gev (hs.ev rfl) hg) (hs.old hor.hg (fun e=>hor.mapBlk _ e _ _ _ hor.hg)) rfl) rfl fun ac hs=>?_
  refine s_g hs rfl rfl (fun hg=>c_geqI (gev (hs.ev rfl) hg) (gev (hs.ev rfl) hg)) rfl fun ac hs=>?_
  refine s_q hs (c_or (hs.ev rfl) (hs.ev rfl)) rfl fun ac hs=>?_
  refine zM hs fun ac hs=>?_
  refine s_g hs rfl rfl (fun hg=>c_move (hs.ev rfl)) rfl fun ac hs=>?_
  refine s_g hs rfl rfl (fun hg=>c_gtrU (gev (hs.ev rfl) hg) (St.ev (v:=U 65536) hs rfl)) rfl fun ac hs=>?_
  refine s_q hs (c_or (hs.ev rfl) (hs.ev rfl)) rfl fun ac hs=>?_
  refine zA hs fun ac hs=>?_
  refine s_end ?_
  replace hs:=hs.sub (F':=[(0,_),(1,_),(2,_),(6,_),(7,_),(15,_)]) ⟨rfl,rfl,rfl,rfl,rfl,rfl,trivial⟩
  refine then_n ?_
  refine s_cond hs rfl (fun hc=>?_) (fun hc=>?_)
  · skip
    have hno:spFits o.W o.S o.H d ep=false:=by
      rw [← Bool.not_eq_true,spFits_iff]
      rintro ⟨_,h2,h3,h4⟩
      simp only [Bool.or_eq_true,decide_eq_true_eq] at hc
      rcases hc with (hc | hc) | hc
      · omega
      · omega
      · omega
    refine wp_seq (wp_reg ?_)
    refine zA hs fun ac hs=>?_
    refine zA hs fun ac hs=>?_
    refine s_end ?_
    replace hs:=hs.sub (F':=[(0,_),(1,_),(2,_),(6,_),(7,_)]) ⟨rfl,rfl,rfl,rfl,rfl,trivial⟩
    refine then_n (wp_ret (blk_r (then_r ?_)))
    refine s_ret hs rfl (.tmp (hs.tmp rfl) (.tmp (hs.tmp rfl) .nil)) rfl ⟨_,rfl,hs.fr,?_⟩
    exact .inl ⟨hno,rfl,⟨hor.ok,hs.old hor.hg (fun e=>hor.mapBlk _ e _ _ _ hor.hg),hor.rd.frM hs.fr fun k e cs fr=>hor.mapBlk k e cs _ fr,hs.get (i:=0) rfl,fun p hp=>⟨(hor.sp p hp).1,(hor.sp p hp).2.1,(hor.sp p hp).2.2.frB hs.fr fun k e=>hor.mapBlk k e⟩⟩⟩
  · skip
    have hyes:spFits o.W o.S o.H d ep=true:=by
      simp only [Bool.or_eq_false_iff,decide_eq_false_iff_not] at hc
      exact spFits_iff.2 ⟨hor.ok.right,by omega,by omega,by omega⟩
    have hd0:=(spFits_iff.1 hyes).2.1
    have hdW:=(spFits_iff.1 hyes).2.2.1
    have hW8:o.W≤8:=by
      have h5:=(spRight_iff.1 hor.ok.right).1
      have h6:=levels_cases o.W
      omega
    obtain ⟨q,hkq⟩:=at_key (d:=d) ⟨by omega,by omega⟩ ep
    refine wp_skip (blk_n (then_n (wp_seq (wp_seq (wp_reg ?_)))))
    refine zM hs fun ac hs=>?_
    refine s_q hs (c_nil (hs.ev rfl)) rfl fun ac hs=>?_
    refine s_q hs (c_fld fl191_2 (hs.ev rfl)) rfl fun ac hs=>?_
    refine s_q hs (c_loadS un189 rfl (hs.ev rfl) (hs.old hor.hg (fun e=>hor.mapBlk _ e _ _ _ hor.hg)) rfl) rfl fun ac hs=>?_
    refine zM hs fun ac hs=>?_
    refine zM hs fun ac hs=>?_
    refine s_q hs (c_buildS (zc:=[I d,U ep]) ty230 bp230 (.cons (hs.ev rfl) (.cons (hs.ev rfl) .nil)) ⟨rfl,rfl,trivial⟩ (by simp [flatCells,Value.cells]) rfl) rfl fun ac hs=>?_
    rcases s with _ | p
    · refine s_q hs (c_to (c_lookupV (zv:=.pointer none) at_keyed Tryz.underlying189 (by kernel_rfl) (hs.get (i:=0) rfl) (hs.ev rfl) (hs.ev rfl) hkq) ((show _=Value.tuple #[.pointer none,.bool false] from rfl))) rfl fun ac hs=>?_
      refine zM hs fun ac hs=>?_
      refine s_q hs (c_extract (hs.ev rfl) rfl) rfl fun ac hs=>?_
      refine s_q hs (c_extract (hs.ev rfl) rfl) rfl fun ac hs=>?_
      refine zA hs fun ac hs=>?_
      refine zA hs fun ac hs=>?_
      refine s_end ?_
      replace hs:=hs.sub (F':=[(0,_),(1,_),(2,_),(6,_),(7,_),(8,_),(9,_)]) ⟨rfl,rfl,rfl,rfl,rfl,rfl,rfl,trivial⟩
      refine then_n (wp_seq (wp_reg ?_))
      refine zM hs fun ac hs=>?_
      refine s_end ?_
      replace hs:=hs.sub (F':=[(0,_),(1,_),(2,_),(6,_),(7,_),(8,_),(42,_)]) ⟨rfl,rfl,rfl,rfl,rfl,rfl,rfl,trivial⟩
      refine then_n ?_
      refine wp_cond_false (hs.ev rfl) ?_
      refine wp_skip (then_n (wp_seq ?_))
      obtain ⟨hr1,rb,rcap,rcur,hr2,hr3,hr4,hr5,hr6,hr7⟩:=hor.rd
      have hdn:d.toNat < o.n:=by have:=hor.ok.hn; omega
      have hsl:(o.seed d).length=32:=by
        have h1:=hor.ok.sd
        have h2:=Nat.mul_le_mul_right 32 (show d.toNat + 1≤o.n from hdn)
        rw [Nat.succ_mul] at h2
        rw [Orc.seed,List.length_take,List.length_drop]
        omega
      have hrb:=hs.old hr3 (fun e=>hor.mapBlk _ e _ _ _ hr3)
      have hps:(rcur.toList.drop (0 + d.toNat * 32)).take 32=(o.seed d).map B:=piece32 (o:=0) (by rw [List.drop_zero,hr7]) hor.ok.sd hdn
      refine wp_region_rgL pmix 18 (by kernel_rfl) rfl hs ?_
      simp only [List.take_succ_cons,List.take_zero]
      refine rg_q (fun ac ww h=>c_move (h.ev rfl)) rfl ?_
      refine rg_q (fun ac ww h=>c_nil (h.ev rfl)) rfl ?_
      refine rg_q (fun ac ww h=>c_fld fl191_0 (h.ev rfl)) rfl ?_
      refine rg_q (fun ac ww h=>c_loadA ty33 ag33 (h.ev rfl) (h.blk (hs.old hor.hg (fun e=>hor.mapBlk _ e _ _ _ hor.hg))) (show _=[I o.W,I o.S,I o.H] from rfl) (by rfl)) rfl ?_
      refine rg_q (fun ac ww h=>c_move (h.ev rfl)) rfl ?_
      refine rg_q (fun ac ww h=>c_nil (h.ev rfl)) rfl ?_
      refine rg_q (fun ac ww h=>c_fld fl191_1 (h.ev rfl)) rfl ?_
      refine rg_q (fun ac ww h=>c_loadS un105 rfl (h.ev rfl) (h.blk (hs.old hor.hg (fun e=>hor.mapBlk _ e _ _ _ hor.hg))) (congrArg some hr2)) rfl ?_
      refine rg_q (fun ac ww h=>c_move (h.ev rfl)) rfl ?_
      refine rg_q (fun ac ww h=>c_idxS (j:=d.toNat) un105 ty129 (h.ev rfl) (h.ev rfl) (by omega) hdn) rfl ?_
      refine rg_q (fun ac ww h=>c_loadA ty129 rfl (h.ev rfl) (h.blk hrb) hps (by rw [List.length_map,hsl])) rfl ?_
      refine rg_q (fun ac ww h=>c_move (h.ev rfl)) rfl ?_
      refine rg_q (fun ac ww h=>c_move (h.ev rfl)) rfl ?_
      refine rg_callE (tupG [] [I 0] (sprE w.heap.size o.W o.S o.H (o.seed d) d ep)) sprE.st fu14 (fun ac ww h=>?_) rfl ?_
      · exact ⟨_,.cons (h.ev rfl) (.cons (h.ev rfl) (.cons (h.ev rfl) (.cons (h.ev rfl) (.nil)))),spring_NewE hsl hyes ww w.heap.size (Nat.le_trans hs.fr.size h.fr.size)⟩
      refine rg_moveG rfl rfl rfl ?_
      refine rg_extGe rfl rfl rfl rfl ?_
      refine rg_extGc rfl rfl rfl (fun _=>rfl) ?_
      refine rg_assignE (fun _=>True) rfl rfl (fun _ _ _ _=>trivial) rfl ?_
      refine rg_nil fun ac ww L' hf hfe hs hlk=>?_
      simp only [List.drop_succ_cons,List.drop_zero]
      obtain ⟨v10,L10,M10,h10,e10,⟨v59,L59,M59,h59,e59,⟨v44,L44,M44,h44,e44,⟨v58,L58,M58,h58,e58,rfl,rfl⟩,rfl⟩,rfl⟩,rfl⟩:=hfe
      replace hs:=hs.add h10
      replace hs:=hs.add h59
      replace hs:=hs.add h44
      replace hs:=hs.add h58
      obtain ⟨tv58,rfl,e58⟩:=e58
      obtain ⟨-,rfl⟩:=e44
      obtain rfl:=lk_move (j:=14) hlk (by decide) rfl (by kernel_rfl) h44 h58
      obtain ⟨-,rfl⟩:=e59
      obtain rfl:=lk_ext (j:=15) hlk (by decide) rfl (by kernel_rfl) h59 h44 rfl
      obtain ⟨-,rfl⟩:=e10
      obtain rfl:=lk_assign (j:=17) hlk (by decide) rfl (by kernel_rfl) h10 h59
      obtain ⟨rfl,p,hsi,hsp,hg1,hc1,rfl⟩:=e58
      refine zA hs fun ac hs=>?_
      refine s_end ?_
      replace hs:=hs.sub (F':=[(0,_),(1,_),(2,_),(6,_),(7,_),(10,_),(11,_)]) ⟨rfl,rfl,rfl,rfl,rfl,rfl,rfl,trivial⟩
      refine then_n (wp_seq (wp_seq (wp_reg ?_)))
      refine zM hs fun ac hs=>?_
      refine s_q hs (c_neqI (hs.ev rfl) (hs.ev rfl)) rfl fun ac hs=>?_
      refine s_end ?_
      replace hs:=hs.sub (F':=[(0,_),(1,_),(2,_),(6,_),(7,_),(10,_),(11,_),(62,_)]) ⟨rfl,rfl,rfl,rfl,rfl,rfl,rfl,rfl,trivial⟩
      refine then_n ?_
      refine wp_cond_false (hs.ev rfl) ?_
      refine wp_skip (then_n (wp_seq (wp_reg ?_)))
      refine zM hs fun ac hs=>?_
      refine s_q hs (c_nil (hs.ev rfl)) rfl fun ac hs=>?_
      refine s_q hs (c_fld fl191_2 (hs.ev rfl)) rfl fun ac hs=>?_
      refine s_q hs (c_loadS un189 rfl (hs.ev rfl) (hs.old hor.hg (fun e=>hor.mapBlk _ e _ _ _ hor.hg)) rfl) rfl fun ac hs=>?_
      refine zM hs fun ac hs=>?_
      refine zM hs fun ac hs=>?_
      refine s_q hs (c_buildS (zc:=[I d,U ep]) ty230 bp230 (.cons (hs.ev rfl) (.cons (hs.ev rfl) .nil)) ⟨rfl,rfl,trivial⟩ (by simp [flatCells,Value.cells]) rfl) rfl fun ac hs=>?_
      refine zM hs fun ac hs=>?_
      have hfr0:=hs.fr
      have hown0:=hs.own
      have hb0:=hs.old hor.hg (fun e=>hor.mapBlk _ e _ _ _ hor.hg)
      have hmb0:=MapV.blk (hs.get (i:=0) rfl)
      have hrd0:=hor.rd.frM hs.fr fun k e cs fr=>hor.mapBlk k e cs _ fr
      have hsp0:=hsp
      have hkm:∀ k,(Ent.grp [Ent.mapV Tryz.prog 230 o.mb (nbO none) (mapO none)]).keys k→k=o.mb:=by
        rintro k ⟨e,he,hk⟩
        simp only [List.mem_singleton] at he
        subst he
        exact hk
      have hmc:∀ k,(Ent.grp [Ent.mapV Tryz.prog 230 o.mb (nbO none) (mapO none)]).keys k→∀ cs T fr,ww.heap[k]? ≠ some (Obj.cells cs T fr):=fun k hk cs T fr hb=>by
        obtain ⟨es,cl,h2⟩:=hmb0
        rw [← hkm k hk,hb] at h2
        cases h2
      replace hs:=hs.rebase
      refine s_mapPut (i:=0) hs at_keyed Tryz.underlying189 rfl rfl rfl hkq rfl (by unfold maxLen; decide) fun ww hs=>?_
      refine s_end ?_
      replace hs:=hs.sub (F':=[(6,_),(7,_),(10,_)]) ⟨rfl,rfl,rfl,trivial⟩
      refine then_n (wp_seq (wp_reg ?_))
      refine zM hs fun ac hs=>?_
      refine zA hs fun ac hs=>?_
      refine zA hs fun ac hs=>?_
      refine s_end ?_
      replace hs:=hs.sub (F':=[(6,_),(7,_)]) ⟨rfl,rfl,trivial⟩
      refine then_n (wp_ret ?_)
      refine s_ret hs rfl (.tmp (hs.tmp rfl) (.tmp (hs.tmp rfl) .nil)) rfl ⟨_,rfl,(Fr.rebase hfr0 hown0 hs.fr),?_⟩
      refine .inr ⟨hyes,p,rfl,⟨⟨hor.ok,(hs.fr.block _ (heap_lt hb0) fun hk=>hmc _ hk _ _ _ hb0).trans hb0,hrd0.frM hs.fr fun k hk cs fr=>hmc k hk cs _ fr,?_,fun p2 hp2=>?_⟩,hsi.d,hsi.ep,.inr ⟨rfl,hg1,hc1⟩⟩,(SpB.new hsp0).frB hs.fr hmc⟩
      · have h9:=hs.get (i:=0) rfl
        rw [mapO_put (p:=p) (by rw [hsi.d,hsi.ep]; exact hkq)] at h9
        exact h9
      · cases hp2
        exact ⟨by rw [hsi.d,hsi.ep]; exact hsi,by rw [hsi.d,hsi.ep]; exact hyes,SpSome.frB ⟨_,_,hsp0⟩ hs.fr hmc⟩
    · refine s_q hs (c_to (c_lookupV (zv:=.pointer none) at_keyed Tryz.underlying189 (by kernel_rfl) (hs.get (i:=0) rfl) (hs.ev rfl) (hs.ev rfl) hkq) ((show _=Value.tuple #[.pointer (some ⟨p.g,0,none⟩),.bool true] from by rw [mapO_get (by rw [(hkey p rfl).1,(hkey p rfl).2]; exact hkq)]; rfl))) rfl fun ac hs=>?_
      refine zM hs fun ac hs=>?_
      refine s_q hs (c_extract (hs.ev rfl) rfl) rfl fun ac hs=>?_
      refine s_q hs (c_extract (hs.ev rfl) rfl) rfl fun ac hs=>?_
      refine zA hs fun ac hs=>?_
      refine zA hs fun ac hs=>?_
      refine s_end ?_
      replace hs:=hs.sub (F':=[(0,_),(1,_),(2,_),(6,_),(7,_),(8,_),(9,_)]) ⟨rfl,rfl,rfl,rfl,rfl,rfl,rfl,trivial⟩
      refine then_n (wp_seq (wp_reg ?_))
      refine zM hs fun ac hs=>?_
      refine s_end ?_
      replace hs:=hs.sub (F':=[(0,_),(1,_),(2,_),(6,_),(7,_),(8,_),(42,_)]) ⟨rfl,rfl,rfl,rfl,rfl,rfl,rfl,trivial⟩
      refine then_n ?_
      refine wp_cond_true (hs.ev rfl) ?_
      refine wp_seq (wp_reg ?_)
      refine zM hs fun ac hs=>?_
      refine zA hs fun ac hs=>?_
      refine zA hs fun ac hs=>?_
      refine s_end ?_
      replace hs:=hs.sub (F':=[(0,_),(1,_),(2,_),(6,_),(7,_)]) ⟨rfl,rfl,rfl,rfl,rfl,trivial⟩
      refine then_n (wp_ret (then_r ?_))
      refine s_ret hs rfl (.tmp (hs.tmp rfl) (.tmp (hs.tmp rfl) .nil)) rfl ⟨_,rfl,hs.fr,?_⟩
      exact .inr ⟨hyes,p,rfl,⟨⟨hor.ok,hs.old hor.hg (fun e=>hor.mapBlk _ e _ _ _ hor.hg),hor.rd.frM hs.fr fun k e cs fr=>hor.mapBlk k e cs _ fr,hs.get (i:=0) rfl,fun p hp=>⟨(hor.sp p hp).1,(hor.sp p hp).2.1,(hor.sp p hp).2.2.frB hs.fr fun k e=>hor.mapBlk k e⟩⟩,(hkey p rfl).1,(hkey p rfl).2,.inl rfl⟩,(hfb p rfl).frB hs.fr fun k e=>hor.mapBlk k e⟩
end Go.Proofs.YtklajbdbnnceiaaGreat
end

section
/- What the oracle tells. -/
namespace Go.Proofs.YtklajbdbnnceiaaGreat
open Go Go.Fw
open Sha
theorem or_fr {o:Orc} {s:Option Spr} {w w1 w2:World} (h:Fr0 w w1) (k:Fr (fun k=>k=o.mb) w1 w2):Fr (OrM o s) w w2:=(Fr.mono h fun _ _=>False.elim).trans k fun _ _ e=>.inl e
theorem OrNext.back {w w1 w':World} {o:Orc} {s:Option Spr} {d:Int} {ep:UInt32} {p:Spr} (h:OrNext w1 w' o s d ep p) (hs:w.heap.size≤w1.heap.size):OrNext w w' o s d ep p :=
  ⟨h.at_,h.d,h.ep,h.was.imp id fun h=>⟨h.1,Nat.le_trans hs h.2.1,Nat.le_trans hs h.2.2⟩⟩
theorem OrNext.to {w w1 w':World} {o:Orc} {s:Option Spr} {d:Int} {ep:UInt32} {p:Spr} (h:OrNext w w1 o s d ep p) (ha:OrAt w' o (some p)):OrNext w w' o s d ep p:=⟨ha,h.d,h.ep,h.was⟩
theorem or_fr2 {o:Orc} {s:Option Spr} {w w2 w3 w4 wx:World} {d:Int} {ep:UInt32} {p:Spr} (h:Fr (OrM o s) w w2) (h0:Fr0 w2 w3) (hn:OrNext w wx o s d ep p) (k:Fr (SpM p) w3 w4):Fr (OrM o s) w w4:=by
  refine (h.trans0 h0).trans k fun i hi hm=>?_
  rcases hn.was with e | ⟨_,e1,e2⟩
  · exact .inr ⟨p,e,hm⟩
  · rcases hm with rfl | rfl <;> omega
theorem or_fin {o:Orc} {s:Option Spr} {w w4 w5:World} {g:Nat} (h:Fr (OrM o s) w w4) (hg:w.heap.size≤g) (k:Fr (fun k=>k=g) w4 w5):Fr (OrM o s) w w5:=h.trans k fun i hi e=>by
  have e:i=g:=e
  omega
theorem keepO {o:Orc} {s:Option Spr} {w w2:World} {b:Nat} {cs:Array Value} {T:TypeId} {fr:Nat × Nat} (h:OrAt w o s) (hf:Fr (fun k=>k=o.mb) w w2) (hb:w.heap[b]?=some (.cells cs T fr)):w2.heap[b]?=some (.cells cs T fr):=(hf.block _ (heap_lt hb) fun e=>h.mapBlk _ e _ _ _ hb).trans hb
theorem keepO2 {o:Orc} {s:Option Spr} {w w2:World} {b:Nat} {cs:Array Value} {T:TypeId} {fr:Nat × Nat} (h:OrAt w o s) (hf:Fr (OrM o s) w w2) (hb:w.heap[b]?=some (.cells cs T fr)) (hT:(Nat.beq 149 T || Nat.beq 203 T)=false:=by rfl):w2.heap[b]?=some (.cells cs T fr):=(hf.block _ (heap_lt hb) fun e=>by
  rcases e with e | ⟨p,e,hm⟩
  · exact h.mapBlk _ e _ _ _ hb
  · obtain ⟨cs',T',fr',h1,h2⟩:=spBlk (h.sp p e).2.2 hm
    rw [hb] at h1
    cases h1
    rw [hT] at h2
    cases h2).trans hb
theorem or_seg {w w1 w2 w3:World} {o:Orc} {s:Option Spr} {g:Nat} {cs:Array Value} {T:TypeId} (h0:OrAt w o s) (h1:Fr0 w w1) (h2:Fr (fun k=>k=o.mb) w1 w2) (h:OrAt w2 o s) (hg:w.heap.size≤g) (hb:w2.heap[g]?=some (.cells cs T (0,0))) (hT:(Nat.beq 191 T || Nat.beq 129 T)=false) (h3:Fr (fun k=>k=g) w2 w3):OrAt w3 o s :=
  h.frX h3 (fun k e=>⟨cs,T,(0,0),e ▸ hb,hT⟩) fun p hp=>by
    have hs0:=(h0.sp p hp).2.2
    have hb0:SpB w2 p (w.heap.size≤·):=(hs0.b.fr0 h1).frB h2 fun k e=>(h0.fr0 h1).mapBlk k e
    obtain ⟨K,t,hs⟩:=hs0
    have hl1:=heap_lt hs.hg
    have hl2:=heap_lt hs.hc
    exact (hb0.frM h3 (fun k e=>.inl (show w.heap.size≤k from e ▸ hg)) (fun e=>by have e:p.g=g:=e; omega) fun e=>by have e:p.cg=g:=e; omega).one
theorem tr_Cred (o:Orc) (s:Option Spr) (d mt sn:Int) (ep sq:UInt32) (w:World) (hor:OrAt w o s) (hkey:∀ p,s=some p→p.d=d∧p.ep=ep):Ctr Tryz.prog 97 [.pointer (some ⟨o.g,0,none⟩),.agg #[I d,U ep,U sq,I mt,I sn]] w (OrM o s) (fun v w'=>(clRight o.W o.S o.H d mt sn ep sq=false∧v=.tuple #[credV (List.replicate 16 (0:UInt8)) (.slice none 0 0) (.slice none 0 0),I 1]∧((spFits o.W o.S o.H d ep=false∧OrAt w' o s)∨(spFits o.W o.S o.H d ep=true∧∃ p,OrNext w w' o s d ep p)))∨(clRight o.W o.S o.H d mt sn ep sq=true∧∃ p wv pv,v=.tuple #[credV (shL d ep sq mt (el p sq.toNat mt.toNat) p.W sn) wv pv,I 0]∧Rd w' wv (shN mt p.W sn) ((shW d ep sq mt (el p sq.toNat mt.toNat) p.W sn).map B)∧Rd w' pv p.H ((gPath p.d p.ep (ends p p.m) sq.toNat p.H).map B)∧OrNext w w' o s d ep p)):=by
  refine fn_start (N:=27) Tryz.func97 rfl rfl rfl fun ac hk=>?_
  have hs:=St.start hk w
  refine wp_seq (wp_reg ?_)
  refine s_box hs rfl rfl rfl fun ac ww g3 hs=>?_
  refine s_alloc hs ty56 rfl fun ac ww g4 hs=>?_
  refine zA hs fun ac hs=>?_
  refine s_end ?_
  replace hs:=hs.sub (F':=[(0,_),(3,_),(4,_),(5,_)]) ⟨rfl,rfl,rfl,rfl,trivial⟩
  refine then_n (wp_seq (wp_reg ?_))
  refine zM hs fun ac hs=>?_
  refine s_q hs (c_fld fl61_0 (hs.ev rfl)) rfl fun ac hs=>?_
  refine s_q hs (c_loadS un3 rfl (hs.ev rfl) (hs.seg (i:=1) rfl) rfl) rfl fun ac hs=>?_
  refine s_q hs (c_fld fl61_1 (hs.ev rfl)) rfl fun ac hs=>?_
  refine s_q hs (c_fld fl59_0 (hs.ev rfl)) rfl fun ac hs=>?_
  refine s_q hs (c_loadS un25 rfl (hs.ev rfl) (hs.seg (i:=1) rfl) rfl) rfl fun ac hs=>?_
  cases hfit:spFits o.W o.S o.H d ep
  · have hb4p:=hs.seg (i:=0) rfl
    have hb3p:=hs.seg (i:=1) rfl
    have hg4:=(hs.own _ (List.mem_of_getElem? (i:=0) rfl) g4 rfl).resolve_right id
    have hsz1:=hs.fr.size
    have hfr1:=hs.fr
    have hor1:=hor.fr0 hs.fr
    refine s_callR hs fu99 (.cons (hs.ev rfl) (.cons (hs.ev rfl) (.cons (hs.ev rfl) .nil))) (tr_spring o s d ep (fun _=>False) _ hor1 hkey (fun p hp=>((hor.sp p hp).2.2.b.fr0 hs.fr).mono fun _ h=>h.elim)) rfl fun ac ww v15 hf hp hs=>?_
    obtain ⟨rfl,hor2⟩:=(hp.elim (fun h=>h.2) fun h=>absurd (hfit.symm.trans h.1) (by decide))
    have hfA:=hf
    have hb4:=keepO hor1 hf hb4p
    have hfrA:Fr (OrM o s) w ww:=or_fr hfr1 hf
    replace hs:=St.own1 hs.know hb4
    have hno:clRight o.W o.S o.H d mt sn ep sq=false:=by
      rw [← Bool.not_eq_true,clRight_iff]
      intro h
      have h9:=spFits_iff.2 ⟨h.1,h.2.1,h.2.2.1,h.2.2.2.2.2.1⟩
      rw [hfit] at h9
      cases h9
    refine zM hs fun ac hs=>?_
    refine s_q hs (c_extract (hs.ev rfl) rfl) rfl fun ac hs=>?_
    refine s_q hs (c_extract (hs.ev rfl) rfl) rfl fun ac hs=>?_
    refine zA hs fun ac hs=>?_
    refine zA hs fun ac hs=>?_
    refine s_end ?_
    replace hs:=hs.sub (F':=[(3,_),(4,_),(5,_),(6,_),(7,_)]) ⟨rfl,rfl,rfl,rfl,rfl,trivial⟩
    refine then_n (wp_seq (wp_seq (wp_reg ?_)))
    refine zM hs fun ac hs=>?_
    refine s_q hs (c_neqI (hs.ev rfl) (hs.ev rfl)) rfl fun ac hs=>?_
    refine s_end ?_
    replace hs:=hs.sub (F':=[(3,_),(4,_),(5,_),(6,_),(7,_),(19,_)]) ⟨rfl,rfl,rfl,rfl,rfl,rfl,trivial⟩
    refine then_n ?_
    refine wp_cond_true (hs.ev rfl) ?_
    refine wp_seq (wp_reg ?_)
    refine s_q hs (c_buildS (zc:=(List.replicate 16 (0:UInt8)).map B++[Value.slice none 0 0,Value.slice none 0 0]) ty56 bp56 .nil trivial (by simp [flatCells,Value.cells]) rfl) rfl fun ac hs=>?_
    refine zM hs fun ac hs=>?_
    refine s_storeW (i:=0) hs ty56 rfl rfl rfl (by rfl) (by rfl) rfl fun ww hs=>?_
    refine zA hs fun ac hs=>?_
    refine s_end ?_
    replace hs:=hs.sub (F':=[(3,_),(4,_),(5,_),(6,_)]) ⟨rfl,rfl,rfl,rfl,trivial⟩
    refine then_n (wp_ret (then_r ?_))
    refine s_ret hs rfl (.cell (hs.tmp rfl) (run_loadA ty56 ag56 (hs.seg (i:=0) rfl) rfl (by rfl)) (.tmp (hs.tmp rfl) .nil)) rfl ⟨_,rfl,(or_fin hfrA hg4 hs.fr),?_⟩
    exact .inl ⟨hno,rfl,.inl ⟨rfl,or_seg hor hfr1 hfA hor2 hg4 hb4 rfl hs.fr⟩⟩
  · have hb4p:=hs.seg (i:=0) rfl
    have hb3p:=hs.seg (i:=1) rfl
    have hg4:=(hs.own _ (List.mem_of_getElem? (i:=0) rfl) g4 rfl).resolve_right id
    have hsz1:=hs.fr.size
    have hfr1:=hs.fr
    have hor1:=hor.fr0 hs.fr
    refine s_callR hs fu99 (.cons (hs.ev rfl) (.cons (hs.ev rfl) (.cons (hs.ev rfl) .nil))) (tr_spring o s d ep (fun _=>False) _ hor1 hkey (fun p hp=>((hor.sp p hp).2.2.b.fr0 hs.fr).mono fun _ h=>h.elim)) rfl fun ac ww v15 hf hp hs=>?_
    obtain ⟨p,rfl,hon1,hspb⟩:=(hp.elim (fun h=>absurd (hfit.symm.trans h.1) (by decide)) fun h=>h.2)
    have hon:=hon1.back hsz1
    have hb4:=keepO hor1 hf hb4p
    have hb3:=keepO hor1 hf hb3p
    have hfrA:Fr (OrM o s) w ww:=or_fr hfr1 hf
    have hsis:=(hon.at_.sp p rfl).1
    have ho:=hsis.ok
    refine zM hs fun ac hs=>?_
    refine s_q hs (c_extract (hs.ev rfl) rfl) rfl fun ac hs=>?_
    refine s_q hs (c_extract (hs.ev rfl) rfl) rfl fun ac hs=>?_
    refine zA hs fun ac hs=>?_
    refine zA hs fun ac hs=>?_
    refine s_end ?_
    replace hs:=hs.sub (F':=[(3,_),(4,_),(5,_),(6,_),(7,_)]) ⟨rfl,rfl,rfl,rfl,rfl,trivial⟩
    refine then_n (wp_seq (wp_seq (wp_reg ?_)))
    refine zM hs fun ac hs=>?_
    refine s_q hs (c_neqI (hs.ev rfl) (hs.ev rfl)) rfl fun ac hs=>?_
    refine s_end ?_
    replace hs:=hs.sub (F':=[(3,_),(4,_),(5,_),(6,_),(7,_),(19,_)]) ⟨rfl,rfl,rfl,rfl,rfl,rfl,trivial⟩
    refine then_n ?_
    refine wp_cond_false (hs.ev rfl) ?_
    refine wp_skip (then_n (wp_seq (wp_reg ?_)))
    refine zM hs fun ac hs=>?_
    refine s_q hs (c_loadW ty61 ag61 (hs.ev rfl) (hs.old hb3 id) (by rfl)) rfl fun ac hs=>?_
    cases hcr:clRight o.W o.S o.H d mt sn ep sq
    · obtain ⟨K,t,hsp,_⟩:=hspb.fr0 hs.fr
      have horP:=hon.at_.fr0 hs.fr
      have hb4P:=hs.old hb4 id
      have hlt4:=heap_lt hb4P
      have hfr3:=hs.fr
      refine s_callR hs fu26 (.cons (hs.ev rfl) (.cons (hs.ev rfl) .nil)) (proof_Issue p ho K t d mt sn ep sq _ hsp) rfl fun ac ww v24 hf hp hs=>?_
      have hcr2:clRight p.W p.S p.H d mt sn ep sq=false:=by rw [hsis.W,hsis.S,hsis.H]; exact hcr
      obtain ⟨rfl,hspS⟩:=(hp.elim (fun h=>h.2) fun h=>absurd (hcr2.symm.trans h.1) (by decide))
      have hor4:=horP.spring hf hspS
      have hb44:=keepS hsp hf hb4P
      have hfrB:=or_fr2 hfrA hfr3 hon hf
      replace hs:=St.own1 hs.know hb44
      refine s_q hs (c_extract (hs.ev rfl) rfl) rfl fun ac hs=>?_
      refine s_q hs (c_extract (hs.ev rfl) rfl) rfl fun ac hs=>?_
      refine s_storeW (i:=0) hs ty56 rfl rfl rfl (by rfl) (by rfl) rfl fun ww hs=>?_
      refine zA hs fun ac hs=>?_
      refine s_end ?_
      replace hs:=hs.sub (F':=[(4,_),(5,_)]) ⟨rfl,rfl,trivial⟩
      refine then_n (wp_ret ?_)
      refine s_ret hs rfl (.cell (hs.tmp rfl) (run_loadA ty56 ag56 (hs.seg (i:=0) rfl) rfl (by rfl)) (.tmp (hs.tmp rfl) .nil)) rfl ⟨_,rfl,(or_fin hfrB hg4 hs.fr),?_⟩
      exact .inl ⟨rfl,rfl,.inr ⟨rfl,p,hon.to (hor4.frX hs.fr (fun k e=>⟨_,_,_,e ▸ hb44,rfl⟩) fun p2 e=>by
        cases e
        obtain ⟨K9,t9,h9⟩:=hspS
        exact ⟨K9,t9,h9.other hs.fr fun k e=>⟨_,_,_,e ▸ hb44,rfl⟩⟩)⟩⟩
    · obtain ⟨K,t,hsp,_⟩:=hspb.fr0 hs.fr
      have horP:=hon.at_.fr0 hs.fr
      have hb4P:=hs.old hb4 id
      have hlt4:=heap_lt hb4P
      have hfr3:=hs.fr
      refine s_callR hs fu26 (.cons (hs.ev rfl) (.cons (hs.ev rfl) .nil)) (proof_Issue p ho K t d mt sn ep sq _ hsp) rfl fun ac ww v24 hf hp hs=>?_
      have hcr2:clRight p.W p.S p.H d mt sn ep sq=true:=by rw [hsis.W,hsis.S,hsis.H]; exact hcr
      obtain ⟨hsm,wv,pv,rfl,hwv,hpv,hwf,hpf⟩:=(hp.elim (fun h=>absurd (hcr2.symm.trans h.1) (by decide)) fun h=>h.2)
      have hspS:SpSome ww p:=by
        obtain ⟨K9,u9,h9⟩:=hsm
        exact ⟨K9,_,h9⟩
      have hor4:=horP.spring hf hspS
      have hwo:=hwv.one
      have hpo:=hpv.one
      have hsl:(shL d ep sq mt (el p sq.toNat mt.toNat) p.W sn).length=16:=shL_length _ _ _ _ _ _ _
      have hb44:=keepS hsp hf hb4P
      have hfrB:=or_fr2 hfrA hfr3 hon hf
      replace hs:=St.own1 hs.know hb44
      refine s_q hs (c_extract (hs.ev rfl) rfl) rfl fun ac hs=>?_
      refine s_q hs (c_extract (hs.ev rfl) rfl) rfl fun ac hs=>?_
      refine s_storeW (i:=0) hs ty56 rfl rfl rfl (by simp [hsl]) (by simp [hwo,hpo]; exact fun x _=>rfl) rfl fun ww hs=>?_
      refine zA hs fun ac hs=>?_
      refine s_end ?_
      replace hs:=hs.sub (F':=[(4,_),(5,_)]) ⟨rfl,rfl,trivial⟩
      refine then_n (wp_ret ?_)
      refine s_ret hs rfl (.cell (hs.tmp rfl) (run_loadA ty56 ag56 (hs.seg (i:=0) rfl) (List.take_of_length_le (by simp [hsl])) (by simp [hsl])) (.tmp (hs.tmp rfl) .nil)) rfl ⟨_,rfl,(or_fin hfrB hg4 hs.fr),?_⟩
      refine .inr ⟨rfl,p,wv,pv,rfl,hwv.fr hs.fr (fun k hk e=>?_),hpv.fr hs.fr (fun k hk e=>?_),hon.to (hor4.frX hs.fr (fun k e=>⟨_,_,_,e ▸ hb44,rfl⟩) fun p2 e=>?_)⟩
      · have h9:=(hwf k hk).1
        have e:k=g4:=e
        omega
      · have h9:=(hpf k hk).1
        have e:k=g4:=e
        omega
      · cases e
        obtain ⟨K9,t9,h9⟩:=hspS
        exact ⟨K9,t9,h9.other hs.fr fun k e=>⟨_,_,_,e ▸ hb44,rfl⟩⟩
theorem tr_Own (o:Orc) (s:Option Spr) (d mt sn:Int) (ep sq:UInt32) (lf ws ps:List UInt8) (nw np:Nat) (wv pv:Value) (hlf:lf.length=16) (hwl:ws.length=nw * 16) (hpl:ps.length=np * 16) (w:World) (hor:OrAt w o s) (hkey:∀ p,s=some p→p.d=d∧p.ep=ep) (hqw:Rd w wv nw (ws.map B)) (hqp:Rd w pv np (ps.map B)) (hfw:∀ w9,Fr (OrM o s) w w9→Rd w9 wv nw (ws.map B)) (hfp:∀ w9,Fr (OrM o s) w w9→Rd w9 pv np (ps.map B)):Ctr Tryz.prog 57 [.pointer (some ⟨o.g,0,none⟩),.agg #[I d,U ep,U sq,I mt,I sn],credV lf wv pv] w (OrM o s) (fun v w'=>(clRight o.W o.S o.H d mt sn ep sq=false∧v=.bool false∧((spFits o.W o.S o.H d ep=false∧OrAt w' o s)∨(spFits o.W o.S o.H d ep=true∧∃ p,OrNext w w' o s d ep p)))∨(clRight o.W o.S o.H d mt sn ep sq=true∧∃ p,v=.bool (decide (shL d ep sq mt (el p sq.toNat mt.toNat) p.W sn=lf) && decide (shW d ep sq mt (el p sq.toNat mt.toNat) p.W sn=ws) && decide (gPath p.d p.ep (ends p p.m) sq.toNat p.H=ps))∧OrNext w w' o s d ep p)):=by
  have hnlw:=hqw.le
  have hnlp:=hqp.le
  obtain ⟨wad,wcap,rfl,hwc,hwm⟩:=Rd.sl hqw
  obtain ⟨pad,pcap,rfl,hpc,hpm0⟩:=Rd.sl hqp
  refine fn_start (N:=38) Tryz.func57 rfl rfl rfl fun ac hk=>?_
  have hs:=St.start hk w
  refine wp_seq (wp_reg ?_)
  refine s_box hs rfl rfl rfl fun ac ww g4 hs=>?_
  refine s_box hs rfl rfl rfl fun ac ww g5 hs=>?_
  refine zA hs fun ac hs=>?_
  refine s_end ?_
  replace hs:=hs.sub (F':=[(0,_),(4,_),(5,_),(6,_)]) ⟨rfl,rfl,rfl,rfl,trivial⟩
  refine then_n (wp_seq (wp_reg ?_))
  refine zM hs fun ac hs=>?_
  refine s_q hs (c_loadW ty61 ag61 (hs.ev rfl) (hs.seg (i:=1) rfl) (by rfl)) rfl fun ac hs=>?_
  cases hcr:clRight o.W o.S o.H d mt sn ep sq
  · have hfr1:=hs.fr
    refine s_callR hs fu97 (.cons (hs.ev rfl) (.cons (hs.ev rfl) .nil)) (tr_Cred o s d mt sn ep sq _ (hor.fr0 hs.fr) hkey) rfl fun ac ww v12 hf hp hs=>?_
    obtain ⟨rfl,hst⟩:=(hp.elim (fun h=>h.2) fun h=>absurd (hcr.symm.trans h.1) (by decide))
    have hfrA:=(Fr.mono hfr1 (fun _ _=>False.elim):Fr (OrM o s) _ _).trans hf fun _ _ h=>h
    refine zM hs fun ac hs=>?_
    refine s_q hs (c_extract (hs.ev rfl) rfl) rfl fun ac hs=>?_
    refine s_q hs (c_extract (hs.ev rfl) rfl) rfl fun ac hs=>?_
    refine s_alloc hs ty56 rfl fun ac ww g7 hs=>?_
    refine s_storeW (i:=0) hs ty56 rfl rfl rfl (by rfl) (by rfl) rfl fun ww hs=>?_
    refine zA hs fun ac hs=>?_
    refine s_end ?_
    replace hs:=hs.sub (F':=[(5,_),(6,_),(7,_),(8,_)]) ⟨rfl,rfl,rfl,rfl,trivial⟩
    refine then_n (wp_seq (wp_reg ?_))
    refine zM hs fun ac hs=>?_
    refine s_q hs (c_eqlI (hs.ev rfl) (hs.ev rfl)) rfl fun ac hs=>?_
    refine zM hs fun ac hs=>?_
    refine s_no hs rfl rfl rfl rfl fun ac hs=>?_
    refine s_no hs rfl rfl rfl rfl fun ac hs=>?_
    refine s_no hs rfl rfl rfl rfl fun ac hs=>?_
    refine s_no hs rfl rfl rfl rfl fun ac hs=>?_
    refine s_no hs rfl rfl rfl rfl fun ac hs=>?_
    refine s_q hs (c_pick (hs.ev rfl) (hs.ev rfl) (hs.ev rfl)) rfl fun ac hs=>?_
    refine zM hs fun ac hs=>?_
    refine s_no hs rfl rfl rfl rfl fun ac hs=>?_
    refine s_no hs rfl rfl rfl rfl fun ac hs=>?_
    refine s_no hs rfl rfl rfl rfl fun ac hs=>?_
    refine s_no hs rfl rfl rfl rfl fun ac hs=>?_
    refine s_no hs rfl rfl rfl rfl fun ac hs=>?_
    refine s_q hs (c_pick (hs.ev rfl) (hs.ev rfl) (hs.ev rfl)) rfl fun ac hs=>?_
    refine zM hs fun ac hs=>?_
    refine s_no hs rfl rfl rfl rfl fun ac hs=>?_
    refine s_no hs rfl rfl rfl rfl fun ac hs=>?_
    refine s_no hs rfl rfl rfl rfl fun ac hs=>?_
    refine s_no hs rfl rfl rfl rfl fun ac hs=>?_
    refine s_no hs rfl rfl rfl rfl fun ac hs=>?_
    refine s_q hs (c_pick (hs.ev rfl) (hs.ev rfl) (hs.ev rfl)) rfl fun ac hs=>?_
    refine zA hs fun ac hs=>?_
    refine s_end ?_
    replace hs:=hs.sub (F':=[(6,_)]) ⟨rfl,trivial⟩
    refine then_n (wp_ret ?_)
    refine s_ret hs rfl (.tmp (hs.tmp rfl) .nil) rfl ⟨_,rfl,(hfrA.trans0 hs.fr),?_⟩
    refine .inl ⟨rfl,rfl,hst.imp (fun h=>⟨h.1,h.2.fr0 hs.fr⟩) fun h=>⟨h.1,?_⟩⟩
    obtain ⟨p,h2⟩:=h.2
    exact ⟨p,(h2.to (h2.at_.fr0 hs.fr)).back hfr1.size⟩
  · have hfr1:=hs.fr
    have hb5p:=hs.seg (i:=0) rfl
    refine s_callR hs fu97 (.cons (hs.ev rfl) (.cons (hs.ev rfl) .nil)) (tr_Cred o s d mt sn ep sq _ (hor.fr0 hs.fr) hkey) rfl fun ac ww v12 hf hp hs=>?_
    obtain ⟨p,wv2,pv2,rfl,hwv2,hpv2,hon⟩:=(hp.elim (fun h=>absurd (hcr.symm.trans h.1) (by decide)) fun h=>h.2)
    have hfrA:=(Fr.mono hfr1 (fun _ _=>False.elim):Fr (OrM o s) _ _).trans hf fun _ _ h=>h
    have hsl:(shL d ep sq mt (el p sq.toNat mt.toNat) p.W sn).length=16:=shL_length _ _ _ _ _ _ _
    have hwo:=hwv2.one
    have hpo:=hpv2.one
    have hb5:=keepO2 (hor.fr0 hfr1) hf hb5p
    obtain ⟨wad2,wcap2,rfl,hwc2,hwm2⟩:=Rd.sl hwv2
    obtain ⟨pad2,pcap2,rfl,hpc2,hpm2⟩:=Rd.sl hpv2
    have hsis:=(hon.at_.sp p rfl).1
    have hpm:sq.toNat < p.m:=by
      have h9:=(clRight_iff.1 hcr).2.2.2.2.2.2.1
      rw [← hsis.H,Int.toNat_natCast] at h9
      exact h9
    have hpl2:(gPath p.d p.ep (ends p p.m) sq.toNat p.H).length=p.H * 16:=gPath_length (ends_length p p.m) hpm p.H (Nat.le_refl _)
    have hwl2:(shW d ep sq mt (el p sq.toNat mt.toNat) p.W sn).length=(shN mt p.W sn) * 16:=shW_length _ _ _ _ _ _ _
    refine zM hs fun ac hs=>?_
    refine s_q hs (c_extract (hs.ev rfl) rfl) rfl fun ac hs=>?_
    refine s_q hs (c_extract (hs.ev rfl) rfl) rfl fun ac hs=>?_
    refine s_alloc hs ty56 rfl fun ac ww g7 hs=>?_
    refine s_storeW (i:=0) hs ty56 rfl rfl rfl (by simp [hsl]) (by simp [Value.oneCell']) rfl fun ww hs=>?_
    refine zA hs fun ac hs=>?_
    refine s_end ?_
    replace hs:=hs.sub (F':=[(5,_),(6,_),(7,_),(8,_)]) ⟨rfl,rfl,rfl,rfl,trivial⟩
    refine then_n (wp_seq (wp_reg ?_))
    refine zM hs fun ac hs=>?_
    refine s_q hs (c_eqlI (hs.ev rfl) (hs.ev rfl)) rfl fun ac hs=>?_
    refine zM hs fun ac hs=>?_
    refine s_yes hs rfl rfl ?_
    refine s_q hs (c_fld fl56_0 (hs.ev rfl)) rfl fun ac hs=>?_
    refine s_yes hs rfl rfl ?_
    refine s_q hs (c_loadA ty36 rfl (hs.ev rfl) (hs.seg (i:=0) rfl) (cred_leaf hsl _ _) (show (List.map B (shL d ep sq mt (el p sq.toNat mt.toNat) p.W sn)).length=16 by rw [List.length_map,hsl])) rfl fun ac hs=>?_
    refine s_yes hs rfl rfl ?_
    refine s_q hs (c_fld fl56_0 (hs.ev rfl)) rfl fun ac hs=>?_
    refine s_yes hs rfl rfl ?_
    refine s_q hs (c_loadA ty36 rfl (hs.ev rfl) (hs.old hb5 id) (cred_leaf hlf _ _) (show (List.map B lf).length=16 by rw [List.length_map,hlf])) rfl fun ac hs=>?_
    refine s_yes hs rfl rfl ?_
    refine s_call hs fu93 (.cons (hs.ev rfl) (.cons (hs.ev rfl) .nil)) (mac_Same (shL d ep sq mt (el p sq.toNat mt.toNat) p.W sn) lf hsl hlf _) rfl fun ac ww v22 hf hp hs=>?_
    obtain rfl:=hp
    replace hs:=hs [] (.nil _ _)
    refine s_q hs (c_pick (hs.ev rfl) (hs.ev rfl) (hs.ev rfl)) rfl fun ac hs=>?_
    refine zM hs fun ac hs=>?_
    refine s_g hs rfl rfl (fun hg=>c_fld fl56_1 (hs.ev rfl)) rfl fun ac hs=>?_
    refine s_g hs rfl rfl (fun hg=>c_loadS un39 rfl (gev (hs.ev rfl) hg) (hs.seg (i:=0) rfl) (cred_way hsl _ _)) rfl fun ac hs=>?_
    refine s_g hs rfl rfl (fun hg=>c_fld fl56_1 (hs.ev rfl)) rfl fun ac hs=>?_
    refine s_g hs rfl rfl (fun hg=>c_loadS un39 rfl (gev (hs.ev rfl) hg) (hs.old hb5 id) (cred_way hlf _ _)) rfl fun ac hs=>?_
    refine s_gcall hs rfl rfl fu98 (fun hg=>(.cons (gev (hs.ev rfl) hg) (.cons (gev (hs.ev rfl) hg) .nil))) (fun hg=>tr_sums (shN mt p.W sn) nw (shW d ep sq mt (el p sq.toNat mt.toNat) p.W sn) ws _ _ hwl2 hwl _ (hwv2.fr0 hs.fr) ((hfw _ hfrA).fr0 hs.fr)) rfl fun ac ww hf hs=>?_
    refine s_q hs (c_and (hs.ev rfl) (hs.ev rfl)) rfl fun ac hs=>?_
    refine zM hs fun ac hs=>?_
    refine s_g hs rfl rfl (fun hg=>c_fld fl56_2 (hs.ev rfl)) rfl fun ac hs=>?_
    refine s_g hs rfl rfl (fun hg=>c_loadS un39 rfl (gev (hs.ev rfl) hg) (hs.seg (i:=0) rfl) (cred_path hsl _ _)) rfl fun ac hs=>?_
    refine s_g hs rfl rfl (fun hg=>c_fld fl56_2 (hs.ev rfl)) rfl fun ac hs=>?_
    refine s_g hs rfl rfl (fun hg=>c_loadS un39 rfl (gev (hs.ev rfl) hg) (hs.old hb5 id) (cred_path hlf _ _)) rfl fun ac hs=>?_
    refine s_gcall hs rfl rfl fu98 (fun hg=>(.cons (gev (hs.ev rfl) hg) (.cons (gev (hs.ev rfl) hg) .nil))) (fun hg=>tr_sums p.H np (gPath p.d p.ep (ends p p.m) sq.toNat p.H) ps _ _ hpl2 hpl _ (hpv2.fr0 hs.fr) ((hfp _ hfrA).fr0 hs.fr)) rfl fun ac ww hf hs=>?_
    refine s_q hs (c_and (hs.ev rfl) (hs.ev rfl)) rfl fun ac hs=>?_
    refine zA hs fun ac hs=>?_
    refine s_end ?_
    replace hs:=hs.sub (F':=[(6,_)]) ⟨rfl,trivial⟩
    refine then_n (wp_ret ?_)
    refine s_ret hs rfl (.tmp (hs.tmp rfl) .nil) rfl ⟨_,rfl,(hfrA.trans0 hs.fr),?_⟩
    exact .inr ⟨rfl,p,rfl,(hon.to (hon.at_.fr0 hs.fr)).back hfr1.size⟩
end Go.Proofs.YtklajbdbnnceiaaGreat
end

section
/- Regions that draw their order and hold one call that turns what was there,once: as Fw43,but that the call is known to find all as it was. -/
namespace Go.FwO
open Go
open Go.Fw hiding factsC factsE addC addE fresh DV Links factsC_src factsE_src RC Meets Ob RG Inv
open Go.FwK (FrK DV addC addE fresh factsC factsE factsC_src factsE_src Has.newK DV.ok_stable Links)
structure RC (Fk:World→World→Prop) (c:Nat) (N:Nat) (Fc:List (Nat × Value)) (Fe:Fes) (o:Oper) (B1:Nat) (w1:World) (a:Act) (w:World):Prop where
  know:Know N Fc a
  fr:Fk w1 w
  fr0:o.dst=some c→Fr0 w1 w
  ents:∀ n E,lookE Fe n=some E→(tmpsOf o).any (Nat.beq n)=true→∃ v L',a.tmps[n]?=some v∧E v L' w∧Has B1 w L'
def Meets {Fk:World→World→Prop} (c:Nat) (o:Oper) (D:DV Fk) (w:World) (v:Value) (w':World):Prop:=∃ L',D.ok v L' w'∧Fk w w'∧(o.dst ≠ some c→Fr0 w w')∧Has w.heap.size w' L'
def Ob {Fk:World→World→Prop} (c:Nat) (P:Program) (ops:Array Oper) (N:Nat) (B1:Nat) (w1:World) (Fc:List (Nat × Value)) (Fe:Fes) (o:Oper) (D:DV Fk):Prop :=
  ((wantedAs ops Fc o=some true∧∀ a w,RC Fk c N Fc Fe o B1 w1 a w→Yl P (Meets c o D w) ((execOp a.eval o).run P w))∨(wantedAs ops Fc o=some false∧D=.c undef)) ∧
  (needQ o=true→∃ v,∀ a w,RC Fk c N Fc Fe o B1 w1 a w→(execOp a.eval o).run P w=.ok (.value v) w)
def RG (Fk:World→World→Prop) (c:Nat) (P:Program) (ops:Array Oper) (N B1:Nat) (w1:World) (K:List (Nat × Value)→Fes→Prop):List (Nat × Value)→Fes→List Oper→Prop
  | Fc,Fe,[]=>K Fc Fe
  | Fc,Fe,o::rest=>∃ (d:Nat) (D:DV Fk),o.dst=some d∧Ob c P ops N B1 w1 Fc Fe o D∧fresh Fc Fe d D∧RG Fk c P ops N B1 w1 K (addC Fc d D) (addE Fe d D) rest
theorem RG.parts {Fk:World→World→Prop} {c:Nat} {P:Program} {opsA:Array Oper} {N B1:Nat} {w1:World} {K:List (Nat × Value)→Fes→Prop} (Fc0:List (Nat × Value)):∀ (rest pre:List Oper) (Ds:List (DV Fk)),pre.length=Ds.length →
    RG Fk c P opsA N B1 w1 K (factsC (pre++rest) Ds Fc0 pre.length) (factsE (pre++rest) Ds pre.length) rest →
    ∃ Ds':List (DV Fk),(Ds++Ds').length=(pre++rest).length∧K (factsC (pre++rest) (Ds++Ds') Fc0 (pre++rest).length) (factsE (pre++rest) (Ds++Ds') (pre++rest).length) ∧
      ∀ i o,pre.length≤i→(pre++rest)[i]?=some o→∃ (d:Nat) (D:DV Fk),o.dst=some d∧(Ds++Ds')[i]?=some D∧Ob c P opsA N B1 w1 (factsC (pre++rest) (Ds++Ds') Fc0 i) (factsE (pre++rest) (Ds++Ds') i) o D ∧
        fresh (factsC (pre++rest) (Ds++Ds') Fc0 i) (factsE (pre++rest) (Ds++Ds') i) d D
  | [],pre,Ds,hl,h=>by
    refine ⟨[],by simp [hl],?_,fun i o hi ho=>?_⟩
    · simpa [RG] using h
    · simp at ho
      have:=(List.getElem?_eq_some_iff.1 ho).1
      omega
  | o::rest,pre,Ds,hl,h=>by
    obtain ⟨d,D,hd,hob,hfr,hk⟩:=h
    have ext:∀ (X Y:List (DV Fk)) (i:Nat),i≤X.length→factsC (pre++o::rest) (X++Y) Fc0 i=factsC (pre++o::rest) X Fc0 i∧factsE (pre++o::rest) (X++Y) i=factsE (pre++o::rest) X i:=by
      intro X Y i
      induction i with
      | zero=>intro _; exact ⟨rfl,rfl⟩
      | succ i ih =>
        intro hi
        have h1:=ih (by omega)
        have h2:(X++Y)[i]?=X[i]?:=List.getElem?_append_left (by omega)
        simp only [factsC,factsE,h2,h1.1,h1.2]
        exact ⟨trivial,trivial⟩
    have hget:(pre++o::rest)[pre.length]?=some o:=by simp
    have e1:=ext Ds [D] pre.length (by omega)
    have hDget:(Ds++[D])[pre.length]?=some D:=by rw [hl]; simp
    have hc:factsC (pre++o::rest) (Ds++[D]) Fc0 (pre.length + 1)=addC (factsC (pre++o::rest) Ds Fc0 pre.length) d D:=by
      simp only [factsC,hget,hDget,hd,e1.1]
    have he:factsE (pre++o::rest) (Ds++[D]) (pre.length + 1)=addE (factsE (pre++o::rest) Ds pre.length) d D:=by
      simp only [factsE,hget,hDget,hd,e1.2]
    have heq:pre++o::rest=(pre++[o])++rest:=by simp
    have hk':RG Fk c P opsA N B1 w1 K (factsC ((pre++[o])++rest) (Ds++[D]) Fc0 (pre++[o]).length) (factsE ((pre++[o])++rest) (Ds++[D]) (pre++[o]).length) rest:=by
      rw [← heq,show (pre++[o]).length=pre.length + 1 by simp,hc,he]
      exact hk
    obtain ⟨Ds',hl',hK',hall⟩:=RG.parts Fc0 rest (pre++[o]) (Ds++[D]) (by simp [hl]) hk'
    rw [← heq] at hl' hK' hall
    rw [List.append_assoc] at hl' hK' hall
    refine ⟨[D]++Ds',hl',hK',fun i o' hi ho'=>?_⟩
    by_cases hip:i=pre.length
    · subst hip
      rw [hget] at ho'
      obtain rfl:=Option.some.inj ho'
      have e2:=ext Ds ([D]++Ds') pre.length (by omega)
      refine ⟨d,D,hd,?_,?_,?_⟩
      · rw [List.getElem?_append_right (by omega)]
        simp [hl]
      · rw [e2.1,e2.2]; exact hob
      · rw [e2.1,e2.2]; exact hfr
    · exact hall i o' (by simp; omega) ho'
section
variable {c:Nat} {P:Program} {l:List Oper} {n N B1:Nat} {w1:World} {Fc0:List (Nat × Value)} {Fk:World→World→Prop} {Ds:List (DV Fk)} {Q:Exit→Act→World→Prop} {late:List Nat}
/-! the head: any order -/
structure Inv {Fk:World→World→Prop} (c:Nat) (l:List Oper) (n N B1:Nat) (w1:World) (Fc0:List (Nat × Value)) (Ds:List (DV Fk)) (vals:Nat→Value) (ents:Nat→List Ent) (listed:Array Bool) (a:Act) (w:World):Prop where
  size:listed.size=l.length
  know:a.tmps.size=N∧a.defers=[]
  done:∀ j d D,j < n→listed.getD j false=true→dstAt l.toArray j=some d→Ds[j]?=some D→a.tmps[d]?=some (vals j)∧D.ok (vals j) (ents j) w
  base:∀ s v,Fw.look Fc0 s=some v→(∀ j,j < n→listed.getD j false=true→dstAt l.toArray j ≠ some s)→a.tmps[s]?=some v
  has:Has B1 w ((List.range n).flatMap fun j=>if listed.getD j false=true then ents j else [])
  fr:Fk w1 w
  fr0:(∀ j,j < n→listed.getD j false=true→dstAt l.toArray j ≠ some c)→Fr0 w1 w
  tail:∀ t,n≤t→listed.getD t false=false
  closed:∀ j o,l[j]?=some o→listed.getD j false=true→∀ e∈o.after,Region.binds .any e=true→listed.getD e.on false=true
  links:∀ j o s,j < n→l[j]?=some o→listed.getD j false=true→opnd o=some s→safeB l.toArray n j s=true→LinkV o (a.tmps.getD s undef) (vals j)
theorem Inv.step0 (hF:FrK Fk B1) {vals:Nat→Value} {ents:Nat→List Ent} {listed:Array Bool} {a:Act} {w:World} {i:Nat} {o:Oper} (hok:RgOk l.toArray n late) (hl:Ds.length=n)
    (hparts:∀ i o,i < n→l[i]?=some o→∃ (d:Nat) (D:DV Fk),o.dst=some d∧Ds[i]?=some D∧Ob c P l.toArray N B1 w1 (factsC (l.take n) Ds Fc0 i) (factsE (l.take n) Ds i) o D∧fresh (factsC (l.take n) Ds Fc0 i) (factsE (l.take n) Ds i) d D)
    (hN:∀ i o d,i < n→l[i]?=some o→o.dst=some d→d < N) (hB:B1≤w1.heap.size)
    (inv:Inv c l n N B1 w1 Fc0 Ds vals ents listed a w) (hi:i < n) (hr:i∈Region.ready .any l.toArray listed)
    (hol:l[i]?=some o) :
    (Region.wanted o (yielded l.toArray a.tmps)=true∧Yl P (fun v w'=>∃ L',Inv c l n N B1 w1 Fc0 Ds (fun j=>if j=i then v else vals j) (fun j=>if j=i then L' else ents j) (listed.setIfInBounds i true) (a.put o.dst v) w') ((execOp a.eval o).run P w)∧(needQ o=true→∃ v,(execOp a.eval o).run P w=.ok (.value v) w)) ∨
    (Region.wanted o (yielded l.toArray a.tmps)=false∧Inv c l n N B1 w1 Fc0 Ds (fun j=>if j=i then undef else vals j) (fun j=>if j=i then [] else ents j) (listed.setIfInBounds i true) (a.put o.dst undef) w):=by
  obtain ⟨hun,o',ho,hall⟩:=mem_ready.1 hr
  have hil:i < l.length:=by have:=hok.le; simp at this; omega
  have hol':l[i]?=some o':=by simpa using ho
  rw [hol] at hol'
  obtain rfl:=Option.some.inj hol'
  have hunf:listed.getD i false=false:=by rw [← getD_both_iff (by rw [inv.size]; exact hil)]; exact hun
  obtain ⟨d,D,hd,hD,hob,hfr⟩:=hparts i o hi hol
  have hdi:dstAt l.toArray i=some d:=by simp [dstAt,hol,hd]
  -- the slots, as the text has them
  have hds:∃ ds:Nat→Nat,∀ j,j < n→dstAt l.toArray j=some (ds j):=by
    refine ⟨fun j=>(dstAt l.toArray j).getD 0,fun j hj=>?_⟩
    have hjl:j < l.length:=by have:=hok.le; simp at this; omega
    obtain ⟨d',hd'⟩:=hok.dst j l[j] (by simp [hjl]) hj
    simp [dstAt,hjl,hd']
  obtain ⟨ds,hds⟩:=hds
  have htake:(l.take n).length=n:=by have:=hok.le; simp at this; simp [this]
  have hds':∀ j o,(l.take n)[j]?=some o→o.dst=some (ds j):=by
    intro j o' hj
    have hjn:j < n:=by have:=(List.getElem?_eq_some_iff.1 hj).1; omega
    rw [List.getElem?_take_of_lt hjn] at hj
    have:=hds j hjn
    simpa [dstAt,hj] using this
  have hfr':∀ j o D,(l.take n)[j]?=some o→Ds[j]?=some D→fresh (factsC (l.take n) Ds Fc0 j) (factsE (l.take n) Ds j) (ds j) D:=by
    intro j o' D' hj hDj
    have hjn:j < n:=by have:=(List.getElem?_eq_some_iff.1 hj).1; omega
    have hj':=hj
    rw [List.getElem?_take_of_lt hjn] at hj'
    obtain ⟨d2,D2,h1,h2,_,h4⟩:=hparts j o' hjn hj'
    rw [hDj] at h2
    obtain rfl:=Option.some.inj h2
    have:=hds' j o' hj
    rw [h1] at this
    obtain rfl:=Option.some.inj this
    exact h4
  have listed_of:∀ j s,j < n→j ≠ i→s∈looks l.toArray o→dstAt l.toArray j=some s→(j < i∧listed.getD j false=true)∨(i < j∧listed.getD j false=false):=by
    intro j s hj hne hs hdj
    rcases hok.use i o s j ho hi hs hj hne hdj with ⟨h1,h2⟩ | ⟨h1,oj,h2,h3⟩
    · obtain ⟨e,he,hb,hon⟩:=waits_spec h2
      exact .inl ⟨h1,hon ▸ hall e he hb⟩
    · refine .inr ⟨h1,?_⟩
      obtain ⟨e,he,hb,hon⟩:=waits_spec h3
      cases hj2:listed.getD j false with
      | false=>rfl
      | true =>
        have:=inv.closed j oj (by simpa using h2) hj2 e he hb
        rw [hon,hunf] at this
        cases this
  have valueC:∀ s v,s∈looks l.toArray o→Fw.look (factsC (l.take n) Ds Fc0 i) s=some v→a.tmps[s]?=some v:=by
    intro s v hs hv
    rcases factsC_src (Fc0:=Fc0) hds' (by rw [hl,htake]) hfr' i (by omega) s v hv with ⟨j,hj,h1,h2⟩ | ⟨h1,h2⟩
    · have hjn:j < n:=by omega
      rcases listed_of j s hjn (by omega) hs (by rw [hds j hjn,h1]) with ⟨_,h3⟩ | ⟨h3,_⟩
      · obtain ⟨h4,h5⟩:=inv.done j s _ hjn h3 (by rw [hds j hjn,h1]) h2
        rw [h4,h5.1]
      · omega
    · refine inv.base s v h1 fun j hjn hj2 hdj=>?_
      by_cases hji:j=i
      · subst hji; rw [hunf] at hj2; cases hj2
      · rcases listed_of j s hjn hji hs hdj with ⟨h3,_⟩ | ⟨_,h3⟩
        · rw [hds j hjn] at hdj
          exact h2 j h3 (Option.some.inj hdj)
        · rw [h3] at hj2; cases hj2
  have hwant:∀ b,wantedAs l.toArray (factsC (l.take n) Ds Fc0 i) o=some b→Region.wanted o (yielded l.toArray a.tmps)=b:=by
    intro b hb
    unfold wantedAs at hb
    unfold Region.wanted
    cases hg:o.guard with
    | none=>rw [hg] at hb; simpa using hb
    | some gw =>
      obtain ⟨j,wt⟩:=gw
      rw [hg] at hb
      dsimp only at hb ⊢
      cases hs:(l.toArray[j]?).bind (·.dst) with
      | none=>rw [hs] at hb; simp at hb
      | some s =>
        rw [hs] at hb
        simp only [Option.bind_some] at hb
        cases hv:Fw.look (factsC (l.take n) Ds Fc0 i) s with
        | none=>rw [hv] at hb; simp at hb
        | some v =>
          rw [hv] at hb
          have h5:=valueC s _ (List.mem_append_right _ (by rw [hg]; dsimp only; rw [hs]; simp)) hv
          unfold yielded
          rw [hs]
          simp only [Option.bind_some,h5]
          cases v with
          | bool c =>
            simp at hb
            rw [← hb]
            cases c <;> cases wt <;> rfl
          | _ =>
            simp at hb
            subst hb
            rfl
  have next:∀ v L' w',D.ok v L' w'→Fk w w'→(o.dst ≠ some c→Fr0 w w')→Has w.heap.size w' L'→(∀ s,opnd o=some s→LinkV o (a.tmps.getD s undef) v)→Inv c l n N B1 w1 Fc0 Ds (fun j=>if j=i then v else vals j) (fun j=>if j=i then L' else ents j) (listed.setIfInBounds i true) (a.put (some d) v) w':=by
    intro v L' w' hv hf hf0 hn hlk
    have hdN:=hN i o d hi hol hd
    refine ⟨by simpa using inv.size,⟨by simpa [Act.put] using inv.know.1,inv.know.2⟩,fun j dj Dj hj hlj hdj hDj=>?_,fun s u hu hne=>?_,?_,hF.trans inv.fr hf,fun hx=>(inv.fr0 fun j hj hlj=>hx j hj (by rw [getD_set_ne false (show i ≠ j from fun e=>by subst e; rw [hunf] at hlj; cases hlj)]; exact hlj)).trans0 (hf0 fun e=>hx i hi (by simp [show i < listed.size by rw [inv.size]; exact hil]) (hdi.trans (hd.symm.trans e))),fun t ht=>?_,fun j oj hj hlj e he hb=>?_,fun j oj s hj hlj hlst hos hsf=>?_⟩
    · by_cases hji:j=i
      · subst hji
        rw [hdi] at hdj
        obtain rfl:=Option.some.inj hdj
        rw [hD] at hDj
        obtain rfl:=Option.some.inj hDj
        refine ⟨?_,by simpa using hv⟩
        simp [Act.put,inv.know.1,hdN]
      · rw [getD_set_ne false (Ne.symm hji)] at hlj
        obtain ⟨h1,h2⟩:=inv.done j dj Dj hj hlj hdj hDj
        have hne:d ≠ dj:=fun e=>hji (hok.uniq j i d hj hi (by rw [hdj,e]) hdi)
        refine ⟨?_,by simpa [hji] using DV.ok_stable hf h2⟩
        simp only [Act.put,if_neg hji]
        rw [Array.getElem?_setIfInBounds,if_neg hne]
        exact h1
    · have hsd:d ≠ s:=fun e=>hne i hi (by simp [show i < listed.size by rw [inv.size]; exact hil]) (by rw [hdi,e])
      simp only [Act.put]
      rw [Array.getElem?_setIfInBounds,if_neg hsd]
      refine inv.base s u hu fun j hj hlj=>?_
      by_cases hji:j=i
      · subst hji; rw [hunf] at hlj; cases hlj
      · exact hne j hj (by rw [getD_set_ne false (Ne.symm hji)]; exact hlj)
    · have hp:=flatMap_set_perm (fun j=>if listed.getD j false=true then ents j else []) (fun j=>if (listed.setIfInBounds i true).getD j false=true then (if j=i then L' else ents j) else []) i L'
        (by simp only [hunf]; simp) (by simp [show i < listed.size by rw [inv.size]; exact hil]) (fun j hji=>by simp only [getD_set_ne false (Ne.symm hji),if_neg hji]) (List.range n) List.nodup_range (List.mem_range.2 hi)
      exact (Has.newK (hF.has inv.has hf) inv.has (Nat.le_trans hB (hF.size inv.fr)) hn).perm hp
    · rw [getD_set_ne false (by omega)]
      exact inv.tail t ht
    · by_cases hji:j=i
      · subst hji
        rw [hol] at hj
        obtain rfl:=Option.some.inj hj
        have hlt:=hok.back j o ho e he hb
        rw [getD_set_ne false (by omega)]
        exact hall e he hb
      · rw [getD_set_ne false (Ne.symm hji)] at hlj
        have h9:=inv.closed j oj hj hlj e he hb
        by_cases hei:i=e.on
        · rw [← hei,hunf] at h9; cases h9
        · rw [getD_set_ne false hei]; exact h9
    · have hsi:d=s→i < j:=fun e=>by
        have h1:=List.all_eq_true.1 hsf i (List.mem_range.2 hi)
        rw [hdi,e] at h1
        simpa [Nat.blt_eq] using h1
      by_cases hji:j=i
      · subst hji
        rw [hol] at hlj
        obtain rfl:=Option.some.inj hlj
        have hne:d ≠ s:=fun e=>absurd (hsi e) (by omega)
        rw [getD_put hne]
        simpa using hlk s hos
      · rw [getD_set_ne false (Ne.symm hji)] at hlst
        have hne:d ≠ s:=fun e=>by
          have hlt:=hsi e
          rcases hok.use j oj s i (by simpa using hlj) hj (opnd_looks hos) hi (Ne.symm hji) (by rw [hdi,e]) with ⟨_,h2⟩ | ⟨h2,_⟩
          · obtain ⟨e2,he2,hb2,hon⟩:=waits_spec h2
            have:=inv.closed j oj hlj hlst e2 he2 hb2
            rw [hon,hunf] at this
            cases this
          · omega
        rw [getD_put hne]
        simp only [if_neg hji]
        exact inv.links j oj s hj hlj hlst hos hsf
  obtain ⟨hob,hqt⟩:=hob
  rcases hob with ⟨hw,hy⟩ | ⟨hw,rfl⟩
  · refine .inl ⟨hwant true hw,?_⟩
    -- a frame that has the text's facts, and that the operation cannot tell from this one
    obtain ⟨a',hsz,hdf,ha1,ha2⟩:∃ a':Act,a'.tmps.size=N∧a'.defers=[]∧(∀ s v,Fw.look (factsC (l.take n) Ds Fc0 i) s=some v→a'.tmps[s]?=some v)∧(∀ s,s∈tmpsOf o→a'.tmps[s]?=a.tmps[s]?):=by
      have hlk:∀ s v,Fw.look (factsC (l.take n) Ds Fc0 i) s=some v→s < N:=by
        intro s v hv
        rcases factsC_src (Fc0:=Fc0) hds' (by rw [hl,htake]) hfr' i (by omega) s v hv with ⟨j,hj,h1,h2⟩ | ⟨h1,h2⟩
        · have hjl:j < l.length:=by omega
          exact hN j l[j] s (by omega) (by simp [hjl]) (by have:=hds j (by omega); rw [h1] at this; simpa [dstAt,hjl] using this)
        · by_cases hex:∃ j,j < n∧dstAt l.toArray j=some s
          · obtain ⟨j,hj,hdj⟩:=hex
            have hjl:j < l.length:=by have:=hok.le; simp at this; omega
            exact hN j l[j] s hj (by simp [hjl]) (by simpa [dstAt,hjl] using hdj)
          · have:=inv.base s v h1 (fun j hj _ hdj=>hex ⟨j,hj,hdj⟩)
            have:=(Array.getElem?_eq_some_iff.1 this).1
            rw [inv.know.1] at this
            exact this
      refine ⟨⟨Array.ofFn (n:=N) fun s=>if (tmpsOf o).any (Nat.beq s.1)=true then a.tmps.getD s.1 undef else (Fw.look (factsC (l.take n) Ds Fc0 i) s.1).getD (a.tmps.getD s.1 undef),[]⟩,by simp,rfl,fun s v hv=>?_,fun s hs=>?_⟩
      · have hsN:=hlk s v hv
        simp only [Array.getElem?_ofFn,hsN,dif_pos]
        by_cases hu:(tmpsOf o).any (Nat.beq s)=true
        · rw [if_pos hu]
          have hmem:s∈tmpsOf o:=by
            obtain ⟨x,hx,hb⟩:=List.any_eq_true.1 hu
            rw [Nat.eq_of_beq_eq_true hb]; exact hx
          have:=valueC s v (List.mem_append_left _ hmem) hv
          simp [this]
        · rw [if_neg hu,hv]; rfl
      · have hu:(tmpsOf o).any (Nat.beq s)=true:=List.any_eq_true.2 ⟨s,hs,by simp⟩
        by_cases hsN:s < N
        · simp only [Array.getElem?_ofFn,hsN,dif_pos]
          rw [if_pos hu]
          have:s < a.tmps.size:=by rw [inv.know.1]; exact hsN
          simp [this]
        · simp only [Array.getElem?_ofFn,hsN]
          rw [Array.getElem?_eq_none (by rw [inv.know.1]; omega)]
          simp
    have hev:execOp a.eval o=execOp a'.eval o:=by
      refine execOp_congr o (not_select (hok.sel i o ho)) fun x hx=>?_
      cases x with
      | tmp s =>
        have:=ha2 s (mem_tmpsOf hx)
        simp only [Act.eval,Array.getD_eq_getD_getElem?,this]
      | _=>rfl
    have hrc:RC Fk c N (factsC (l.take n) Ds Fc0 i) (factsE (l.take n) Ds i) o B1 w1 a' w:=by
      refine ⟨⟨hsz,hdf,ha1⟩,inv.fr,fun e=>inv.fr0 fun j hj hlj hdj=>(by
        have hji:=hok.uniq j i d hj hi (hdj.trans (e.symm.trans hd)) hdi
        subst hji
        rw [hunf] at hlj
        cases hlj),fun s E hE hu=>?_⟩
      have hmem:s∈tmpsOf o:=by
        obtain ⟨x,hx,hb⟩:=List.any_eq_true.1 hu
        rw [Nat.eq_of_beq_eq_true hb]; exact hx
      obtain ⟨j,hj,h1,_,h2⟩:=factsE_src hds' (by rw [hl,htake]) i (by omega) s E hE
      have hjn:j < n:=by omega
      rcases listed_of j s hjn (by omega) (List.mem_append_left _ hmem) (by rw [hds j hjn,h1]) with ⟨_,h3⟩ | ⟨h3,_⟩
      · obtain ⟨h4,h5⟩:=inv.done j s _ hjn h3 (by rw [hds j hjn,h1]) h2
        have hsub:=sublist_flatMap (fun j=>if listed.getD j false=true then ents j else []) j (List.range n) (List.mem_range.2 hjn)
        simp only [h3,if_true] at hsub
        exact ⟨vals j,ents j,by rw [ha2 s hmem]; exact h4,h5,inv.has.pick hsub⟩
      · omega
    have hyl:=hy a' w hrc
    rw [← hev] at hyl
    have hyl2:Yl P (fun v w'=>Meets c o D w v w'∧∀ s,opnd o=some s→LinkV o (a.tmps.getD s undef) v) ((execOp a.eval o).run P w):=by
      cases ho2:opnd o with
      | none=>exact hyl.mono fun v w' h=>⟨h,fun s hs=>by cases hs⟩
      | some s=>exact (yl_link ho2 hyl).mono fun v w' h=>⟨h.1,fun s' hs'=>by cases hs'; exact h.2⟩
    exact ⟨hyl2.mono fun v w' ⟨⟨L',h1,h2,h20,h3⟩,h4⟩=>⟨L',by rw [hd]; exact next v L' w' h1 h2 h20 h3 h4⟩,fun hq=>by
      obtain ⟨v,hv⟩:=hqt hq
      exact ⟨v,by rw [hev]; exact hv a' w hrc⟩⟩
  · refine .inr ⟨hwant false hw,?_⟩
    rw [hd]
    exact next undef [] w ⟨rfl,rfl⟩ (hF.of0 (.refl _ _)) (fun _=>.refl _ _) (.nil _ _) fun s hs=>by
      unfold wantedAs at hw
      rw [opnd_guard hs] at hw
      cases hw
theorem Inv.step (hF:FrK Fk B1) {vals:Nat→Value} {ents:Nat→List Ent} {listed:Array Bool} {a:Act} {w:World} {i:Nat} {K:Act→World→Prop} (hok:RgOk l.toArray n late) (hl:Ds.length=n)
    (hparts:∀ i o,i < n→l[i]?=some o→∃ (d:Nat) (D:DV Fk),o.dst=some d∧Ds[i]?=some D∧Ob c P l.toArray N B1 w1 (factsC (l.take n) Ds Fc0 i) (factsE (l.take n) Ds i) o D∧fresh (factsC (l.take n) Ds Fc0 i) (factsE (l.take n) Ds i) d D)
    (hN:∀ i o d,i < n→l[i]?=some o→o.dst=some d→d < N) (hB:B1≤w1.heap.size)
    (inv:Inv c l n N B1 w1 Fc0 Ds vals ents listed a w) (hi:i < n) (hr:i∈Region.ready .any l.toArray listed)
    (k:∀ v L' a' w',Inv c l n N B1 w1 Fc0 Ds (fun j=>if j=i then v else vals j) (fun j=>if j=i then L' else ents j) (listed.setIfInBounds i true) a' w'→K a' w'):wpOp P l.toArray Q i K a w:=by
  obtain ⟨hun,o,ho,hall⟩:=mem_ready.1 hr
  have hol:l[i]?=some o:=by simpa using ho
  unfold wpOp
  rw [ho]
  dsimp only
  rcases inv.step0 hF hok hl hparts hN hB hi hr hol with ⟨hw,hy,_⟩ | ⟨hw,h⟩
  · rw [if_pos hw]
    left
    exact wp_of_yl hy fun v w' ⟨L',h⟩=>k v L' _ _ h
  · rw [hw]
    simp only [Bool.false_eq_true,if_false]
    exact k undef [] _ _ h
end
section
variable {c:Nat} {P:Program} {l:List Oper} {n N B1:Nat} {w1:World} {Fc0:List (Nat × Value)} {Fk:World→World→Prop} {Ds:List (DV Fk)} {Q:Exit→Act→World→Prop} {late:List Nat}
theorem wpAny_head (hF:FrK Fk B1) (hok:RgOk l.toArray n []) (hl:Ds.length=n)
    (hparts:∀ i o,i < n→l[i]?=some o→∃ (d:Nat) (D:DV Fk),o.dst=some d∧Ds[i]?=some D∧Ob c P l.toArray N B1 w1 (factsC (l.take n) Ds Fc0 i) (factsE (l.take n) Ds i) o D∧fresh (factsC (l.take n) Ds Fc0 i) (factsE (l.take n) Ds i) d D)
    (hN:∀ i o d,i < n→l[i]?=some o→o.dst=some d→d < N) (hB:B1≤w1.heap.size)
    (fin:∀ vals ents listed a w,Inv c l n N B1 w1 Fc0 Ds vals ents listed a w→(∀ j,j < n→listed.getD j false=true)→wpList P l.toArray Q (l.drop n) a w) :
    ∀ (m:Nat) (U:List Nat) (vals:Nat→Value) (ents:Nat→List Ent) (listed:Array Bool) (a:Act) (w:World),U.length=m→U.Nodup→(∀ j,j∈U ↔ j < l.length∧listed.getD j false=false) →
      Inv c l n N B1 w1 Fc0 Ds vals ents listed a w→wpAny P .any l.toArray Q m listed a w:=by
  intro m
  induction m with
  | zero =>
    intro U vals ents listed a w hU hnd hmem inv
    have hU0:U=[]:=List.eq_nil_of_length_eq_zero hU
    subst hU0
    have hall:∀ j,j < l.length→listed.getD j false=true:=fun j hj=>by
      cases hx:listed.getD j false with
      | true=>rfl
      | false=>have:=(hmem j).2 ⟨hj,hx⟩; simp at this
    have hn:n=l.length:=by
      have h1:=hok.le
      simp at h1
      by_cases e:n < l.length
      · have:=inv.tail n (Nat.le_refl _); rw [hall n e] at this; cases this
      · omega
    have h:=fin vals ents listed a w inv (fun j hj=>hall j (by omega))
    refine wpAny_tail hok 0 l.length listed a w (by omega) (by omega) inv.size (fun j hj=>?_) (by rw [← hn]; exact h)
    rw [getD_both_iff (by rw [inv.size]; exact hj),hall j hj]
    simp [hj]
  | succ m ih =>
    intro U vals ents listed a w hU hnd hmem inv
    by_cases hall:∀ j,j < n→listed.getD j false=true
    · have h:=fin vals ents listed a w inv hall
      have hle:=hok.le
      simp at hle
      have hcount:m + 1=l.length - n:=by
        rw [← hU]
        have:U.Perm ((List.range (l.length - n)).map (· + n)):=by
          refine (List.perm_ext_iff_of_nodup hnd ?_).2 fun j=>?_
          · exact List.Pairwise.map (R:=(· ≠ ·)) (S:=(· ≠ ·)) (· + n) (fun x y h=>by simp; exact h) List.nodup_range
          · rw [hmem]
            simp only [List.mem_map,List.mem_range]
            constructor
            · rintro ⟨h1,h2⟩
              refine ⟨j - n,?_,?_⟩
              · by_cases e:j < n
                · rw [hall j e] at h2; cases h2
                · omega
              · by_cases e:j < n
                · rw [hall j e] at h2; cases h2
                · omega
            · rintro ⟨x,h1,rfl⟩
              exact ⟨by omega,inv.tail _ (by omega)⟩
        rw [this.length_eq]; simp
      refine wpAny_tail hok (m + 1) n listed a w (by omega) (Nat.le_refl _) inv.size (fun j hj=>?_) h
      rw [getD_both_iff (by rw [inv.size]; exact hj)]
      by_cases e:j < n
      · rw [hall j e]; simp [e]
      · rw [inv.tail j (by omega)]; simp [e]
    · obtain ⟨j0,hj0,hl0⟩:∃ j,j < n∧listed.getD j false=false:=by
        apply Classical.byContradiction
        intro hn
        apply hall
        intro j hj
        cases hx:listed.getD j false with
        | true=>rfl
        | false=>exact absurd ⟨j,hj,hx⟩ hn
      have hle:=hok.le
      simp at hle
      refine ⟨fun h0=>?_,fun i hi=>?_⟩
      · obtain ⟨i,hi⟩:=exists_ready hok inv.size j0 (by omega) hl0
        rw [h0] at hi; cases hi
      · have hin:i < n:=by
          apply Classical.byContradiction
          intro hge
          obtain ⟨_,o,ho,hall2⟩:=mem_ready.1 hi
          have key:=anc_closed (ops:=l.toArray) (S:=fun j=>listed.getD j false=true) (fun i' o' hi' hs' e he hb=>inv.closed i' o' (by simpa using hi') hs' e he hb) 24 o j0 (fun e he hb=>hall2 e he hb) ((hok.tail i o ho (by omega) j0 (by omega)).resolve_left fun h=>by cases h)
          rw [hl0] at key
          cases key
        have hil:i < l.length:=by omega
        have hiU:i∈U:=(hmem i).2 ⟨hil,by
          have h1:=(mem_ready.1 hi).1
          rw [getD_both_iff (by rw [inv.size]; exact hil)] at h1
          exact h1⟩
        refine inv.step hF hok hl hparts hN hB hin hi fun v L' a' w' inv'=>?_
        refine ih (U.erase i) _ _ _ _ _ ?_ (hnd.erase i) (fun j=>?_) inv'
        · rw [List.length_erase_of_mem hiU,hU]; simp
        · rw [hnd.mem_erase_iff,hmem]
          by_cases e:j=i
          · subst e
            simp [show j < listed.size by rw [inv.size]; exact hil]
          · rw [getD_set_ne false (Ne.symm e)]
            simp [e]
theorem RG.mono {Fk:World→World→Prop} {c:Nat} {P:Program} {ops:Array Oper} {K K':List (Nat × Value)→Fes→Prop} (hm:∀ Fc Fe,K Fc Fe→K' Fc Fe):∀ (rest:List Oper) (Fc:List (Nat × Value)) (Fe:Fes),RG Fk c P ops N B1 w1 K Fc Fe rest→RG Fk c P ops N B1 w1 K' Fc Fe rest
  | [],Fc,Fe,h=>hm Fc Fe h
  | o::rest,Fc,Fe,⟨d,D,h1,h2,h3,h4⟩=>⟨d,D,h1,h2,h3,RG.mono hm rest _ _ h4⟩
theorem any_rgO {F:List (Nat × Value)} {w:World} {a:Act} (hF:FrK Fk w.heap.size) (n:Nat) (hB:rgB l.toArray n=true) (hd:dstB (l.take n) N=true) (hs:Know N F a)
    (h:RG Fk c P l.toArray N w.heap.size w (fun Fc Fe=>∀ a' w' L',Fk w w'→FeOk Fe a' w' L'→Know N Fc a'→Has w.heap.size w' L'→Links l n a'→wpList P l.toArray Q (l.drop n) a' w') F [] (l.take n)) :
    RegAny P Q l a w:=by
  have hok:RgOk l.toArray n []:=rgB_spec hB
  have hle:=hok.le
  simp at hle
  have htl:(l.take n).length=n:=by simp [hle]
  obtain ⟨Ds,hlen,hK,hparts⟩:=RG.parts F (l.take n) [] [] rfl h
  simp only [List.nil_append,htl] at hlen hK hparts
  have hget:∀ i o,i < n→l[i]?=some o→(l.take n)[i]?=some o:=fun i o hi ho=>by rw [List.getElem?_take_of_lt hi]; exact ho
  have hparts':∀ i o,i < n→l[i]?=some o→∃ (d:Nat) (D:DV Fk),o.dst=some d∧Ds[i]?=some D∧Ob c P l.toArray N w.heap.size w (factsC (l.take n) Ds F i) (factsE (l.take n) Ds i) o D∧fresh (factsC (l.take n) Ds F i) (factsE (l.take n) Ds i) d D :=
    fun i o hi ho=>hparts i o (by simp) (hget i o hi ho)
  have hN:∀ i o d,i < n→l[i]?=some o→o.dst=some d→d < N:=fun i o d hi ho hod=>by
    have:=List.all_eq_true.1 hd o (List.mem_of_getElem? (hget i o hi ho))
    rw [hod] at this
    exact lt_of_blt this
  unfold RegAny
  have hdr:Fk w { w with drawn:=w.drawn + 1 }:=hF.of0 (Fr.drew w)
  have hU:((List.range l.length).length=l.toArray.size):=by simp
  refine wpAny_head hF (w1:=w) (B1:=w.heap.size) (Ds:=Ds) (Fc0:=F) hok (by omega) hparts' hN (Nat.le_refl _) ?_ _ (List.range l.length) (fun _=>undef) (fun _=>[]) _ _ _ hU List.nodup_range ?_ ?_
  · intro vals ents listed a' w' inv hall
    have hds:∃ ds:Nat→Nat,∀ j o,(l.take n)[j]?=some o→o.dst=some (ds j):=by
      refine ⟨fun j=>(dstAt l.toArray j).getD 0,fun j o hj=>?_⟩
      have hjn:j < n:=by have:=(List.getElem?_eq_some_iff.1 hj).1; omega
      rw [List.getElem?_take_of_lt hjn] at hj
      obtain ⟨d',hd'⟩:=hok.dst j o (by simpa using hj) hjn
      simp [dstAt,hj,hd']
    obtain ⟨ds,hds⟩:=hds
    have hdsA:∀ j,j < n→dstAt l.toArray j=some (ds j):=fun j hj=>by
      have hjl:j < l.length:=by omega
      have:=hds j l[j] (by rw [List.getElem?_take_of_lt hj]; simp [hjl])
      simp [dstAt,hjl,this]
    have hfr':∀ j o D,(l.take n)[j]?=some o→Ds[j]?=some D→fresh (factsC (l.take n) Ds F j) (factsE (l.take n) Ds j) (ds j) D:=by
      intro j o' D' hj hDj
      have hjn:j < n:=by have:=(List.getElem?_eq_some_iff.1 hj).1; omega
      have hj':=hj
      rw [List.getElem?_take_of_lt hjn] at hj'
      obtain ⟨d2,D2,h1,h2,_,h4⟩:=hparts' j o' hjn hj'
      rw [hDj] at h2
      obtain rfl:=Option.some.inj h2
      have:=hds j o' hj
      rw [h1] at this
      obtain rfl:=Option.some.inj this
      exact h4
    have hknow:Know N (factsC (l.take n) Ds F n) a':=by
      refine ⟨inv.know.1,inv.know.2,fun s v hv=>?_⟩
      rcases factsC_src (Fc0:=F) hds (by omega) hfr' n (by omega) s v hv with ⟨j,hj,h1,h2⟩ | ⟨h1,h2⟩
      · obtain ⟨h4,h5⟩:=inv.done j s _ hj (hall j hj) (by rw [hdsA j hj,h1]) h2
        rw [h4,h5.1]
      · exact inv.base s v h1 fun j hj _ hdj=>by
          rw [hdsA j hj] at hdj
          exact h2 j hj (Option.some.inj hdj)
    have hfe:∀ i,i≤n→∃ L'',FeOk (factsE (l.take n) Ds i) a' w' L''∧L''.Perm ((List.range i).flatMap ents):=by
      intro i
      induction i with
      | zero=>intro _; exact ⟨[],rfl,by simp⟩
      | succ i ih =>
        intro hi
        obtain ⟨L'',h1,h2⟩:=ih (by omega)
        have hil:i < (l.take n).length:=by omega
        have ho:(l.take n)[i]?=some (l.take n)[i]:=List.getElem?_eq_getElem hil
        have hD:Ds[i]?=some (Ds[i]'(by omega)):=List.getElem?_eq_getElem (by omega)
        have hdi:=hds i _ ho
        obtain ⟨h4,h5⟩:=inv.done i (ds i) _ (by omega) (hall i (by omega)) (hdsA i (by omega)) hD
        simp only [factsE,ho,hD,hdi,List.range_succ,List.flatMap_append]
        generalize Ds[i]'(by omega)=D at *
        cases D with
        | c u=>exact ⟨L'',h1,by simp [h5.2]; exact h2⟩
        | e E st =>
          refine ⟨ents i++L'',⟨vals i,ents i,L'',h4,h5,h1,rfl⟩,?_⟩
          simp only [List.flatMap_cons,List.flatMap_nil,List.append_nil]
          exact (List.Perm.append_left _ h2).trans List.perm_append_comm
    obtain ⟨L'',hf1,hf2⟩:=hfe n (Nat.le_refl _)
    have hhas:Has w.heap.size w' L'':=by
      have:(List.range n).flatMap (fun j=>if listed.getD j false=true then ents j else [])=(List.range n).flatMap ents:=flatMap_same _ _ _ fun j hj=>by rw [if_pos (hall j (List.mem_range.1 hj))]
      have hh:=inv.has
      rw [this] at hh
      exact hh.perm hf2
    refine hK a' w' L'' inv.fr hf1 hknow hhas fun j oj dj s hj hoj hdj hos hsf=>?_
    obtain ⟨d2,D2,h1,h2,_,_⟩:=hparts' j oj hj hoj
    rw [hdj] at h1
    obtain rfl:=Option.some.inj h1
    exact ⟨vals j,(inv.done j dj D2 hj (hall j hj) (by simp [dstAt,hoj,hdj]) h2).1,inv.links j oj s hj hoj (hall j hj) hos hsf⟩
  · intro j
    simp
    intro hj
    simp [Array.getElem?_replicate,hj]
  · refine ⟨by simp,⟨hs.size,hs.defers⟩,fun j d D hj hl'=>?_,fun s v hv _=>hs.at_ s v hv,?_,hdr,fun _=>Fr.drew w,fun t _=>?_,fun j o _ hl'=>?_,fun j o s _ _ hl'=>?_⟩
    · simp [Array.getElem?_replicate] at hl'
      split at hl' <;> simp at hl'
    · have:∀ r:List Nat,r.flatMap (fun j=>if (Array.replicate l.toArray.size false).getD j false=true then ([]:List Ent) else [])=[]:=fun r=>by induction r with | nil=>rfl | cons x t ih=>simp
      rw [this]
      exact .nil _ _
    · simp [Array.getElem?_replicate]
      split <;> simp
    · simp [Array.getElem?_replicate] at hl'
      split at hl' <;> simp at hl'
    · simp [Array.getElem?_replicate] at hl'
      split at hl' <;> simp at hl'
end
end Go.FwO
end

section
/- The steps of such regions. -/
namespace Go.FwO
open Go Go.Fw
section
variable {cc:Nat} {P:Program} {l:List Oper} {n N:Nat} {Q:Exit→Act→World→Prop} {Fk:World→World→Prop}
theorem wp_region_rgO {id:Nat} {F:List (Nat × Value)} {w:World} {a:Act} (hm:P.follows .mixedOrders=true) (hF:FwK.FrK Fk w.heap.size) (n:Nat) (hB:rgB l.toArray n=true) (hd:dstB (l.take n) N=true) (hs:Know N F a)
    (h:RG Fk cc P l.toArray N w.heap.size w (fun Fc Fe=>∀ a' w' L',Fk w w'→FeOk Fe a' w' L'→Know N Fc a'→Has w.heap.size w' L'→FwK.Links l n a'→wpList P l.toArray Q (l.drop n) a' w') F [] (l.take n)) :
    (Code.region id l.toArray true).wp P Q a w:=wp_region_any hm (any_rgO hF n hB hd hs h)
end
section
variable {cc:Nat} {P:Program} {ops:Array Oper} {N B1:Nat} {w1:World} {Fk:World→World→Prop} {K:List (Nat × Value)→Fes→Prop} {Fc:List (Nat × Value)} {Fe:Fes} {rest:List Oper}
variable {d:Tmp} {op:Op} {ty:TypeId} {pos:String} {aft:Array Edge} {x y z:Operand} {t u:TypeId}
theorem RC.ev {o:Oper} {a:Act} {w:World} {x:Operand} {v:Value} (h:RC Fk cc N Fc Fe o B1 w1 a w) (hx:ev Fc x=some v):a.eval x=v:=h.know.eval hx
theorem RC.ent {o:Oper} {a:Act} {w:World} {n:Nat} {E:Value→List Ent→World→Prop} (h:RC Fk cc N Fc Fe o B1 w1 a w) (hn:lookE Fe n=some E) (hu:(tmpsOf o).any (Nat.beq n)=true) :
    ∃ v L',a.eval (.tmp n)=v∧E v L' w∧Has B1 w L':=by
  obtain ⟨v,L',h1,h2⟩:=h.ents n E hn hu
  exact ⟨v,L',by simp [Act.eval,h1],h2⟩
theorem rg_nil (h:K Fc Fe):RG Fk cc P ops N B1 w1 K Fc Fe []:=h
theorem rg_q (hK:FwK.FrK Fk B1) {v:Value} (h:∀ a w,RC Fk cc N Fc Fe ⟨some d,op,ty,pos,aft,none⟩ B1 w1 a w→(execOp a.eval ⟨some d,op,ty,pos,aft,none⟩).run P w=.ok (.value v) w) (hE:lookE Fe d=none)
    (k:RG Fk cc P ops N B1 w1 K ((d,v)::Fc) Fe rest):RG Fk cc P ops N B1 w1 K Fc Fe (⟨some d,op,ty,pos,aft,none⟩::rest) :=
  ⟨d,.c v,rfl,⟨.inl ⟨rfl,fun a w hc=>by rw [h a w hc]; exact ⟨[],⟨rfl,rfl⟩,hK.of0 (.refl _ _),(fun _=>.refl _ _),.nil _ _⟩⟩,fun _=>⟨v,h⟩⟩,hE,k⟩
theorem rg_yes (hK:FwK.FrK Fk B1) {v:Value} {j s:Nat} {b:Bool} (hj:(ops[j]?).bind (·.dst)=some s) (hb:Fw.look Fc s=some (.bool b))
    (h:∀ a w,RC Fk cc N Fc Fe ⟨some d,op,ty,pos,aft,some (j,b)⟩ B1 w1 a w→(execOp a.eval ⟨some d,op,ty,pos,aft,some (j,b)⟩).run P w=.ok (.value v) w) (hE:lookE Fe d=none)
    (k:RG Fk cc P ops N B1 w1 K ((d,v)::Fc) Fe rest):RG Fk cc P ops N B1 w1 K Fc Fe (⟨some d,op,ty,pos,aft,some (j,b)⟩::rest) :=
  ⟨d,.c v,rfl,⟨.inl ⟨by simp [wantedAs,hj,hb],fun a w hc=>by rw [h a w hc]; exact ⟨[],⟨rfl,rfl⟩,hK.of0 (.refl _ _),(fun _=>.refl _ _),.nil _ _⟩⟩,fun h=>by cases h⟩,hE,k⟩
theorem rg_no (hK:FwK.FrK Fk B1) {j s:Nat} {b c:Bool} (hj:(ops[j]?).bind (·.dst)=some s) (hb:Fw.look Fc s=some (.bool c)) (hne:c=!b) (hE:lookE Fe d=none)
    (k:RG Fk cc P ops N B1 w1 K ((d,undef)::Fc) Fe rest):RG Fk cc P ops N B1 w1 K Fc Fe (⟨some d,op,ty,pos,aft,some (j,b)⟩::rest) :=
  ⟨d,.c undef,rfl,⟨.inr ⟨by subst hne; cases b <;> simp [wantedAs,hj,hb],rfl⟩,fun h=>by cases h⟩,hE,k⟩
theorem rg_e (hK:FwK.FrK Fk B1) (E:Value→List Ent→World→Prop) (st:∀ v L w w',Fk w w'→E v L w→E v L w')
    (h:∀ a w,RC Fk cc N Fc Fe ⟨some d,op,ty,pos,aft,none⟩ B1 w1 a w→Yl P (fun v w'=>∃ L',E v L' w'∧Fr0 w w'∧Has w.heap.size w' L') ((execOp a.eval ⟨some d,op,ty,pos,aft,none⟩).run P w)) (hC:Fw.look Fc d=none)
    (k:RG Fk cc P ops N B1 w1 K Fc ((d,E)::Fe) rest) (hq:needQ ⟨some d,op,ty,pos,aft,none⟩=false:=by rfl):RG Fk cc P ops N B1 w1 K Fc Fe (⟨some d,op,ty,pos,aft,none⟩::rest) :=
  ⟨d,.e E st,rfl,⟨.inl ⟨rfl,fun a w hc=>(h a w hc).mono fun v w' ⟨L',h1,h2,h3⟩=>⟨L',h1,hK.of0 h2,fun _=>h2,h3⟩⟩,fun h=>by rw [hq] at h; cases h⟩,hC,k⟩
theorem rg_alloc (hK:FwK.FrK Fk B1) {td:TypeDesc} {sz bytes:Nat} {zs:List Value} (hT:Ty P t td sz bytes zs) (hC:Fw.look Fc d=none)
    (k:RG Fk cc P ops N B1 w1 K Fc ((d,fun v L _=>∃ g,v=.pointer (some ⟨g,0,none⟩)∧L=[.seg g zs t])::Fe) rest):RG Fk cc P ops N B1 w1 K Fc Fe (⟨some d,.alloc t,ty,pos,aft,none⟩::rest) :=
  rg_e hK _ (fun _ _ _ _ _ h=>h) (fun a w hc=>by rw [c_alloc hT]; exact ⟨_,⟨_,rfl,rfl⟩,(.alloc _ _),has_alloc⟩) hC k
theorem rg_bslice (hK:FwK.FrK Fk B1) {E:TypeId} {ed:TypeDesc} {s bytes n:Nat} {z zs:List Value} {ps:Array (Nat × Operand)} {vs:List Value} (hu:P.underlying t=some (.slice E)) (hE:Ty P E ed s bytes z)
    (hps:∀ a w,RC Fk cc N Fc Fe ⟨some d,.buildSlice t n ps,ty,pos,aft,none⟩ B1 w1 a w→Evp a 0 ps.toList vs) (hn:vs.length=n) (hv:∀ v∈vs,v.cells.size=s) (hsmall:n * s≤16777216) (hz:flatCells vs=zs) (hC:Fw.look Fc d=none)
    (k:RG Fk cc P ops N B1 w1 K Fc ((d,fun v L _=>∃ g,v=.slice (some ⟨g,0,none⟩) n n∧L=[.seg g zs E])::Fe) rest):RG Fk cc P ops N B1 w1 K Fc Fe (⟨some d,.buildSlice t n ps,ty,pos,aft,none⟩::rest) :=
  rg_e hK _ (fun _ _ _ _ _ h=>h) (fun a w hc=>by rw [c_bslice hu hE (hps a w hc) hn hv hsmall,hz]; exact ⟨_,⟨_,rfl,rfl⟩,(.alloc _ _),has_alloc⟩) hC k
theorem rg_moveE (hK:FwK.FrK Fk B1) {s:Nat} {E0:Value→List Ent→World→Prop} (C:Value→Prop) (hn:lookE Fe s=some E0) (hu:(tmpsOf ⟨some d,.move (.tmp s),ty,pos,aft,none⟩).any (Nat.beq s)=true) (hC:∀ v L w,E0 v L w→C v) (hCd:Fw.look Fc d=none)
    (k:RG Fk cc P ops N B1 w1 K Fc ((d,fun v L _=>C v∧L=[])::Fe) rest):RG Fk cc P ops N B1 w1 K Fc Fe (⟨some d,.move (.tmp s),ty,pos,aft,none⟩::rest) :=
  rg_e hK (fun v L _=>C v∧L=[]) (fun _ _ _ _ _ h=>h) (fun a w hc=>by
    obtain ⟨v,L',h1,h2,_⟩:=hc.ent hn hu
    rw [c_move h1]
    exact ⟨[],⟨hC _ _ _ h2,rfl⟩,(.refl _ _),.nil _ _⟩) hCd k
theorem rg_extC (hK:FwK.FrK Fk B1) {s i:Nat} {E0:Value→List Ent→World→Prop} {c:Value} (hn:lookE Fe s=some E0) (hu:(tmpsOf ⟨some d,.extract (.tmp s) i,ty,pos,aft,none⟩).any (Nat.beq s)=true) (hc:∀ v L w,E0 v L w→∃ vs,v=.tuple vs∧vs[i]?=some c) (hE:lookE Fe d=none)
    (k:RG Fk cc P ops N B1 w1 K ((d,c)::Fc) Fe rest):RG Fk cc P ops N B1 w1 K Fc Fe (⟨some d,.extract (.tmp s) i,ty,pos,aft,none⟩::rest) :=
  rg_q hK (fun a w h=>by
    obtain ⟨v,L',h1,h2,_⟩:=h.ent hn hu
    obtain ⟨vs,rfl,h3⟩:=hc _ _ _ h2
    exact c_extract h1 h3) hE k
theorem rg_extE (hK:FwK.FrK Fk B1) {s i:Nat} {E0:Value→List Ent→World→Prop} (C:Value→Prop) (hn:lookE Fe s=some E0) (hu:(tmpsOf ⟨some d,.extract (.tmp s) i,ty,pos,aft,none⟩).any (Nat.beq s)=true) (hc:∀ v L w,E0 v L w→∃ vs u,v=.tuple vs∧vs[i]?=some u∧C u) (hCd:Fw.look Fc d=none)
    (k:RG Fk cc P ops N B1 w1 K Fc ((d,fun v L _=>C v∧L=[])::Fe) rest):RG Fk cc P ops N B1 w1 K Fc Fe (⟨some d,.extract (.tmp s) i,ty,pos,aft,none⟩::rest) :=
  rg_e hK (fun v L _=>C v∧L=[]) (fun _ _ _ _ _ h=>h) (fun a w h=>by
    obtain ⟨v,L',h1,h2,_⟩:=h.ent hn hu
    obtain ⟨vs,u,rfl,h3,h4⟩:=hc _ _ _ h2
    rw [c_extract h1 h3]
    exact ⟨[],⟨h4,rfl⟩,(.refl _ _),.nil _ _⟩) hCd k
theorem rg_call (hK:FwK.FrK Fk B1) {f:FuncId} {args:Array Operand} {vs:List Value} {tys:Array TypeId} {c:Value} (hF:Fun P f)
    (hargs:∀ a w,RC Fk cc N Fc Fe ⟨some d,.call { callee:=.value (.func f),args:=args,argTypes:=tys },ty,pos,aft,none⟩ B1 w1 a w→Evs a args.toList vs)
    (hc:∀ w,Fk w1 w→Ctr P f vs w (fun _=>False) fun v _=>v=c) (hE:lookE Fe d=none)
    (k:RG Fk cc P ops N B1 w1 K ((d,c)::Fc) Fe rest):RG Fk cc P ops N B1 w1 K Fc Fe (⟨some d,.call { callee:=.value (.func f),args:=args,argTypes:=tys },ty,pos,aft,none⟩::rest) :=
  ⟨d,.c c,rfl,⟨.inl ⟨rfl,fun a w h=>by
    rw [run_call hF (hargs a w h)]
    exact Calls.mono (hc w h.fr) fun e w' ⟨v,he,hf,hv⟩=>⟨v,he,[],⟨hv,rfl⟩,hK.of0 hf,(fun _=>hf),.nil _ _⟩⟩,fun h=>by cases h⟩,hE,k⟩
theorem rg_callE (hK:FwK.FrK Fk B1) {f:FuncId} {args:Array Operand} {tys:Array TypeId} (E:Value→List Ent→World→Prop) (st:∀ v L w w',Fk w w'→E v L w→E v L w') (hF:Fun P f)
    (hc:∀ a w,RC Fk cc N Fc Fe ⟨some d,.call { callee:=.value (.func f),args:=args,argTypes:=tys },ty,pos,aft,none⟩ B1 w1 a w →
      ∃ vs,Evs a args.toList vs∧Ctr P f vs w (fun _=>False) fun v w'=>∃ L',E v L' w'∧Has w.heap.size w' L') (hC:Fw.look Fc d=none)
    (k:RG Fk cc P ops N B1 w1 K Fc ((d,E)::Fe) rest):RG Fk cc P ops N B1 w1 K Fc Fe (⟨some d,.call { callee:=.value (.func f),args:=args,argTypes:=tys },ty,pos,aft,none⟩::rest) :=
  rg_e hK E st (fun a w h=>by
    obtain ⟨vs,h1,h2⟩:=hc a w h
    rw [run_call hF h1]
    exact Calls.mono h2 fun e w' ⟨v,he,hf,L',hv,hl⟩=>⟨v,he,L',hv,hf,hl⟩) hC k
end
section
variable {cc:Nat} {P:Program} {ops:Array Oper} {N B1:Nat} {w1:World} {Fk:World→World→Prop} {K:List (Nat × Value)→Fes→Prop} {Fc:List (Nat × Value)} {Fe:Fes} {rest:List Oper}
variable {d:Tmp} {op:Op} {ty:TypeId} {pos:String} {aft:Array Edge} {x y z:Operand} {t u:TypeId}
theorem rg_strip {j s:Nat} {b:Bool} (hj:(ops[j]?).bind (·.dst)=some s) (hb:Fw.look Fc s=some (.bool b)) (k:RG Fk cc P ops N B1 w1 K Fc Fe (⟨some d,op,ty,pos,aft,none⟩::rest)) :
    RG Fk cc P ops N B1 w1 K Fc Fe (⟨some d,op,ty,pos,aft,some (j,b)⟩::rest):=by
  obtain ⟨d',D,h1,h2,h3,h4⟩:=k
  refine ⟨d',D,h1,?_,h3,h4⟩
  refine ⟨?_,fun h=>by cases h⟩
  rcases h2.1 with ⟨_,h⟩ | ⟨h,_⟩
  · exact .inl ⟨by simp [wantedAs,hj,hb],fun a w hc=>h a w ⟨hc.know,hc.fr,hc.fr0,hc.ents⟩⟩
  · simp [wantedAs] at h
end
section
variable {cc:Nat} {P:Program} {ops:Array Oper} {N B1:Nat} {w1:World} {Fk:World→World→Prop} {K:List (Nat × Value)→Fes→Prop} {Fc:List (Nat × Value)} {Fe:Fes} {rest:List Oper}
variable {d:Tmp} {op:Op} {ty:TypeId} {pos:String} {aft:Array Edge} {x y z:Operand} {t u:TypeId}
theorem rg_callOne (hK:FwK.FrK Fk B1) {f:FuncId} {args:Array Operand} {vs:List Value} {tys:Array TypeId} {c:Value} (hF:Fun P f)
    (hargs:∀ a w,RC Fk d N Fc Fe ⟨some d,.call { callee:=.value (.func f),args:=args,argTypes:=tys },ty,pos,aft,none⟩ B1 w1 a w→Evs a args.toList vs)
    (hc:∀ w,Fr0 w1 w→Calls P f vs.toArray w fun e w'=>e=.returned c∧Fk w w') (hE:lookE Fe d=none)
    (k:RG Fk d P ops N B1 w1 K ((d,c)::Fc) Fe rest):RG Fk d P ops N B1 w1 K Fc Fe (⟨some d,.call { callee:=.value (.func f),args:=args,argTypes:=tys },ty,pos,aft,none⟩::rest) :=
  ⟨d,.c c,rfl,⟨.inl ⟨rfl,fun a w h=>by
    rw [run_call hF (hargs a w h)]
    exact Calls.mono (hc w (h.fr0 rfl)) fun e w' ⟨he,hf⟩=>⟨c,he,[],⟨rfl,rfl⟩,hf,(fun h=>absurd rfl h),.nil _ _⟩⟩,fun h=>by cases h⟩,hE,k⟩
theorem rg_callOneE (hK:FwK.FrK Fk B1) {f:FuncId} {args:Array Operand} {tys:Array TypeId} {c:Value} (hF:Fun P f)
    (hc:∀ a w,RC Fk d N Fc Fe ⟨some d,.call { callee:=.value (.func f),args:=args,argTypes:=tys },ty,pos,aft,none⟩ B1 w1 a w→Fr0 w1 w→∃ vs,Evs a args.toList vs∧Calls P f vs.toArray w fun e w'=>e=.returned c∧Fk w w') (hE:lookE Fe d=none)
    (k:RG Fk d P ops N B1 w1 K ((d,c)::Fc) Fe rest):RG Fk d P ops N B1 w1 K Fc Fe (⟨some d,.call { callee:=.value (.func f),args:=args,argTypes:=tys },ty,pos,aft,none⟩::rest) :=
  ⟨d,.c c,rfl,⟨.inl ⟨rfl,fun a w h=>by
    obtain ⟨vs,h1,h2⟩:=hc a w h (h.fr0 rfl)
    rw [run_call hF h1]
    exact Calls.mono h2 fun e w' ⟨he,hf⟩=>⟨c,he,[],⟨rfl,rfl⟩,hf,(fun h=>absurd rfl h),.nil _ _⟩⟩,fun h=>by cases h⟩,hE,k⟩
theorem rg_callV (hK:FwK.FrK Fk B1) {f:FuncId} {args:Array Operand} {tys:Array TypeId} {c:Value} (hF:Fun P f)
    (hc:∀ a w,RC Fk cc N Fc Fe ⟨some d,.call { callee:=.value (.func f),args:=args,argTypes:=tys },ty,pos,aft,none⟩ B1 w1 a w→∃ vs,Evs a args.toList vs∧Ctr P f vs w (fun _=>False) fun v _=>v=c) (hE:lookE Fe d=none)
    (k:RG Fk cc P ops N B1 w1 K ((d,c)::Fc) Fe rest):RG Fk cc P ops N B1 w1 K Fc Fe (⟨some d,.call { callee:=.value (.func f),args:=args,argTypes:=tys },ty,pos,aft,none⟩::rest) :=
  ⟨d,.c c,rfl,⟨.inl ⟨rfl,fun a w h=>by
    obtain ⟨vs,h1,h2⟩:=hc a w h
    rw [run_call hF h1]
    exact Calls.mono h2 fun e w' ⟨v,he,hf,hv⟩=>⟨v,he,[],⟨hv,rfl⟩,hK.of0 hf,(fun _=>hf),.nil _ _⟩⟩,fun h=>by cases h⟩,hE,k⟩
theorem rg_g (hK:FwK.FrK Fk B1) {v:Value} {j s:Nat} {b c:Bool} (hj:(ops[j]?).bind (·.dst)=some s) (hb:Fw.look Fc s=some (.bool c))
    (h:c=b→∀ a w,RC Fk cc N Fc Fe ⟨some d,op,ty,pos,aft,some (j,b)⟩ B1 w1 a w→(execOp a.eval ⟨some d,op,ty,pos,aft,some (j,b)⟩).run P w=.ok (.value v) w) (hE:lookE Fe d=none)
    (k:RG Fk cc P ops N B1 w1 K ((d,if c=b then v else undef)::Fc) Fe rest):RG Fk cc P ops N B1 w1 K Fc Fe (⟨some d,op,ty,pos,aft,some (j,b)⟩::rest):=by
  by_cases e:c=b
  · subst e
    exact rg_yes hK hj hb (h rfl) hE (by simpa using k)
  · exact rg_no hK hj hb (by cases c <;> cases b <;> simp_all) hE (by simpa [e] using k)
end
def KeepB (kp:Obj→Bool) (a b:World):Prop:=∀ (g:Nat) (x:Obj),a.heap[g]?=some x→kp x=true→b.heap[g]?=some x
abbrev FkO (M:Nat→Prop) (kp:Obj→Bool) (R:World→World→Prop):World→World→Prop:=fun a b=>Fr M a b∧KeepB kp a b∧R a b
theorem frKO {M:Nat→Prop} {kp:Obj→Bool} {R:World→World→Prop} {B1:Nat} (hM:∀ k,M k→k < B1) (hR:∀ {a b c},R a b→R b c→R a c) (h0:∀ {a b},Fr0 a b→R a b):FwK.FrK (FkO M kp R) B1 :=
  ⟨fun h k=>⟨h.1.trans k.1 fun _ _=>id,fun g x hx hk=>k.2.1 g x (h.2.1 g x hx hk) hk,hR h.2.2 k.2.2⟩,fun h=>⟨h.mono fun _ _=>False.elim,fun g x hx _=>(h.block g (Array.getElem?_eq_some_iff.1 hx).1 id).trans hx,h0 h⟩,fun h=>h.1.size,fun hL h =>
    hL.same h.1.size fun e he k hk=>h.1.block k (hL.lt e he k hk) fun hm=>by
      have:=hM k hm
      have:=hL.ge e he k hk
      omega⟩
section
variable {cc:Nat} {N B1:Nat} {w1:World} {M:Nat→Prop} {kp:Obj→Bool} {R:World→World→Prop} {Fc:List (Nat × Value)} {Fe:Fes}
theorem RC.blk {o:Oper} {a:Act} {w:World} {g:Nat} {x:Obj} (h:RC (FkO M kp R) cc N Fc Fe o B1 w1 a w) (hb:w1.heap[g]?=some x) (hk:kp x=true:=by rfl):w.heap[g]?=some x:=h.fr.2.1 g x hb hk
end
end Go.FwO
end

section
/- What the oracle tells; what the document tells. -/
namespace Go.Proofs.YtklajbdbnnceiaaGreat
open Go Go.Fw
open Sha
def kpO:Obj→Bool:=fun x=>match x with
  | .cells _ T _=>!(Nat.beq 149 T || Nat.beq 203 T)
  | _=>false
def kpB (w:World) (k:Nat):Prop:=∃ x,w.heap[k]?=some x∧kpO x=true
abbrev pr (W:Int) (S H:Nat) (seed:List UInt8) (d:Int) (ep:UInt32):Spr:=⟨0,1,W,S,H,seed,d,ep⟩
abbrev Orc.pr (o:Orc) (d:Int) (ep:UInt32):Spr:=Go.Proofs.YtklajbdbnnceiaaGreat.pr o.W o.S.toNat o.H.toNat (o.seed d) d ep
theorem spr_eq {p:Spr} {o:Orc} {d:Int} {ep:UInt32} (h:SpIs p o.W o.S o.H (o.seed d) d ep):p=⟨p.g,p.cg,o.W,o.S.toNat,o.H.toNat,o.seed d,d,ep⟩:=by
  obtain ⟨_,h1,h2,h3,h4,h5,h6⟩:=h
  obtain ⟨g,cg,W,S,H,seed,d',ep'⟩:=p
  simp only at h1 h2 h3 h4 h5 h6
  subst h1 h4 h5 h6
  simp only [Spr.mk.injEq,true_and,and_true]
  omega
def clV (p:Spr) (mt sn:Int) (sq:UInt32) (lf ws ps:List UInt8):Bool:=decide (shL p.d p.ep sq mt (el p sq.toNat mt.toNat) p.W sn=lf) && decide (shW p.d p.ep sq mt (el p sq.toNat mt.toNat) p.W sn=ws) && decide (gPath p.d p.ep (ends p p.m) sq.toNat p.H=ps)
theorem clV_pr (g cg:Nat) (W:Int) (S H:Nat) (seed:List UInt8) (d:Int) (ep:UInt32) (mt sn:Int) (sq:UInt32) (lf ws ps:List UInt8):clV ⟨g,cg,W,S,H,seed,d,ep⟩ mt sn sq lf ws ps=clV (pr W S H seed d ep) mt sn sq lf ws ps:=rfl
theorem orM_kp {w:World} {o:Orc} {s:Option Spr} (h:OrAt w o s) {k:Nat} (hm:OrM o s k):¬ kpB w k:=by
  rintro ⟨x,hx,hk⟩
  rcases hm with e | ⟨p,e,hm⟩
  · cases x with
    | cells cs T fr=>exact h.mapBlk _ e _ _ _ hx
    | map es cl=>cases hk
    | _=>cases hk
  · obtain ⟨cs,T,fr,h1,h2⟩:=spBlk (h.sp p e).2.2 hm
    rw [hx] at h1
    cases h1
    have hk:(!(Nat.beq 149 T || Nat.beq 203 T))=true:=hk
    rw [h2] at hk
    cases hk
theorem keepKB {w w':World} {o:Orc} {s:Option Spr} (h:OrAt w o s) (hf:Fr (OrM o s) w w'):FwO.KeepB kpO w w':=fun g x hx hk=>(hf.block g (Array.getElem?_eq_some_iff.1 hx).1 fun hm=>orM_kp h hm ⟨x,hx,hk⟩).trans hx
theorem row_kp {w:World} {v:Value} {n sz:Nat} {l:List Value} {T:TypeId} (h:w.ownsRow 0 T sz v n l) (hT:(Nat.beq 149 T || Nat.beq 203 T)=false:=by rfl):∀ k,v.ownBlock=some k→kpB w k:=by
  intro k hk
  obtain ⟨h1,⟨h2,_⟩ | ⟨g,cap,cur,h2,_,h3,_⟩⟩:=h
  · subst h2
    cases hk
  · subst h2
    simp only [Value.ownBlock,Option.some.injEq] at hk
    subst hk
    exact ⟨_,h3,by show (!(Nat.beq 149 T || Nat.beq 203 T))=true; rw [hT]; rfl⟩
theorem OrNext.is {w w':World} {o:Orc} {s:Option Spr} {d:Int} {ep:UInt32} {p:Spr} (h:OrNext w w' o s d ep p):SpIs p o.W o.S o.H (o.seed d) d ep:=by
  have h1:=(h.at_.sp p rfl).1
  rw [h.d,h.ep] at h1
  exact h1
abbrev ownV (o:Orc) (d mt sn:Int) (ep sq:UInt32) (lf ws ps:List UInt8):Bool:=clRight o.W o.S o.H d mt sn ep sq && clV (o.pr d ep) mt sn sq lf ws ps
def sdAt (sd:List UInt8) (d:Int):List UInt8:=(sd.drop (d.toNat * 32)).take 32
end Go.Proofs.YtklajbdbnnceiaaGreat
end

section
/- No oracle,no ledger; a ledger awake. -/
namespace Go.Proofs.YtklajbdbnnceiaaGreat
open Go Go.Fw
theorem tr_awake  (w:World) :Ctr Tryz.prog 48 [] w (fun _=>False) (fun v _=>v=.bool true):=by
  refine fn_start (N:=37) Tryz.func48 rfl rfl rfl fun ac hk=>?_
  have hs:=St.start hk w
  refine wp_seq (wp_reg ?_)
  refine zA hs fun ac hs=>?_
  refine s_end (then_n (wp_seq (wp_reg ?_)))
  refine s_call hs fu52 .nil (tr_Open _) rfl fun ac ww v5 hf hp hs=>?_
  obtain ⟨gl,mb,rfl,hh⟩:=hp
  replace hs:=hs _ (Has.grp' hh)
  refine zA hs fun ac hs=>?_
  refine s_end ?_
  replace hs:=hs.sub (F':=[(0,_),(1,_)]) ⟨rfl,rfl,trivial⟩
  refine then_n (wp_seq (wp_reg ?_))
  refine s_q hs (c_buildQ (zc:=[U 0,U 0,I 2]) ty59 bp59 (.cons (hs.ev rfl) .nil) rfl) rfl fun ac hs=>?_
  refine s_q hs (c_buildS (zc:=[I 1,U 0,U 0,I 2,I 3]) ty61 bp61 (.cons (hs.ev rfl) (.cons (hs.ev rfl) (.cons (hs.ev rfl) .nil))) ⟨rfl,rfl,rfl,trivial⟩ (by simp [flatCells,Value.cells]) rfl) rfl fun ac hs=>?_
  refine s_alloc hs ty61 rfl fun ac ww g2 hs=>?_
  refine s_storeW (i:=0) hs ty61 rfl rfl rfl (by rfl) (by rfl) rfl fun ww hs=>?_
  refine s_end ?_
  replace hs:=hs.sub (F':=[(0,_),(1,_),(2,_)]) ⟨rfl,rfl,rfl,trivial⟩
  refine then_n (wp_seq (wp_seq (wp_reg ?_)))
  refine zM hs fun ac hs=>?_
  refine s_q hs (c_loadW ty61 ag61 (hs.ev rfl) (hs.seg (i:=0) rfl) (by rfl)) rfl fun ac hs=>?_
  refine s_call hs fu94 (.cons (hs.ev rfl) (.cons (hs.ev rfl) .nil)) (tr_May _ _ _ _ [] (fun _=>false) (⟨1,0,0,2,3⟩:Cl) ⟨by decide,by decide⟩ _ (led_get (hs.get (i:=1) rfl))) rfl fun ac ww v10 hf hp hs=>?_
  obtain rfl:_=Value.bool false:=hp.trans (congrArg Value.bool (by decide))
  replace hs:=hs [] (.nil _ _)
  refine zM hs fun ac hs=>?_
  refine s_yes hs rfl rfl ?_
  refine zM hs fun ac hs=>?_
  refine s_yes hs rfl rfl ?_
  refine s_q hs (c_loadW ty61 ag61 (hs.ev rfl) (hs.seg (i:=0) rfl) (by rfl)) rfl fun ac hs=>?_
  refine s_yes hs rfl rfl ?_
  refine s_callM (i:=1) hs fu53 (.cons (hs.ev rfl) (.cons (hs.ev rfl) .nil)) rfl (tr_Show _ _ _ _ [] (fun _=>false) (⟨1,0,0,2,3⟩:Cl) (by decide) _ (hs.get (i:=1) rfl)) rfl fun ac ww v14 hf hp hs=>?_
  obtain ⟨rfl,v',h1,h2⟩:=hp
  replace hs:=hs (Ent.grp (led gl mb 0 v' [(⟨1,0,0,2,3⟩:Cl)] (fun _=>false))) h1 (fun k hk=>⟨h2 k hk,grp_lt h1 k hk⟩)
  refine s_yes hs rfl rfl ?_
  refine s_q hs (c_neqI (hs.ev rfl) (hs.ev rfl)) rfl fun ac hs=>?_
  refine s_q hs (c_pick (hs.ev rfl) (hs.ev rfl) (hs.ev rfl)) rfl fun ac hs=>?_
  refine s_end ?_
  replace hs:=hs.sub (F':=[(0,_),(1,_),(2,_),(16,_)]) ⟨rfl,rfl,rfl,rfl,trivial⟩
  refine then_n ?_
  refine wp_cond_false (hs.ev rfl) ?_
  refine wp_skip (then_n (wp_seq ?_))
  refine wp_region_rgX (J:=[1]) pmix 4 (by kernel_rfl) (by kernel_rfl) rfl rfl hs ?_
  simp only [List.take_succ_cons,List.take_zero]
  refine rg_q (fun ac ww h=>c_loadW ty61 ag61 (h.ev rfl) (h.blk (hs.seg (i:=0) rfl)) (by rfl)) rfl ?_
  refine rg_q (fun ac ww h=>c_loadW ty61 ag61 (h.ev rfl) (h.blk (hs.seg (i:=0) rfl)) (by rfl)) rfl ?_
  refine rg_alloc ty61 rfl ?_
  refine rg_alloc ty61 rfl ?_
  refine rg_nil fun ac ww L' hf hfe hs hlk=>?_
  simp only [List.drop_succ_cons,List.drop_zero]
  obtain ⟨v4,L4,M4,h4,e4,⟨v3,L3,M3,h3,e3,rfl,rfl⟩,rfl⟩:=hfe
  replace hs:=hs.add h4
  replace hs:=hs.add h3
  obtain ⟨g4,rfl,rfl⟩:=e4
  obtain ⟨g3,rfl,rfl⟩:=e3
  refine sk_storeW (i:=1) hs ty61 rfl rfl rfl (by rfl) (by rfl) rfl (fun ww hs=>late_read rfl rfl (hs.know.at_ 18 _ rfl) (c_loadW ty61 ag61 (hs.ev rfl) (hs.seg (i:=2) rfl) (by rfl)) (late_nil)) fun ww hs=>?_
  refine s_storeW (i:=0) hs ty61 rfl rfl rfl (by rfl) (by rfl) rfl fun ww hs=>?_
  refine s_end ?_
  replace hs:=hs.sub (F':=[(0,_),(1,_),(2,_),(3,_),(4,_)]) ⟨rfl,rfl,rfl,rfl,rfl,trivial⟩
  refine then_n (wp_seq (wp_reg ?_))
  refine s_q hs (c_fld fl61_2 (hs.ev rfl)) rfl fun ac hs=>?_
  refine s_store (i:=1) hs ty3 rfl rfl rfl rfl rfl rfl (by simp) rfl fun ww hs=>?_
  refine s_q hs (c_fld fl61_2 (hs.ev rfl)) rfl fun ac hs=>?_
  refine s_store (i:=0) hs ty3 rfl rfl rfl rfl rfl rfl (by simp) rfl fun ww hs=>?_
  refine s_q hs (c_fld fl61_1 (hs.ev rfl)) rfl fun ac hs=>?_
  refine s_q hs (c_fld fl59_2 (hs.ev rfl)) rfl fun ac hs=>?_
  refine s_store (i:=0) hs ty3 rfl rfl rfl rfl rfl rfl (by simp) rfl fun ww hs=>?_
  refine s_end ?_
  replace hs:=hs.sub (F':=[(0,_),(1,_),(2,_),(3,_),(4,_)]) ⟨rfl,rfl,rfl,rfl,rfl,trivial⟩
  refine then_n (wp_seq (wp_reg ?_))
  refine zM hs fun ac hs=>?_
  refine s_q hs (c_loadW ty61 ag61 (hs.ev rfl) (hs.seg (i:=2) rfl) (by rfl)) rfl fun ac hs=>?_
  refine s_call hs fu94 (.cons (hs.ev rfl) (.cons (hs.ev rfl) .nil)) (tr_May _ _ _ _ [(⟨1,0,0,2,3⟩:Cl)] (fun _=>false) (⟨1,0,0,2,3⟩:Cl) ⟨by decide,by decide⟩ _ (led_get (hs.get (i:=3) rfl))) rfl fun ac ww v25 hf hp hs=>?_
  obtain rfl:_=Value.bool true:=hp.trans (congrArg Value.bool (by decide))
  replace hs:=hs [] (.nil _ _)
  refine zM hs fun ac hs=>?_
  refine s_yes hs rfl rfl ?_
  refine zM hs fun ac hs=>?_
  refine s_yes hs rfl rfl ?_
  refine s_q hs (c_loadW ty61 ag61 (hs.ev rfl) (hs.seg (i:=1) rfl) (by rfl)) rfl fun ac hs=>?_
  refine s_yes hs rfl rfl ?_
  refine s_call hs fu94 (.cons (hs.ev rfl) (.cons (hs.ev rfl) .nil)) (tr_May _ _ _ _ [(⟨1,0,0,2,3⟩:Cl)] (fun _=>false) (⟨1,0,0,2,2⟩:Cl) ⟨by decide,by decide⟩ _ (led_get (hs.get (i:=3) rfl))) rfl fun ac ww v29 hf hp hs=>?_
  obtain rfl:_=Value.bool false:=hp.trans (congrArg Value.bool (by decide))
  replace hs:=hs [] (.nil _ _)
  refine s_yes hs rfl rfl ?_
  refine s_q hs (c_not (hs.ev rfl)) rfl fun ac hs=>?_
  refine s_q hs (c_pick (hs.ev rfl) (hs.ev rfl) (hs.ev rfl)) rfl fun ac hs=>?_
  refine zM hs fun ac hs=>?_
  refine s_yes hs rfl rfl ?_
  refine zM hs fun ac hs=>?_
  refine s_yes hs rfl rfl ?_
  refine s_q hs (c_loadW ty61 ag61 (hs.ev rfl) (hs.seg (i:=0) rfl) (by rfl)) rfl fun ac hs=>?_
  refine s_yes hs rfl rfl ?_
  refine s_call hs fu94 (.cons (hs.ev rfl) (.cons (hs.ev rfl) .nil)) (tr_May _ _ _ _ [(⟨1,0,0,2,3⟩:Cl)] (fun _=>false) (⟨1,0,0,3,2⟩:Cl) ⟨by decide,by decide⟩ _ (led_get (hs.get (i:=3) rfl))) rfl fun ac ww v35 hf hp hs=>?_
  obtain rfl:_=Value.bool true:=hp.trans (congrArg Value.bool (by decide))
  replace hs:=hs [] (.nil _ _)
  refine s_q hs (c_pick (hs.ev rfl) (hs.ev rfl) (hs.ev rfl)) rfl fun ac hs=>?_
  refine zA hs fun ac hs=>?_
  refine s_end ?_
  replace hs:=hs.sub (F':=[(0,_)]) ⟨rfl,trivial⟩
  refine then_n (wp_ret ?_)
  refine s_ret hs rfl (.tmp (hs.tmp rfl) .nil) rfl ⟨_,rfl,hs.fr,?_⟩
  rfl
end Go.Proofs.YtklajbdbnnceiaaGreat
end

section
/- The law of what the oracle owns. -/
namespace Go.Proofs.YtklajbdbnnceiaaGreat
open Go Go.Fw
open Sha
theorem RdT.piece {w:World} {b cap n:Nat} {ws:List UInt8} {T:TypeId} (h:RdT w (.slice (some ⟨b,0,none⟩) n cap) n 32 (ws.map B) T) {k:Nat} (hk:k < n):∃ cur,w.heap[b]?=some (.cells cur T (0,0))∧(cur.toList.drop (0 + k * 32)).take 32=((ws.drop (k * 32)).take 32).map B:=by
  obtain ⟨h1,g,cap',cur,h2,h3,h4,h5,h6,h7⟩:=h
  cases h2
  exact ⟨cur,h3,piece32 (o:=0) (by rw [List.drop_zero,h7]) (by simpa using h1) hk⟩
theorem RdT.is {w:World} {v:Value} {n:Nat} {l:List Value} {T:TypeId} (h:RdT w v n 32 l T):∃ b cap,v=.slice (some ⟨b,0,none⟩) n cap:=by
  obtain ⟨h1,g,cap',cur,h2,_⟩:=h
  exact ⟨g,cap',h2⟩
end Go.Proofs.YtklajbdbnnceiaaGreat
end

section
/- Judging. -/
namespace Go.Proofs.YtklajbdbnnceiaaGreat
open Go Go.Fw
open Sha
def judV (own may:Bool):Int:=if own=true then (if may=true then 0 else 1) else 2
end Go.Proofs.YtklajbdbnnceiaaGreat
end
