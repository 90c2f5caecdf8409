/- Own texts of this seat,laid together for one claim (with what its proof uses alone). -/
import Derived.Test.YtklajbdbnnceiaaGreatJdgKd
set_option linter.unusedSimpArgs false
set_option linter.unusedVariables false
set_option maxRecDepth 100000
set_option maxHeartbeats 4000000
section
/- What is issued and checked,as the document has it. -/
namespace Go.Proofs.YtklajbdbnnceiaaGreat
open Go Go.Fw
open Sha
theorem ref09_Issue (p:Spr) (ho:p.Ok) (m:Nat) (sn:Int) (sq:UInt32) (hcr:clRight p.W p.S p.H p.d m sn p.ep sq=true) (w:World) :Ctr Tryz.prog 31 [.agg #[I p.W,I p.S,I p.H],.agg (p.seed.map B).toArray,.agg #[I p.d,U p.ep,U sq,I (m:Nat),I sn]] w (fun _=>False) (outE (crE 35 (hLf p m sn sq) (shN (m:Int) p.W sn) (hWs p m sn sq) p.H (hPs p sq)) w):=by
  obtain ⟨hR,hd0,hdW,hsn0,hsnW,hep,hsq,hmt0,hmtS⟩:=clRight_iff.1 hcr
  obtain ⟨hlv,hS1,hS16,hH0,hH6⟩:=spRight_iff.1 hR
  have hsqm:=seq_lt hcr
  have hsl:=shL_length p.d p.ep sq (m:Int) (el p sq.toNat m) p.W sn
  refine fn_start (N:=56) Tryz.func31 rfl rfl rfl fun ac hk=>?_
  have hs:=St.start hk w
  refine wp_seq (wp_reg ?_)
  refine s_box hs rfl rfl rfl fun ac ww g3 hs=>?_
  refine s_box hs rfl rfl rfl fun ac ww g4 hs=>?_
  refine s_box hs rfl rfl rfl fun ac ww g5 hs=>?_
  refine s_alloc hs ty66 rfl fun ac ww g6 hs=>?_
  refine s_end ?_
  replace hs:=hs.sub (F':=[(3,_),(4,_),(5,_),(6,_)]) ⟨rfl,rfl,rfl,rfl,trivial⟩
  refine then_n (wp_seq (wp_reg ?_))
  refine s_q hs (c_loadW ty23 ag23 (hs.ev rfl) (hs.seg (i:=3) rfl) (by rfl)) rfl fun ac hs=>?_
  refine s_q hs (c_loadW ty24 rfl (hs.ev rfl) (hs.seg (i:=2) rfl) (by rw [List.length_map,ho.seed])) rfl fun ac hs=>?_
  refine s_q hs (c_fld fl54_0 (hs.ev rfl)) rfl fun ac hs=>?_
  refine s_q hs (c_loadS un3 rfl (hs.ev rfl) (hs.seg (i:=1) rfl) rfl) rfl fun ac hs=>?_
  refine s_q hs (c_fld fl54_1 (hs.ev rfl)) rfl fun ac hs=>?_
  refine s_q hs (c_fld fl52_0 (hs.ev rfl)) rfl fun ac hs=>?_
  refine s_q hs (c_loadS un25 rfl (hs.ev rfl) (hs.seg (i:=1) rfl) rfl) rfl fun ac hs=>?_
  refine s_q hs (c_fld fl54_1 (hs.ev rfl)) rfl fun ac hs=>?_
  refine s_q hs (c_fld fl52_1 (hs.ev rfl)) rfl fun ac hs=>?_
  refine s_q hs (c_loadS un25 rfl (hs.ev rfl) (hs.seg (i:=1) rfl) rfl) rfl fun ac hs=>?_
  refine s_q hs (c_cvUI un25 un3 (hs.ev rfl)) rfl fun ac hs=>?_
  refine s_q hs (c_fld fl54_1 (hs.ev rfl)) rfl fun ac hs=>?_
  refine s_q hs (c_fld fl52_2 (hs.ev rfl)) rfl fun ac hs=>?_
  refine s_q hs (c_loadS un3 rfl (hs.ev rfl) (hs.seg (i:=1) rfl) rfl) rfl fun ac hs=>?_
  refine s_call hs fu21 (.cons (hs.ev rfl) (.cons (hs.ev rfl) (.cons (hs.ev rfl) (.cons (hs.ev rfl) (.cons (hs.ev rfl) (.cons (hs.ev rfl) .nil)))))) (ref08_Element p ho hlv sq.toNat m (by omega) _) rfl fun ac ww v25 hf hp hs=>?_
  obtain rfl:=hp
  replace hs:=hs [] (.nil _ _)
  refine s_alloc hs ty35 rfl fun ac ww g7 hs=>?_
  refine s_storeW (i:=0) hs ty35 rfl rfl rfl (by rw [List.length_map,el_length]) (all_map_B _) rfl fun ww hs=>?_
  refine s_end ?_
  replace hs:=hs.sub (F':=[(3,_),(4,_),(5,_),(6,_),(7,_)]) ⟨rfl,rfl,rfl,rfl,rfl,trivial⟩
  refine then_n (wp_seq ?_)
  refine wp_region_rgX (J:=[13,14]) pmix 16 (by kernel_rfl) (by kernel_rfl) rfl rfl hs ?_
  simp only [List.take_succ_cons,List.take_zero]
  refine rg_q (fun ac ww h=>c_loadW ty54 ag54 (h.ev rfl) (h.blk (hs.seg (i:=2) rfl)) (by rfl)) rfl ?_
  refine rg_call fu80 (fun ac ww h=>(.cons (h.ev rfl) .nil)) (fun ww hf=>ref09_Place p.d m sn p.ep sq ww) rfl ?_
  refine rg_q (fun ac ww h=>c_fld fl54_1 (h.ev rfl)) rfl ?_
  refine rg_q (fun ac ww h=>c_fld fl52_2 (h.ev rfl)) rfl ?_
  refine rg_q (fun ac ww h=>c_loadS un3 rfl (h.ev rfl) (h.blk (hs.seg (i:=2) rfl)) rfl) rfl ?_
  refine rg_q (fun ac ww h=>c_loadW ty35 rfl (h.ev rfl) (h.blk (hs.seg (i:=0) rfl)) (by rw [List.length_map,el_length])) rfl ?_
  refine rg_q (fun ac ww h=>c_fld fl23_0 (h.ev rfl)) rfl ?_
  refine rg_q (fun ac ww h=>c_loadS un3 rfl (h.ev rfl) (h.blk (hs.seg (i:=4) rfl)) rfl) rfl ?_
  refine rg_q (fun ac ww h=>c_fld fl54_2 (h.ev rfl)) rfl ?_
  refine rg_q (fun ac ww h=>c_loadS un3 rfl (h.ev rfl) (h.blk (hs.seg (i:=2) rfl)) rfl) rfl ?_
  refine rg_callE (tupG [.agg ((hLf p m sn sq).map B).toArray] [I (shE (m:Int) p.W sn)] (rowS' (shN (m:Int) p.W sn) (hWs p m sn sq))) (fun _ _ _ _ _ h=>h) fu79 (fun ac ww h=>?_) rfl ?_
  · exact ⟨_,.cons (h.ev rfl) (.cons (h.ev rfl) (.cons (h.ev rfl) (.cons (h.ev rfl) (.cons (h.ev rfl) (.nil))))),ref06_ShowA p.d p.ep sq (m:Int) (el p sq.toNat m) p.W sn (el_length _ _ _) _⟩
  refine rg_moveG rfl rfl rfl ?_
  refine rg_extGc rfl rfl rfl (fun _=>rfl) ?_
  refine rg_extGe rfl rfl rfl rfl ?_
  refine rg_extGc rfl rfl rfl (fun _=>rfl) ?_
  refine rg_alloc ty35 rfl ?_
  refine rg_nil fun ac ww L' hf hfe hs hlk=>?_
  simp only [List.drop_succ_cons,List.drop_zero]
  obtain ⟨v8,L8,M8,h8,e8,⟨v39,L39,M39,h39,e39,⟨v26,L26,M26,h26,e26,⟨v37,L37,M37,h37,e37,rfl,rfl⟩,rfl⟩,rfl⟩,rfl⟩:=hfe
  replace hs:=hs.add h8
  replace hs:=hs.add h39
  replace hs:=hs.add h26
  replace hs:=hs.add h37
  obtain ⟨g8,rfl,rfl⟩:=e8
  obtain ⟨tv37,rfl,e37⟩:=e37
  obtain ⟨-,rfl⟩:=e26
  obtain rfl:=lk_move (j:=11) hlk (by decide) rfl (by kernel_rfl) h26 h37
  obtain ⟨-,rfl⟩:=e39
  obtain rfl:=lk_ext (j:=13) hlk (by decide) rfl (by kernel_rfl) h39 h26 rfl
  obtain rfl:=e37
  refine sk_storeW (i:=0) hs ty35 rfl rfl rfl (by rw [List.length_map,hsl]) (all_map_B _) rfl (fun ww hs=>late_turn rfl rfl (late_turn rfl rfl (late_nil))) fun ww hs=>?_
  refine s_q hs (c_assign (hs.ev rfl)) rfl fun ac hs=>?_
  refine s_q hs (c_assign (hs.ev rfl)) rfl fun ac hs=>?_
  refine s_end ?_
  replace hs:=hs.sub (F':=[(3,_),(4,_),(5,_),(6,_),(8,_),(9,_)]) ⟨rfl,rfl,rfl,rfl,rfl,rfl,trivial⟩
  refine then_n (wp_seq ?_)
  obtain ⟨wad,wcap,rfl,hwc,hwm⟩:=Rd.sl (Rd.of_row (hs.get (i:=1) rfl))
  refine wp_region_rg pmix 14 (by kernel_rfl) rfl hs ?_
  simp only [List.take_succ_cons,List.take_zero]
  refine rg_q (fun ac ww h=>c_loadW ty35 rfl (h.ev rfl) (h.blk (hs.seg (i:=0) rfl)) (by rw [List.length_map,hsl])) rfl ?_
  refine rg_q (fun ac ww h=>c_move (h.ev rfl)) rfl ?_
  refine rg_q (fun ac ww h=>c_loadW ty23 ag23 (h.ev rfl) (h.blk (hs.seg (i:=6) rfl)) (by rfl)) rfl ?_
  refine rg_q (fun ac ww h=>c_loadW ty24 rfl (h.ev rfl) (h.blk (hs.seg (i:=5) rfl)) (by rw [List.length_map,ho.seed])) rfl ?_
  refine rg_q (fun ac ww h=>c_fld fl54_0 (h.ev rfl)) rfl ?_
  refine rg_q (fun ac ww h=>c_loadS un3 rfl (h.ev rfl) (h.blk (hs.seg (i:=4) rfl)) rfl) rfl ?_
  refine rg_q (fun ac ww h=>c_fld fl54_1 (h.ev rfl)) rfl ?_
  refine rg_q (fun ac ww h=>c_fld fl52_0 (h.ev rfl)) rfl ?_
  refine rg_q (fun ac ww h=>c_loadS un25 rfl (h.ev rfl) (h.blk (hs.seg (i:=4) rfl)) rfl) rfl ?_
  refine rg_q (fun ac ww h=>c_fld fl54_1 (h.ev rfl)) rfl ?_
  refine rg_q (fun ac ww h=>c_fld fl52_1 (h.ev rfl)) rfl ?_
  refine rg_q (fun ac ww h=>c_loadS un25 rfl (h.ev rfl) (h.blk (hs.seg (i:=4) rfl)) rfl) rfl ?_
  refine rg_q (fun ac ww h=>c_cvUI un25 un3 (h.ev rfl)) rfl ?_
  refine rg_callE (rowS' p.H (hPs p sq)) (fun _ _ _ _ _ h=>h) fu24 (fun ac ww h=>?_) rfl ?_
  · exact ⟨_,.cons (h.ev rfl) (.cons (h.ev rfl) (.cons (h.ev rfl) (.cons (h.ev rfl) (.cons (h.ev rfl) (.nil))))),ref08_Path p ho hlv sq.toNat hsqm _⟩
  refine rg_nil fun ac ww L' hf hfe hs=>?_
  simp only [List.drop_succ_cons,List.drop_zero]
  obtain ⟨v54,L54,M54,h54,e54,rfl,rfl⟩:=hfe
  replace hs:=hs.add h54
  obtain rfl:=e54
  obtain ⟨pad,pcap,rfl,hpc,hpm⟩:=Rd.sl (Rd.of_row (hs.get (i:=0) rfl))
  refine s_q hs (c_buildS (zc:=(hLf p m sn sq).map B++[.slice wad (shN (m:Int) p.W sn) wcap,.slice pad p.H pcap]) ty66 bp66 (.cons (hs.ev rfl) (.cons (hs.ev rfl) (.cons (hs.ev rfl) .nil))) ⟨(by simp [Value.cells,hsl]),(by simp [Value.cells,hsl]),(by simp [Value.cells,hsl]),trivial⟩ (by simp [flatCells,Value.cells,hsl]) (by simp [flatCells,Value.cells,hsl])) rfl fun ac hs=>?_
  refine s_storeW (i:=4) hs ty66 rfl rfl rfl (by simp [hsl]) (by simp [Value.oneCell',B]) rfl fun ww hs=>?_
  refine s_end ?_
  replace hs:=hs.sub (F':=[(6,_)]) ⟨rfl,trivial⟩
  refine then_n (wp_ret ?_)
  refine s_ret hs rfl (.cell (hs.tmp rfl) (run_loadA ty66 ag66 (hs.seg (i:=4) rfl) (List.take_of_length_le (by simp [hsl])) (by simp [hsl])) .nil) rfl ⟨_,rfl,hs.fr,?_⟩
  exact ⟨_,⟨_,_,rfl,rfl⟩,(hs.pick (L':=[_,_]) (.cons_cons _ (.cons _ (.cons_cons _ (List.nil_sublist _))))).made⟩
end Go.Proofs.YtklajbdbnnceiaaGreat
end

section
/- Whoever shows a claim shows what the spring issues,or two unlike texts have one short sum. -/
namespace Go.Proofs.YtklajbdbnnceiaaGreat
open Go Go.Fw
open Sha
section
variable {p:Spr} {m:Nat} {sn:Int} {sq:UInt32} {lf ws ps:List UInt8} {nw np:Nat}
def cl (p:Spr) (m:Nat) (sq:UInt32) (nx:List UInt8) (n:Nat):List UInt8:=climbN p.d p.ep sq nx ((m + 1:Nat):Int) p.W n
end
end Go.Proofs.YtklajbdbnnceiaaGreat
end

section
/- The law of quick checks. -/
namespace Go.Proofs.YtklajbdbnnceiaaGreat
open Go Go.Fw
open Sha
theorem keepS {w w':World} {p:Spr} {lk:Int} {K:Nat→Option Value} {t:Option Value} {b:Nat} {cs:Array Value} {T:TypeId} {fr:Nat × Nat} (hsp:SpAt w p lk K t) (hf:Fr (SpM p) w w') (hb:w.heap[b]?=some (.cells cs T fr)) (h1:Nat.beq 149 T=false:=by rfl) (h2:Nat.beq 203 T=false:=by rfl):w'.heap[b]?=some (.cells cs T fr) :=
  hf.keepT hb fun i hi=>hi.elim (fun e=>⟨_,_,_,e ▸ hsp.hg,h1⟩) fun e=>⟨_,_,_,e ▸ hsp.hc,h2⟩
theorem hPs_length {p:Spr} {m:Nat} {sn:Int} {sq:UInt32} (h:clRight p.W p.S p.H p.d m sn p.ep sq=true):(hPs p sq).length=p.H * 16:=gPath_length (ends_length p p.m) (seq_lt h) p.H (Nat.le_refl _)
end Go.Proofs.YtklajbdbnnceiaaGreat
end

section
/- A made spring stays. -/
namespace Go.Proofs.YtklajbdbnnceiaaGreat
open Go Go.Fw
open Sha
theorem row_kind {w:World} {v:Value} {n sz:Nat} {xs:List Value} {T:TypeId} (h:w.ownsRow 0 T sz v n xs) {k:Nat} (hk:v.ownBlock=some k):∃ cs fr,w.heap[k]?=some (.cells cs T fr):=by
  obtain ⟨h1,h2⟩:=h
  rcases h2 with ⟨rfl,_⟩ | ⟨g,cap,cur,rfl,hg,hb,_⟩
  · cases hk
  · simp only [Value.ownBlock,Option.some.injEq] at hk
    subst hk
    exact ⟨_,_,hb⟩
def otherK (T:TypeId):Bool:=!(Nat.beq T 149 || Nat.beq T 203 || Nat.beq T 36 || Nat.beq T 39 || Nat.beq T 211)
theorem other_ne {w:World} {b b':Nat} {cs cs':Array Value} {T T':TypeId} {fr fr':Nat × Nat} (h:w.heap[b]?=some (.cells cs T fr)) (h':w.heap[b']?=some (.cells cs' T' fr')) (hT:otherK T=true) (hT':otherK T'=false):b ≠ b':=fun e=>by
  subst e
  rw [h] at h'
  cases h'
  rw [hT] at hT'
  cases hT'
theorem grove_kind {w:World} {d:Int} {ep:UInt32} {g:Nat} {v:Value} {ps:List (Value × Nat × List UInt8)} (h:Has 0 w (groveL d ep g v ps)):∀ e∈groveL d ep g v ps,∀ k,e.keys k→∃ cs T fr,w.heap[k]?=some (.cells cs T fr)∧otherK T=false:=by
  intro e he k hk
  have hh:=h.holds e he
  simp only [groveL,List.mem_cons,List.not_mem_nil,or_false] at he
  rcases he with rfl | rfl
  · obtain ⟨e2,he2,hk2⟩:=hk
    have hh2:Has 0 w (textsL 39 (Ent.partS 36 16) v ps):=hh
    have h3:=hh2.holds e2 he2
    rcases List.mem_cons.1 he2 with rfl | h4
    · obtain ⟨cs,fr,h5⟩:=row_kind h3 hk2
      exact ⟨cs,_,fr,h5,rfl⟩
    · obtain ⟨q,_,rfl⟩:=List.mem_map.1 h4
      obtain ⟨cs,fr,h5⟩:=row_kind h3 hk2
      exact ⟨cs,_,fr,h5,rfl⟩
  · have hk:k=g:=hk
    subst hk
    exact ⟨_,_,_,hh,rfl⟩
theorem SpAt.other {w w':World} {p:Spr} {lk:Int} {K:Nat→Option Value} {t:Option Value} {M:Nat→Prop} (h:SpAt w p lk K t) (hf:Fr M w w') (hM:∀ k,M k→∃ cs T fr,w.heap[k]?=some (.cells cs T fr)∧otherK T=true):SpAt w' p lk K t:=by
  have nb:∀ {b:Nat} {cs:Array Value} {T:TypeId} {fr:Nat × Nat},w.heap[b]?=some (.cells cs T fr)→otherK T=false→¬ M b:=fun hb hT hm=>by
    obtain ⟨cs',T',fr',h1,h2⟩:=hM _ hm
    exact other_ne h1 hb h2 hT rfl
  refine ⟨(hf.block _ (heap_lt h.hg) (nb h.hg rfl)).trans h.hg,(hf.block _ (heap_lt h.hc) (nb h.hc rfl)).trans h.hc,fun q hq v hv=>(h.col q hq v hv).frk hf fun k hk=>?_,fun v hv=>⟨?_,(h.tree v hv).2⟩⟩
  · obtain ⟨b,cap,cur,rfl,h2,_⟩:=h.col q hq v hv
    simp only [Value.ownBlock,Option.some.injEq] at hk
    subst hk
    exact nb h2 rfl
  · obtain ⟨g,v',ps,h1,h2,h3,h4⟩:=(h.tree v hv).1
    exact ⟨g,v',ps,h1,h2,h3.same hf.size fun e he k hk=>by
      obtain ⟨cs,T,fr,h5,h6⟩:=grove_kind h3 e he k hk
      exact hf.block k (h3.lt e he k hk) (nb h5 h6),h4⟩
end Go.Proofs.YtklajbdbnnceiaaGreat
end

section
/- The law of what is made once. -/
namespace Go.Proofs.YtklajbdbnnceiaaGreat
open Go Go.Fw
open Sha
theorem SpAt.otherG {w w':World} {p:Spr} {lk:Int} {K:Nat→Option Value} {t:Option Value} {M:Nat→Prop} (h:SpAt w p lk K t) (hf:Fr M w w') (hM:∀ k,M k→∀ cs T fr,w.heap[k]?=some (.cells cs T fr)→otherK T=true):SpAt w' p lk K t:=by
  have nb:∀ {b:Nat} {cs:Array Value} {T:TypeId} {fr:Nat × Nat},w.heap[b]?=some (.cells cs T fr)→otherK T=false→¬ M b:=fun hb hT hm=>by
    rw [hM _ hm _ _ _ hb] at hT
    cases hT
  refine ⟨(hf.block _ (heap_lt h.hg) (nb h.hg rfl)).trans h.hg,(hf.block _ (heap_lt h.hc) (nb h.hc rfl)).trans h.hc,fun q hq v hv=>(h.col q hq v hv).frk hf fun k hk=>?_,fun v hv=>⟨?_,(h.tree v hv).2⟩⟩
  · obtain ⟨b,cap,cur,rfl,h2,_⟩:=h.col q hq v hv
    simp only [Value.ownBlock,Option.some.injEq] at hk
    subst hk
    exact nb h2 rfl
  · obtain ⟨g,v',ps,h1,h2,h3,h4⟩:=(h.tree v hv).1
    exact ⟨g,v',ps,h1,h2,h3.same hf.size fun e he k hk=>by
      obtain ⟨cs,T,fr,h5,h6⟩:=grove_kind h3 e he k hk
      exact hf.block k (h3.lt e he k hk) (nb h5 h6),h4⟩
end Go.Proofs.YtklajbdbnnceiaaGreat
end

section
/- The oracle's seeds; rows compared. -/
namespace Go.Proofs.YtklajbdbnnceiaaGreat
open Go Go.Fw
open Sha
def sdB (d:List UInt8) (k:Nat):List UInt8:=d.set 0 (i8 (k:Int))
theorem sdB_length {d:List UInt8} (h:d.length=32) (k:Nat):(sdB d k).length=32:=by simp [sdB,h]
def sdR (d:List UInt8):Nat→List UInt8
  | 0=>[]
  | n + 1=>sdR d n++sdB d n
theorem sdR_length {d:List UInt8} (h:d.length=32):∀ n,(sdR d n).length=n * 32
  | 0=>rfl
  | n + 1=>by rw [sdR,List.length_append,sdR_length h n,sdB_length h]; omega
def rowD (n:Nat) (ws:List UInt8):Value→List Ent→World→Prop:=fun v L _=>L=[.row v n (ws.map B) 24 32]
def rowD' (n:Nat) (ws:List UInt8):Value→List Ent→World→Prop:=fun v L _=>L=[.row v n (ws.map B) 129 32]
theorem set0 {dd:List UInt8} (h:dd.length=32) (y:UInt8):(dd.map B).take (0 + 0 * 1)++[B y]++(dd.map B).drop (0 + 0 * 1 + 1)=(dd.set 0 y).map B:=by
  cases dd with
  | nil=>simp at h
  | cons x xs=>rfl
theorem take32 {ws:List UInt8} {k:Nat}:ws.take (k * 32)++(ws.drop (k * 32)).take 32=ws.take ((k + 1) * 32):=by
  rw [Nat.succ_mul]
  exact List.take_add.symm
theorem Rd.bytes_at32 {w:World} {ad:Option Addr} {cap n:Nat} {ws:List UInt8} (h:Rd w (.slice ad n cap) n (ws.map B)) (hl:ws.length=n * 32) (hn:0 < n) :
    ∃ b o T fr all,ad=some ⟨b,o,none⟩∧w.heap[b]?=some (.cells all T fr)∧(all.toList.drop o).take (n * 32)=ws.map B:=by
  obtain ⟨b,o,cap',T,fr,all,e,_,_,hb,hc⟩:=Rd.at_ h (by intro e; have:=congrArg List.length e; rw [List.length_map] at this; simp only [List.length_nil] at this; omega)
  cases e
  rw [List.length_map,hl] at hc
  exact ⟨b,o,T,fr,all,rfl,hb,hc⟩
theorem piece32 {all:List Value} {o n k:Nat} {ws:List UInt8} (h:(all.drop o).take (n * 32)=ws.map B) (hl:ws.length=n * 32) (hk:k < n):(all.drop (o + k * 32)).take 32=((ws.drop (k * 32)).take 32).map B:=by
  have hle:=Nat.mul_le_mul_right 32 (show k + 1≤n from hk)
  rw [Nat.succ_mul] at hle
  have h2:(((all.drop o).take (n * 32)).drop (k * 32)).take 32=((ws.map B).drop (k * 32)).take 32:=by rw [h]
  rw [List.drop_take,List.take_take,Nat.min_eq_left (by omega),List.drop_drop] at h2
  rw [h2,List.map_take,List.map_drop]
theorem tr_made (n:Nat) (S H:Int) (d:List UInt8) (hd:d.length=32) (hn:n≤1000) (w:World) :Ctr Tryz.prog 49 [.agg #[I (n:Int),I S,I H],.agg (d.map B).toArray] w (fun _=>False) (outE (rowD n (sdR d n)) w):=by
  refine fn_start (N:=21) Tryz.func49 rfl rfl rfl fun ac hk=>?_
  have hs:=St.start hk w
  refine wp_seq (wp_reg ?_)
  refine s_box hs rfl rfl rfl fun ac ww g2 hs=>?_
  refine s_box hs rfl rfl rfl fun ac ww g3 hs=>?_
  refine s_q hs (c_assign (hs.ev rfl)) rfl fun ac hs=>?_
  refine s_end ?_
  replace hs:=hs.sub (F':=[(2,_),(3,_),(4,_)]) ⟨rfl,rfl,rfl,trivial⟩
  refine then_n (wp_seq (wp_reg ?_))
  refine s_q hs (c_assign (hs.ev rfl)) rfl fun ac hs=>?_
  refine s_end ?_
  replace hs:=hs.nilrow 24 32
  refine then_n (wp_seq (wp_seq (wp_reg ?_)))
  refine s_q hs (c_fld fl23_0 (hs.ev rfl)) rfl fun ac hs=>?_
  refine s_q hs (c_loadS un3 rfl (hs.ev rfl) (hs.seg (i:=2) rfl) rfl) rfl fun ac hs=>?_
  refine s_q hs (c_move (hs.ev rfl)) rfl fun ac hs=>?_
  refine s_end ?_
  replace hs:=hs.sub (F':=[(3,_),(4,_),(5,_),(8,_),(9,_)]) ⟨rfl,rfl,rfl,rfl,rfl,trivial⟩
  refine then_n (wp_block ?_)
  refine s_loop hs (X:=Nat × Value × List UInt8) (fun x=>[(5,x.2.1),(9,I x.1)]) [(3,_),(4,_),(8,_)] (fun x=>[.row x.2.1 x.1 ((sdR d x.1).map B) 24 32,.seg g3 (x.2.2.map B) 24,.seg g2 [I (n:Int),I S,I H] 23]) (fun m x=>x.1≤n∧m=n - x.1∧x.2.2.length=32∧∀ y,x.2.2.set 0 y=d.set 0 y) (_) ((0,_,d)) (⟨Nat.zero_le _,rfl,hd,fun _=>rfl⟩) ⟨rfl,rfl,rfl,rfl,rfl,trivial⟩ rfl ?_
  rintro n ⟨k,v,dd⟩ ac ww hok hs
  simp only [List.cons_append,List.nil_append] at hs
  obtain ⟨hk,rfl,hdl,hdd⟩:=hok
  simp only at hk hdl hdd hs
  refine wp_seq (wp_reg ?_)
  refine s_q hs (c_lssI (hs.ev rfl) (hs.ev rfl)) rfl fun ac hs=>?_
  refine s_end (then_n (wp_seq ?_))
  refine s_cond hs rfl (fun hc=>?_) (fun hc=>?_)
  · try simp only [decide_eq_true_eq,decide_eq_false_iff_not,Bool.not_eq_true',Bool.not_eq_false',Bool.and_eq_true,Bool.or_eq_true,Bool.or_eq_false_iff] at hc
    have hkn:k < n:=by omega
    refine wp_skip (then_n (wp_seq (wp_block (wp_seq (wp_reg ?_)))))
    refine s_q hs (c_move (hs.ev rfl)) rfl fun ac hs=>?_
    refine s_q hs (c_assign (hs.ev rfl)) rfl fun ac hs=>?_
    refine s_end (then_n (wp_seq (wp_reg ?_)))
    refine s_q hs (c_move (hs.ev rfl)) rfl fun ac hs=>?_
    refine s_q hs (c_cvIB un3 un5 (hs.ev rfl)) rfl fun ac hs=>?_
    refine s_q hs (c_idxA un24 ty5 (hs.ev rfl) (hs.ev rfl) rfl (by decide)) rfl fun ac hs=>?_
    refine s_store (i:=1) hs ty5 rfl rfl rfl rfl rfl rfl (by simp [hdl]) (set0 hdl _) fun ww hs=>?_
    rw [hdd] at hs
    replace hs:=hs.toL (L':=[_,.seg g3 ((sdB d k).map B) 24,_]) rfl
    refine s_end (then_n (wp_reg ?_))
    refine s_q hs (c_move (hs.ev rfl)) rfl fun ac hs=>?_
    refine s_q hs (c_loadW ty24 rfl (hs.ev rfl) (hs.seg (i:=1) rfl) (by rw [List.length_map,sdB_length hd])) rfl fun ac hs=>?_
    refine s_bslice hs un100 ty24 (.cons (hs.ev rfl) .nil) rfl (by intro v hv; simp only [List.mem_singleton] at hv; subst hv; simp [Value.cells,sdB_length hd]) (by decide) (show _=(sdB d k).map B by simp [flatCells,Value.cells]) rfl fun ac ww g17 hs=>?_
    refine s_append (i:=1) hs un100 ty24 (by decide) rfl rfl rfl (Rd.of_seg (n:=1) (hs.seg (i:=0) rfl) (Nat.le_refl _) (by decide) (List.take_of_length_le (by simp))) (by rw [List.length_map,sdB_length hd]) (all_map_B _) (by unfold maxLen; omega) (by omega) rfl fun ac ww v18 hf hnil hs=>?_
    refine s_q hs (c_assign (hs.ev rfl)) rfl fun ac hs=>?_
    refine s_end (blk_n (then_n (wp_reg ?_)))
    refine s_q hs (c_addI (hs.ev rfl) (hs.ev rfl) (by omega) (by omega)) rfl fun ac hs=>?_
    refine s_q hs (c_move (hs.ev rfl)) rfl fun ac hs=>?_
    refine s_end (then_n ?_)
    replace hs:=hs.pick (L':=[_,_,_]) (.cons _ (.refl _))
    exact ⟨n - (k + 1),by (try simp only); omega,(k + 1,_,sdB d k),⟨by (try simp only); omega,rfl,sdB_length hd k,fun y=>by simp [sdB,List.set_set]⟩,St.next hs ⟨rfl,rfl,rfl,rfl,rfl,trivial⟩ (by rw [show sdR d (k + 1)=sdR d k++sdB d k from rfl,List.map_append])⟩
  · try simp only [decide_eq_true_eq,decide_eq_false_iff_not,Bool.not_eq_true',Bool.not_eq_false',Bool.and_eq_true,Bool.or_eq_true,Bool.or_eq_false_iff] at hc
    obtain rfl:n=k:=by omega
    refine wp_exit (then_e (then_e (blk_hit (then_n (wp_seq (wp_reg ?_))))))
    refine s_q hs (c_move (hs.ev rfl)) rfl fun ac hs=>?_
    refine s_q hs (c_assign (hs.ev rfl)) rfl fun ac hs=>?_
    refine s_end ?_
    replace hs:=hs.sub (F':=[(4,_)]) ⟨rfl,trivial⟩
    refine then_n (wp_ret ?_)
    refine s_ret hs rfl (.tmp (hs.tmp rfl) .nil) rfl ⟨_,rfl,hs.fr,?_⟩
    exact ⟨_,rfl,(hs.pick (L':=[_]) (.cons_cons _ (List.nil_sublist _))).made⟩
theorem tr_digests (n:Nat) (ws:List UInt8) (wv:Value) (hwl:ws.length=n * 32) (hn:n≤1000) (w:World) (hq:Rd w wv n (ws.map B)):Ctr Tryz.prog 51 [wv] w (fun _=>False) (outE (rowD' n ws) w):=by
  obtain ⟨wad,wcap,rfl,hwc,hwm⟩:=Rd.sl hq
  refine fn_start (N:=18) Tryz.func51 rfl rfl rfl fun ac hk=>?_
  have hs:=St.start hk w
  refine wp_seq (wp_reg ?_)
  refine s_q hs (c_assign (hs.ev rfl)) rfl fun ac hs=>?_
  refine s_end (then_n (wp_seq (wp_reg ?_)))
  refine s_q hs (c_assign (hs.ev rfl)) rfl fun ac hs=>?_
  refine s_end ?_
  replace hs:=hs.nilrow 129 32
  refine then_n (wp_seq (wp_seq (wp_reg ?_)))
  refine s_q hs (c_move (hs.ev rfl)) rfl fun ac hs=>?_
  refine s_q hs (c_lenS un100 (hs.ev rfl)) rfl fun ac hs=>?_
  refine s_q hs (c_move (hs.ev rfl)) rfl fun ac hs=>?_
  refine s_end ?_
  replace hs:=hs.sub (F':=[(2,_),(3,_),(6,_),(7,_),(8,_)]) ⟨rfl,rfl,rfl,rfl,rfl,trivial⟩
  refine then_n (wp_block ?_)
  refine s_loop hs (X:=Nat × Value) (fun x=>[(3,x.2),(8,I x.1)]) [(2,_),(6,_),(7,_)] (fun x=>[.row x.2 x.1 ((ws.take (x.1 * 32)).map B) 129 32]) (fun m x=>x.1≤n∧m=n - x.1) (_) ((0,_)) (⟨Nat.zero_le _,rfl⟩) ⟨rfl,rfl,rfl,rfl,rfl,trivial⟩ (by rw [Nat.zero_mul,List.take_zero]; rfl) ?_
  rintro n ⟨k,v⟩ ac ww hok hs
  simp only [List.cons_append,List.nil_append] at hs
  obtain ⟨hk,rfl⟩:=hok
  simp only at hk hs
  refine wp_seq (wp_reg ?_)
  refine s_q hs (c_lssI (hs.ev rfl) (hs.ev rfl)) rfl fun ac hs=>?_
  refine s_end (then_n (wp_seq ?_))
  refine s_cond hs rfl (fun hc=>?_) (fun hc=>?_)
  · try simp only [decide_eq_true_eq,decide_eq_false_iff_not,Bool.not_eq_true',Bool.not_eq_false',Bool.and_eq_true,Bool.or_eq_true,Bool.or_eq_false_iff] at hc
    have hkn:k < n:=by omega
    have hle:=Nat.mul_le_mul_right 32 (show k + 1≤n from hkn)
    rw [Nat.succ_mul] at hle
    have hcl:((ws.drop (k * 32)).take 32).length=32:=by rw [List.length_take,List.length_drop]; omega
    obtain ⟨pb,po,pT,pf,pall,rfl,hpb,hps⟩:=Rd.bytes_at32 hq hwl (by omega)
    refine wp_skip (then_n (wp_seq (wp_block (wp_seq (wp_reg ?_)))))
    refine s_q hs (c_idxS (j:=k) un100 ty24 (hs.ev rfl) (hs.ev rfl) (by omega) (by omega)) rfl fun ac hs=>?_
    refine s_q hs (c_loadA ty24 rfl (hs.ev rfl) (hs.old hpb id) (piece32 hps hwl hkn) (by rw [List.length_map,hcl])) rfl fun ac hs=>?_
    refine s_alloc hs ty24 rfl fun ac ww g5 hs=>?_
    refine s_storeW (i:=0) hs ty24 rfl rfl rfl (by rw [List.length_map,hcl]) (all_map_B _) rfl fun ww hs=>?_
    refine s_end (then_n (wp_reg ?_))
    refine s_q hs (c_move (hs.ev rfl)) rfl fun ac hs=>?_
    refine s_q hs (c_loadW ty24 rfl (hs.ev rfl) (hs.seg (i:=0) rfl) (by rw [List.length_map,hcl])) rfl fun ac hs=>?_
    refine s_bslice hs un105 ty129 (.cons (hs.ev rfl) .nil) rfl (by intro v hv; simp only [List.mem_singleton] at hv; subst hv; simp [Value.cells]; omega) (by decide) (show _=((ws.drop (k * 32)).take 32).map B by simp [flatCells,Value.cells]) rfl fun ac ww g14 hs=>?_
    refine s_append (i:=2) hs un105 ty129 (by decide) rfl rfl rfl (Rd.of_seg (n:=1) (hs.seg (i:=0) rfl) (Nat.le_refl _) (by decide) (List.take_of_length_le (by simp))) (by rw [List.length_map,hcl]) (all_map_B _) (by unfold maxLen; omega) (by omega) rfl fun ac ww v15 hf hnil hs=>?_
    refine s_q hs (c_assign (hs.ev rfl)) rfl fun ac hs=>?_
    refine s_end (blk_n (then_n (wp_reg ?_)))
    refine s_q hs (c_addI (hs.ev rfl) (hs.ev rfl) (by omega) (by omega)) rfl fun ac hs=>?_
    refine s_q hs (c_move (hs.ev rfl)) rfl fun ac hs=>?_
    refine s_end (then_n ?_)
    replace hs:=hs.pick (L':=[_]) (.cons _ (.cons _ (.refl _)))
    exact ⟨n - (k + 1),by (try simp only); omega,(k + 1,_),⟨by (try simp only); omega,rfl⟩,St.next hs ⟨rfl,rfl,rfl,rfl,rfl,trivial⟩ (by rw [← take32,List.map_append]; try rfl)⟩
  · try simp only [decide_eq_true_eq,decide_eq_false_iff_not,Bool.not_eq_true',Bool.not_eq_false',Bool.and_eq_true,Bool.or_eq_true,Bool.or_eq_false_iff] at hc
    obtain rfl:n=k:=by omega
    rw [List.take_of_length_le (by omega)] at hs
    refine wp_exit (then_e (then_e (blk_hit (then_n (wp_seq (wp_reg ?_))))))
    refine s_q hs (c_move (hs.ev rfl)) rfl fun ac hs=>?_
    refine s_q hs (c_assign (hs.ev rfl)) rfl fun ac hs=>?_
    refine s_end ?_
    replace hs:=hs.sub (F':=[(2,_)]) ⟨rfl,trivial⟩
    refine then_n (wp_ret ?_)
    refine s_ret hs rfl (.tmp (hs.tmp rfl) .nil) rfl ⟨_,rfl,hs.fr,?_⟩
    exact ⟨_,rfl,hs.made⟩
theorem tr_EqualFunc (n m:Nat) (xs ys:List UInt8) (xv yv:Value) (hxl:xs.length=n * 16) (hyl:ys.length=m * 16) (w:World) (hqx:Rd w xv n (xs.map B)) (hqy:Rd w yv m (ys.map B)):Ctr Tryz.prog 127 [xv,yv,.func (.func 93) #[] #[]] w (fun _=>False) (fun v _=>v=.bool (decide (xs=ys))):=by
  have hnl:=hqx.le
  have hml:=hqy.le
  obtain ⟨xad,xcap,rfl,hxc,hxm⟩:=Rd.sl hqx
  obtain ⟨yad,ycap,rfl,hyc,hym⟩:=Rd.sl hqy
  refine fn_start (N:=32) Tryz.func127 rfl rfl rfl fun ac hk=>?_
  have hs:=St.start hk w
  refine wp_seq (wp_reg ?_)
  refine s_q hs (c_assign (hs.ev rfl)) rfl fun ac hs=>?_
  refine s_end (then_n (wp_seq (wp_seq (wp_reg ?_))))
  refine s_q hs (c_move (hs.ev rfl)) rfl fun ac hs=>?_
  refine s_q hs (c_lenS un39 (hs.ev rfl)) rfl fun ac hs=>?_
  refine s_q hs (c_move (hs.ev rfl)) rfl fun ac hs=>?_
  refine s_q hs (c_lenS un39 (hs.ev rfl)) rfl fun ac hs=>?_
  refine s_q hs (c_neqI (hs.ev rfl) (hs.ev rfl)) rfl fun ac hs=>?_
  refine s_end ?_
  replace hs:=hs.sub (F':=[(0,_),(1,_),(2,_),(6,_),(14,_)]) ⟨rfl,rfl,rfl,rfl,rfl,trivial⟩
  refine then_n ?_
  refine s_cond hs rfl (fun hc=>?_) (fun hc=>?_)
  · try simp only [decide_eq_true_eq,decide_eq_false_iff_not,Bool.not_eq_true',Bool.not_eq_false',Bool.and_eq_true,Bool.or_eq_true,Bool.or_eq_false_iff] at hc
    have hne:xs ≠ ys:=fun e=>hc (by rw [e,hyl] at hxl; omega)
    refine wp_seq (wp_reg ?_)
    refine s_q hs (c_assign (hs.ev rfl)) rfl fun ac hs=>?_
    refine s_end ?_
    replace hs:=hs.sub (F':=[(0,_),(1,_),(2,_),(6,_)]) ⟨rfl,rfl,rfl,rfl,trivial⟩
    refine then_n (wp_ret (then_r ?_))
    refine s_ret hs rfl (.tmp (hs.tmp rfl) .nil) rfl ⟨_,rfl,hs.fr,?_⟩
    show Value.bool false=_
    rw [decide_eq_false hne]
  · try simp only [decide_eq_true_eq,decide_eq_false_iff_not,Bool.not_eq_true',Bool.not_eq_false',Bool.and_eq_true,Bool.or_eq_true,Bool.or_eq_false_iff] at hc
    obtain rfl:n=m:=by omega
    refine wp_skip (then_n (wp_seq (wp_seq (wp_reg ?_))))
    refine s_q hs (c_move (hs.ev rfl)) rfl fun ac hs=>?_
    refine s_q hs (c_lenS un39 (hs.ev rfl)) rfl fun ac hs=>?_
    refine s_q hs (c_move (hs.ev rfl)) rfl fun ac hs=>?_
    refine s_end ?_
    replace hs:=hs.sub (F':=[(1,_),(2,_),(6,_),(15,_),(16,_),(17,_)]) ⟨rfl,rfl,rfl,rfl,rfl,rfl,trivial⟩
    refine then_n (wp_block ?_)
    refine s_loop hs (X:=Nat) (fun k=>[(17,I k)]) [(1,_),(2,_),(15,_),(16,_)] (fun _=>[]) (fun j k=>k≤n∧j=n - k∧∀ i,i < k→chunk xs i=chunk ys i) (_) (0) (⟨Nat.zero_le _,rfl,fun _ h=>absurd h (by omega)⟩) ⟨rfl,rfl,rfl,rfl,rfl,trivial⟩ rfl ?_
    rintro n k ac ww hok hs
    simp only [List.cons_append,List.nil_append] at hs
    obtain ⟨hk,rfl,heq⟩:=hok
    refine wp_seq (wp_reg ?_)
    refine s_q hs (c_lssI (hs.ev rfl) (hs.ev rfl)) rfl fun ac hs=>?_
    refine s_end (then_n (wp_seq ?_))
    refine s_cond hs rfl (fun hc=>?_) (fun hc=>?_)
    · try simp only [decide_eq_true_eq,decide_eq_false_iff_not,Bool.not_eq_true',Bool.not_eq_false',Bool.and_eq_true,Bool.or_eq_true,Bool.or_eq_false_iff] at hc
      have hkn:k < n:=by omega
      obtain ⟨pb,po,pT,pf,pall,rfl,hpb,hps⟩:=Rd.bytes_at hqx hxl (by omega)
      obtain ⟨qb,qo,qT,qf,qall,rfl,hqb,hqs⟩:=Rd.bytes_at hqy hyl (by omega)
      have hc1:=chunk_l hxl hkn
      have hc2:=chunk_l hyl hkn
      refine wp_skip (then_n (wp_seq (wp_block (wp_seq (wp_reg ?_)))))
      refine s_q hs (c_move (hs.ev rfl)) rfl fun ac hs=>?_
      refine s_q hs (c_idxS (j:=k) un39 ty36 (hs.ev rfl) (hs.ev rfl) (by omega) (by omega)) rfl fun ac hs=>?_
      refine s_q hs (c_loadA ty36 rfl (hs.ev rfl) (hs.old hpb id) (rdpiece hps hxl hkn) (by rw [List.length_map,hc1])) rfl fun ac hs=>?_
      refine s_alloc hs ty36 rfl fun ac ww g8 hs=>?_
      refine s_q hs (c_assign (hs.ev rfl)) rfl fun ac hs=>?_
      refine s_storeW (i:=0) hs ty36 rfl rfl rfl (by rw [List.length_map,hc1]) (all_map_B _) rfl fun ww hs=>?_
      refine s_end (then_n (wp_seq (wp_reg ?_)))
      refine s_q hs (c_move (hs.ev rfl)) rfl fun ac hs=>?_
      refine s_q hs (c_move (hs.ev rfl)) rfl fun ac hs=>?_
      refine s_q hs (c_idxS (j:=k) un39 ty36 (hs.ev rfl) (hs.ev rfl) (by omega) (by omega)) rfl fun ac hs=>?_
      refine s_q hs (c_loadA ty36 rfl (hs.ev rfl) (hs.old hqb id) (rdpiece hqs hyl hkn) (by rw [List.length_map,hc2])) rfl fun ac hs=>?_
      refine s_alloc hs ty36 rfl fun ac ww g9 hs=>?_
      refine s_storeW (i:=0) hs ty36 rfl rfl rfl (by rw [List.length_map,hc2]) (all_map_B _) rfl fun ww hs=>?_
      refine s_end (then_n (wp_seq (wp_reg ?_)))
      refine s_q hs (c_move (hs.ev rfl)) rfl fun ac hs=>?_
      refine s_q hs (c_loadW ty36 rfl (hs.ev rfl) (hs.seg (i:=1) rfl) (by rw [List.length_map,hc1])) rfl fun ac hs=>?_
      refine s_q hs (c_loadW ty36 rfl (hs.ev rfl) (hs.seg (i:=0) rfl) (by rw [List.length_map,hc2])) rfl fun ac hs=>?_
      refine s_callV hs fu93 rfl (.cons (hs.ev rfl) (.cons (hs.ev rfl) .nil)) (mac_Same (chunk xs k) (chunk ys k) hc1 hc2 _) rfl fun ac ww v29 hf hp hs=>?_
      obtain rfl:=hp
      replace hs:=hs [] (.nil _ _)
      refine s_q hs (c_not (hs.ev rfl)) rfl fun ac hs=>?_
      refine s_end (then_n ?_)
      refine s_cond hs rfl (fun hc=>?_) (fun hc=>?_)
      · try simp only [decide_eq_true_eq,decide_eq_false_iff_not,Bool.not_eq_true',Bool.not_eq_false',Bool.and_eq_true,Bool.or_eq_true,Bool.or_eq_false_iff] at hc
        have hdf:¬ chunk xs k=chunk ys k:=by simpa using hc
        refine wp_seq (wp_reg ?_)
        refine s_q hs (c_assign (hs.ev rfl)) rfl fun ac hs=>?_
        refine s_end (then_n (wp_ret (blk_r (then_r (then_r (blk_r (then_r ?_)))))))
        refine s_ret hs rfl (.tmp (hs.tmp rfl) .nil) rfl ⟨_,rfl,hs.fr,?_⟩
        show Value.bool false=_
        rw [decide_eq_false fun e=>hdf (by rw [e])]
      · try simp only [decide_eq_true_eq,decide_eq_false_iff_not,Bool.not_eq_true',Bool.not_eq_false',Bool.and_eq_true,Bool.or_eq_true,Bool.or_eq_false_iff] at hc
        have hsm:chunk xs k=chunk ys k:=by simpa using hc
        refine wp_skip (blk_n (then_n (wp_reg ?_)))
        refine s_q hs (c_addI (hs.ev rfl) (hs.ev rfl) (by omega) (by omega)) rfl fun ac hs=>?_
        refine s_q hs (c_move (hs.ev rfl)) rfl fun ac hs=>?_
        refine s_end (then_n ?_)
        replace hs:=hs.pick (L':=[]) (List.nil_sublist _)
        exact ⟨n - (k + 1),by omega,k + 1,⟨by omega,rfl,fun i hi=>by
            by_cases e:i=k
            · subst e; exact hsm
            · exact heq i (by omega)⟩,St.next hs ⟨rfl,rfl,rfl,rfl,rfl,trivial⟩ rfl⟩
    · try simp only [decide_eq_true_eq,decide_eq_false_iff_not,Bool.not_eq_true',Bool.not_eq_false',Bool.and_eq_true,Bool.or_eq_true,Bool.or_eq_false_iff] at hc
      obtain rfl:n=k:=by omega
      refine wp_exit (then_e (then_e (blk_hit (then_n (wp_seq (wp_reg ?_))))))
      refine s_q hs (c_assign (hs.ev rfl)) rfl fun ac hs=>?_
      refine s_end ?_
      replace hs:=hs.sub (F':=[(6,_)]) ⟨rfl,trivial⟩
      refine then_n (wp_ret ?_)
      refine s_ret hs rfl (.tmp (hs.tmp rfl) .nil) rfl ⟨_,rfl,hs.fr,?_⟩
      show Value.bool true=_
      rw [decide_eq_true (sums_same hxl hyl heq)]
theorem tr_sums (n m:Nat) (xs ys:List UInt8) (xv yv:Value) (hxl:xs.length=n * 16) (hyl:ys.length=m * 16) (w:World) (hqx:Rd w xv n (xs.map B)) (hqy:Rd w yv m (ys.map B)):Ctr Tryz.prog 98 [xv,yv] w (fun _=>False) (fun v _=>v=.bool (decide (xs=ys))):=by
  refine fn_start (N:=8) Tryz.func98 rfl rfl rfl fun ac hk=>?_
  have hs:=St.start hk w
  refine wp_seq (wp_reg ?_)
  refine s_q hs (c_assign (hs.ev rfl)) rfl fun ac hs=>?_
  refine s_end (then_n (wp_seq (wp_reg ?_)))
  refine s_q hs (c_move (hs.ev rfl)) rfl fun ac hs=>?_
  refine s_q hs (c_move (hs.ev rfl)) rfl fun ac hs=>?_
  refine s_call hs fu127 (.cons (hs.ev rfl) (.cons (hs.ev rfl) (.cons (hs.ev rfl) .nil))) (tr_EqualFunc n m xs ys xv yv hxl hyl _ (hqx.fr0 hs.fr) (hqy.fr0 hs.fr)) rfl fun ac ww v7 hf hp hs=>?_
  obtain rfl:=hp
  replace hs:=hs [] (.nil _ _)
  refine s_q hs (c_assign (hs.ev rfl)) rfl fun ac hs=>?_
  refine s_end ?_
  replace hs:=hs.sub (F':=[(4,_)]) ⟨rfl,trivial⟩
  refine then_n (wp_ret ?_)
  refine s_ret hs rfl (.tmp (hs.tmp rfl) .nil) rfl ⟨_,rfl,hs.fr,?_⟩
  rfl
end Go.Proofs.YtklajbdbnnceiaaGreat
end

section
/- The oracle. -/
namespace Go.Proofs.YtklajbdbnnceiaaGreat
open Go Go.Fw
open Sha
def RdT (w:World) (v:Value) (n sz:Nat) (l:List Value) (T:TypeId):Prop :=
  l.length=n * sz∧∃ b cap cur,v=.slice (some ⟨b,0,none⟩) n cap∧w.heap[b]?=some (.cells cur T (0,0))∧n≤cap∧cap≤maxLen∧cur.size=cap * sz∧cur.toList.take (n * sz)=l
theorem RdT.row {w:World} {v:Value} {n sz:Nat} {l:List Value} {T:TypeId} (h:w.ownsRow 0 T sz v n l) (hn:0 < n):RdT w v n sz l T:=by
  obtain ⟨h1,⟨_,h2⟩ | ⟨g,cap,cur,h2,_,h3,h4,h5,h6,h7⟩⟩:=h
  · omega
  · exact ⟨h1,g,cap,cur,h2,h3,h4,h5,h6,h7⟩
theorem RdT.own {w:World} {v:Value} {n sz:Nat} {l:List Value} {T:TypeId} (h:RdT w v n sz l T):w.ownsRow 0 T sz v n l:=by
  obtain ⟨h1,g,cap,cur,h2,h3,h4,h5,h6,h7⟩:=h
  exact ⟨h1,.inr ⟨g,cap,cur,h2,Nat.zero_le _,h3,h4,h5,h6,h7⟩⟩
theorem RdT.rd {w:World} {v:Value} {n sz:Nat} {l:List Value} {T:TypeId} (h:RdT w v n sz l T):Rd w v n l:=Rd.of_row h.own
theorem RdT.frM {w w':World} {v:Value} {n sz:Nat} {l:List Value} {T:TypeId} {M:Nat→Prop} (h:RdT w v n sz l T) (hf:Fr M w w') (hM:∀ k,M k→∀ cs fr,w.heap[k]? ≠ some (Obj.cells cs T fr)):RdT w' v n sz l T:=by
  obtain ⟨h1,g,cap,cur,h2,h3,h4,h5,h6,h7⟩:=h
  exact ⟨h1,g,cap,cur,h2,(hf.block g (heap_lt h3) fun hm=>hM g hm _ _ h3).trans h3,h4,h5,h6,h7⟩
theorem RdT.fr0 {w w':World} {v:Value} {n sz:Nat} {l:List Value} {T:TypeId} (h:RdT w v n sz l T) (hf:Fr0 w w'):RdT w' v n sz l T:=h.frM hf fun _ hm=>hm.elim
structure Orc where
  g:Nat
  mb:Nat
  n:Nat
  dv:Value
  W:Int
  S:Int
  H:Int
  sd:List UInt8
structure Orc.Ok (o:Orc):Prop where
  hn:(o.n:Int)=o.W
  right:spRight o.W o.S o.H=true
  sd:o.sd.length=o.n * 32
def Orc.seed (o:Orc) (d:Int):List UInt8:=(o.sd.drop (d.toNat * 32)).take 32
open Classical in
noncomputable def mapO (s:Option Spr):Lit→Option Value:=fun q=>match s with
  | none=>none
  | some p=>if keyOf Tryz.prog 230 (.agg #[I p.d,U p.ep])=some q then some (.pointer (some ⟨p.g,0,none⟩)) else none
theorem mapO_put {p:Spr} {q:Lit} (h:keyOf Tryz.prog 230 (.agg #[I p.d,U p.ep])=some q):putL (mapO none) q (.pointer (some ⟨p.g,0,none⟩))=mapO (some p):=by
  funext x
  by_cases e:x=q
  · subst e
    rw [putL_same]
    simp [mapO,h]
  · rw [putL_other e]
    have:¬ q=x:=fun e2=>e e2.symm
    simp [mapO,h,this]
theorem mapO_get {p:Spr} {q:Lit} (h:keyOf Tryz.prog 230 (.agg #[I p.d,U p.ep])=some q):mapO (some p) q=some (.pointer (some ⟨p.g,0,none⟩)):=by simp [mapO,h]
theorem at_keyed:Maps.Keyed Tryz.prog 230:=iu_keyed (by kernel_rfl) Tryz.underlying230 (by decide +kernel) (by kernel_rfl)
theorem at_key {d:Int} (h:-9223372036854775808≤d∧d≤9223372036854775807) (ep:UInt32):∃ q,keyOf Tryz.prog 230 (.agg #[I d,U ep])=some q :=
  iu_key Tryz.underlying230 (by kernel_rfl) (by kernel_rfl) Tryz.underlying3 Tryz.underlying25 rfl rfl (by kernel_rfl) (by kernel_rfl) (by kernel_rfl) ⟨_,rfl⟩ h ep
def nbO:Option Spr→Nat
  | none=>0
  | some _=>1
structure OrAt (w:World) (o:Orc) (s:Option Spr):Prop where
  ok:o.Ok
  hg:w.heap[o.g]?=some (.cells #[I o.W,I o.S,I o.H,o.dv,.map (some o.mb)] 191 (0,0))
  rd:RdT w o.dv o.n 32 (o.sd.map B) 129
  mp:MapV Tryz.prog 230 o.mb (nbO s) (mapO s) w
  sp:∀ p,s=some p→SpIs p o.W o.S o.H (o.seed p.d) p.d p.ep∧spFits o.W o.S o.H p.d p.ep=true∧SpSome w p
theorem OrAt.fr0 {w w':World} {o:Orc} {s:Option Spr} (h:OrAt w o s) (hf:Fr0 w w'):OrAt w' o s:=by
  obtain ⟨es,cl,hb⟩:=h.mp.blk
  exact ⟨h.ok,(hf.block _ (heap_lt h.hg) id).trans h.hg,h.rd.fr0 hf,h.mp.loc (hf.block _ (heap_lt hb) id),fun p hp=>⟨(h.sp p hp).1,(h.sp p hp).2.1,(h.sp p hp).2.2.fr0 hf⟩⟩
theorem OrAt.mapBlk {w:World} {o:Orc} {s:Option Spr} (h:OrAt w o s):∀ k,k=o.mb→∀ cs T fr,w.heap[k]? ≠ some (Obj.cells cs T fr):=by
  rintro k rfl cs T fr hb
  obtain ⟨es,cl,h2⟩:=h.mp.blk
  rw [hb] at h2
  cases h2
theorem spBlk {w:World} {p:Spr} (h:SpSome w p) {k:Nat} (hk:SpM p k):∃ cs T fr,w.heap[k]?=some (.cells cs T fr)∧(Nat.beq 149 T || Nat.beq 203 T)=true:=by
  obtain ⟨K,t,h⟩:=h
  rcases hk with rfl | rfl
  · exact ⟨_,_,_,h.hg,rfl⟩
  · exact ⟨_,_,_,h.hc,rfl⟩
theorem OrAt.spring {w w':World} {o:Orc} {p:Spr} (h:OrAt w o (some p)) (hf:Fr (SpM p) w w') (hs:SpSome w' p):OrAt w' o (some p):=by
  have hp:=h.sp p rfl
  have keep:∀ {k:Nat} {x:Obj},w.heap[k]?=some x→(∀ cs T fr,x=.cells cs T fr→(Nat.beq 149 T || Nat.beq 203 T)=false)→w'.heap[k]?=some x:=fun {k x} hk hx=>by
    refine (hf.block k (heap_lt hk) fun hm=>?_).trans hk
    obtain ⟨cs,T,fr,h1,h2⟩:=spBlk hp.2.2 hm
    rw [hk] at h1
    rw [hx cs T fr (Option.some.inj h1)] at h2
    cases h2
  obtain ⟨es,cl,hb⟩:=h.mp.blk
  obtain ⟨r1,b,cap,cur,r2,r3,r4⟩:=h.rd
  refine ⟨h.ok,keep h.hg (fun cs T fr e=>by cases e; rfl),⟨r1,b,cap,cur,r2,keep r3 (fun cs T fr e=>by cases e; rfl),r4⟩,h.mp.loc ((keep hb fun cs T fr e=>by cases e).trans hb.symm),fun q hq=>?_⟩
  cases hq
  exact ⟨hp.1,hp.2.1,hs⟩
abbrev OrM (o:Orc) (s:Option Spr):Nat→Prop:=fun k=>k=o.mb∨∃ p,s=some p∧SpM p k
theorem SpSome.frB {w w':World} {p:Spr} {M:Nat→Prop} (h:SpSome w p) (hf:Fr M w w') (hM:∀ k,M k→∀ cs T fr,w.heap[k]? ≠ some (Obj.cells cs T fr)):SpSome w' p:=by
  obtain ⟨K,t,h⟩:=h
  exact ⟨K,t,h.otherG hf fun k hk cs T fr hb=>absurd hb (hM k hk cs T fr)⟩
def SpB (w:World) (p:Spr) (Bd:Nat→Prop):Prop:=∃ K t,SpAt w p 0 K t∧SpFr w p K t Bd
theorem SpSome.b {w:World} {p:Spr} (h:SpSome w p):SpB w p (w.heap.size≤·):=by
  obtain ⟨K,t,h⟩:=h
  exact ⟨K,t,h,h.free⟩
theorem SpB.one {w:World} {p:Spr} {Bd:Nat→Prop} (h:SpB w p Bd):SpSome w p:=by
  obtain ⟨K,t,h,_⟩:=h
  exact ⟨K,t,h⟩
theorem SpB.mono {w:World} {p:Spr} {Bd Bd':Nat→Prop} (h:SpB w p Bd) (hm:∀ k,Bd' k→Bd k):SpB w p Bd':=by
  obtain ⟨K,t,h,hf⟩:=h
  exact ⟨K,t,h,hf.mono hm⟩
theorem SpFr.cells {w:World} {p:Spr} {lk:Int} {K:Nat→Option Value} {t:Option Value} {Bd:Nat→Prop} (h:SpFr w p K t Bd) (hs:SpAt w p lk K t):SpFr w p K t fun k=>Bd k∨∀ cs T fr,w.heap[k]? ≠ some (Obj.cells cs T fr):=by
  refine ⟨fun q hq v hv k hk hb=>hb.elim (h.1 q hq v hv k hk) fun hn=>?_,fun v hv=>?_⟩
  · obtain ⟨b,cap,cur,rfl,h2,_⟩:=hs.col q hq v hv
    simp only [Value.ownBlock,Option.some.injEq] at hk
    subst hk
    exact hn _ _ _ h2
  · obtain ⟨g,v',ps,h1,h2,h3,h4,h5⟩:=h.2 v hv
    refine ⟨g,v',ps,h1,h2,h3,h4,fun e he k hk hb=>hb.elim (h5 e he k hk) fun hn=>?_⟩
    obtain ⟨cs,T,fr,h6,_⟩:=grove_kind h3 e he k hk
    exact hn _ _ _ h6
theorem SpB.frM {w w':World} {p:Spr} {Bd M:Nat→Prop} (h:SpB w p Bd) (hf:Fr M w w') (hM:∀ k,M k→Bd k∨∀ cs T fr,w.heap[k]? ≠ some (Obj.cells cs T fr)) (hg:¬ M p.g) (hc:¬ M p.cg):SpB w' p Bd:=by
  obtain ⟨K,t,h,hb⟩:=h
  obtain ⟨h1,h2⟩:=(hb.cells h).keep h hf (fun k hk=>.inr (.inr (hM k hk))) (hf.block _ (heap_lt h.hg) hg) (hf.block _ (heap_lt h.hc) hc)
  exact ⟨K,t,h1,h2.mono fun k hk=>.inl hk⟩
theorem SpB.fr0 {w w':World} {p:Spr} {Bd:Nat→Prop} (h:SpB w p Bd) (hf:Fr0 w w'):SpB w' p Bd:=h.frM hf (fun _ hm=>hm.elim) id id
theorem SpB.frB {w w':World} {p:Spr} {Bd M:Nat→Prop} (h:SpB w p Bd) (hf:Fr M w w') (hM:∀ k,M k→∀ cs T fr,w.heap[k]? ≠ some (Obj.cells cs T fr)):SpB w' p Bd :=
  h.frM hf (fun k hk=>.inr (hM k hk)) (fun hm=>by obtain ⟨K,t,h,_⟩:=h; exact hM _ hm _ _ _ h.hg) (fun hm=>by obtain ⟨K,t,h,_⟩:=h; exact hM _ hm _ _ _ h.hc)
theorem SpB.new {w:World} {p:Spr} {Bd:Nat→Prop} (h:SpAt w p 0 (fun _=>none) none):SpB w p Bd:=⟨_,_,h,fun _ _ _ h=>(by cases h),fun _ h=>(by cases h)⟩
theorem OrAt.frX {w w':World} {o:Orc} {s:Option Spr} {M:Nat→Prop} (h:OrAt w o s) (hf:Fr M w w') (hM:∀ k,M k→∃ cs T fr,w.heap[k]?=some (.cells cs T fr)∧(Nat.beq 191 T || Nat.beq 129 T)=false) (hs:∀ p,s=some p→SpSome w' p):OrAt w' o s:=by
  have keep:∀ {k:Nat} {x:Obj},w.heap[k]?=some x→(∀ cs T fr,x=.cells cs T fr→(Nat.beq 191 T || Nat.beq 129 T)=true)→w'.heap[k]?=some x:=fun {k x} hk hx=>by
    refine (hf.block k (heap_lt hk) fun hm=>?_).trans hk
    obtain ⟨cs,T,fr,h1,h2⟩:=hM k hm
    rw [hk] at h1
    rw [hx cs T fr (Option.some.inj h1)] at h2
    cases h2
  obtain ⟨es,cl,hb⟩:=h.mp.blk
  obtain ⟨r1,b,cap,cur,r2,r3,r4⟩:=h.rd
  exact ⟨h.ok,keep h.hg (fun cs T fr e=>by cases e; rfl),⟨r1,b,cap,cur,r2,keep r3 (fun cs T fr e=>by cases e; rfl),r4⟩,h.mp.loc ((keep hb fun cs T fr e=>by cases e).trans hb.symm),fun q hq=>⟨(h.sp q hq).1,(h.sp q hq).2.1,hs q hq⟩⟩
structure OrNext (w w':World) (o:Orc) (s:Option Spr) (d:Int) (ep:UInt32) (p:Spr):Prop where
  at_:OrAt w' o (some p)
  d:p.d=d
  ep:p.ep=ep
  was:s=some p∨(s=none∧w.heap.size≤p.g∧w.heap.size≤p.cg)
theorem St.ownMap {N:Nat} {F:List (Nat × Value)} {a:Act} {w:World} {P:Program} {k:TypeId} {b n:Nat} {f:Lit→Option Value} (h:Know N F a) (hm:MapV P k b n f w):St N F [.mapV P k b n f] (fun j=>j=b) w a w :=
  ⟨h,⟨fun e he=>by simp only [List.mem_singleton] at he; subst he; exact hm,List.pairwise_singleton _ _,fun e he j hj=>by
    simp only [List.mem_singleton] at he
    subst he
    have hj:j=b:=hj
    subst hj
    obtain ⟨es,cl,hb⟩:=hm.blk
    exact heap_lt hb,fun _ _ _ _=>Nat.zero_le _⟩,fun e he j hj=>by
    simp only [List.mem_singleton] at he
    subst he
    exact .inr hj,Fr.refl _ _⟩
theorem tr_Clone (n:Nat) (ws:List UInt8) (wv:Value) (hwl:ws.length=n * 32) (hn0:0 < n) (hn:n≤1000) (w:World) (hq:Rd w wv n (ws.map B)):Ctr Tryz.prog 95 [wv] w (fun _=>False) (outE (rowD' n ws) w):=by
  obtain ⟨wad0,wcap,rfl,hwc,hwm⟩:=Rd.sl hq
  obtain ⟨wb,wo,wT,wfr,wall,rfl,hwb,hws⟩:=Rd.bytes_at32 hq hwl hn0
  refine fn_start (N:=8) Tryz.func95 rfl rfl rfl fun ac hk=>?_
  have hs:=St.start hk w
  refine wp_seq (wp_reg ?_)
  refine s_q hs (c_assign (hs.ev rfl)) rfl fun ac hs=>?_
  refine s_end (then_n (wp_seq (wp_seq (wp_reg ?_))))
  refine s_q hs (c_move (hs.ev rfl)) rfl fun ac hs=>?_
  refine s_q hs (c_eqlSn un105 (hs.ev rfl) (hs.ev rfl)) rfl fun ac hs=>?_
  refine s_end ?_
  replace hs:=hs.sub (F':=[(0,_),(2,_),(4,_)]) ⟨rfl,rfl,rfl,trivial⟩
  refine then_n ?_
  refine wp_cond_false (hs.ev rfl) ?_
  refine wp_skip (then_n (wp_seq (wp_reg ?_)))
  refine s_bslice hs un105 ty129 .nil rfl (fun _ h=>absurd h (by simp)) (by decide) rfl rfl fun ac ww g5 hs=>?_
  replace hs:=hs.segrow (i:=0) (n:=0) (sz:=32) rfl rfl (by decide)
  refine s_q hs (c_move (hs.ev rfl)) rfl fun ac hs=>?_
  refine s_append (i:=0) hs un105 ty129 (by decide) rfl rfl rfl (hq.fr0 hs.fr) (by rw [List.length_map,hwl]) (all_map_B _) (by unfold maxLen; omega) (by omega) rfl fun ac ww v7 hf hnil hs=>?_
  refine s_q hs (c_assign (hs.ev rfl)) rfl fun ac hs=>?_
  refine s_end ?_
  replace hs:=hs.sub (F':=[(2,_)]) ⟨rfl,trivial⟩
  refine then_n (wp_ret ?_)
  refine s_ret hs rfl (.tmp (hs.tmp rfl) .nil) rfl ⟨_,rfl,hs.fr,?_⟩
  exact ⟨_,rfl,(hs.toL (L':=[.row _ n (ws.map B) 129 32]) (by simp [flatCells])).made⟩
theorem tr_New (W S H:Int) (n:Nat) (sd:List UInt8) (v:Value) (hsd:sd.length=n * 32) (hn:n≤1000) (w:World) (hq:Rd w v n (sd.map B)):Ctr Tryz.prog 50 [.agg #[I W,I S,I H],v] w (fun _=>False) (fun v2 w'=>((spRight W S H && decide ((n:Int)=W))=false∧v2=.tuple #[.pointer none,I 1])∨((spRight W S H && decide ((n:Int)=W))=true∧∃ o,o.W=W∧o.S=S∧o.H=H∧o.sd=sd∧o.n=n∧OrAt w' o none∧w.heap.size≤o.mb∧v2=.tuple #[.pointer (some ⟨o.g,0,none⟩),I 0])):=by
  obtain ⟨vad,vcap,rfl,hvc,hvm⟩:=Rd.sl hq
  refine fn_start (N:=22) Tryz.func50 rfl rfl rfl fun ac hk=>?_
  have hs:=St.start hk w
  refine wp_seq (wp_reg ?_)
  refine s_box hs rfl rfl rfl fun ac ww g2 hs=>?_
  refine s_q hs (c_assign (hs.ev rfl)) rfl fun ac hs=>?_
  refine s_q hs (c_assign (hs.ev rfl)) rfl fun ac hs=>?_
  refine s_end ?_
  replace hs:=hs.sub (F':=[(1,_),(2,_),(4,_),(5,_)]) ⟨rfl,rfl,rfl,rfl,trivial⟩
  refine then_n (wp_seq (wp_seq (wp_reg ?_)))
  refine s_q hs (c_loadW ty33 ag33 (hs.ev rfl) (hs.seg (i:=0) rfl) (by rfl)) rfl fun ac hs=>?_
  refine s_call hs fu63 (.cons (hs.ev rfl) .nil) (spring_Right W S H _) rfl fun ac ww v7 hf hp hs=>?_
  obtain rfl:=hp
  replace hs:=hs [] (.nil _ _)
  refine s_q hs (c_not (hs.ev rfl)) rfl fun ac hs=>?_
  refine s_q hs (c_move (hs.ev rfl)) rfl fun ac hs=>?_
  refine s_g hs rfl rfl (fun hg=>c_move (hs.ev rfl)) rfl fun ac hs=>?_
  refine s_g hs rfl rfl (fun hg=>c_lenS un105 (gev (hs.ev rfl) hg)) rfl fun ac hs=>?_
  refine s_g hs rfl rfl (fun hg=>c_fld fl33_0 (hs.ev rfl)) rfl fun ac hs=>?_
  refine s_g hs rfl rfl (fun hg=>c_loadS un3 rfl (gev (hs.ev rfl) hg) (hs.seg (i:=0) rfl) rfl) rfl fun ac hs=>?_
  refine s_g hs rfl rfl (fun hg=>c_neqI (gev (hs.ev rfl) hg) (gev (hs.ev rfl) hg)) rfl fun ac hs=>?_
  refine s_q hs (c_or (hs.ev rfl) (hs.ev rfl)) rfl fun ac hs=>?_
  refine s_end ?_
  replace hs:=hs.sub (F':=[(1,_),(2,_),(4,_),(5,_),(15,_)]) ⟨rfl,rfl,rfl,rfl,rfl,trivial⟩
  refine then_n ?_
  refine s_cond hs rfl (fun hc=>?_) (fun hc=>?_)
  · skip
    have hno:(spRight W S H && decide ((n:Int)=W))=false:=by
      cases h1:spRight W S H
      · rfl
      · rw [h1] at hc
        simpa using hc
    refine wp_seq (wp_reg ?_)
    refine s_q hs (c_assign (hs.ev rfl)) rfl fun ac hs=>?_
    refine s_q hs (c_assign (hs.ev rfl)) rfl fun ac hs=>?_
    refine s_end ?_
    replace hs:=hs.sub (F':=[(1,_),(2,_),(4,_),(5,_)]) ⟨rfl,rfl,rfl,rfl,trivial⟩
    refine then_n (wp_ret (then_r ?_))
    refine s_ret hs rfl (.tmp (hs.tmp rfl) (.tmp (hs.tmp rfl) .nil)) rfl ⟨_,rfl,hs.fr,?_⟩
    exact .inl ⟨hno,rfl⟩
  · skip
    have hyes:(spRight W S H && decide ((n:Int)=W))=true:=by
      cases h1:spRight W S H
      · rw [h1] at hc
        simp at hc
      · rw [h1] at hc
        simpa using hc
    have hyr:spRight W S H=true:=((Bool.and_eq_true _ _).mp hyes).1
    have hyn:(n:Int)=W:=of_decide_eq_true ((Bool.and_eq_true _ _).mp hyes).2
    have hn0:0 < n:=by
      have h5:=(spRight_iff.1 hyr).1
      have h6:=levels_cases W
      omega
    refine wp_skip (then_n (wp_seq ?_))
    refine wp_region_rg pmix 4 (by kernel_rfl) rfl hs ?_
    simp only [List.take_succ_cons,List.take_zero]
    refine rg_q (fun ac ww h=>c_loadW ty33 ag33 (h.ev rfl) (h.blk (hs.seg (i:=0) rfl)) (by rfl)) rfl ?_
    refine rg_q (fun ac ww h=>c_move (h.ev rfl)) rfl ?_
    refine rg_callE (rowD' n sd) (fun _ _ _ _ _ h=>h) fu95 (fun ac ww h=>?_) rfl ?_
    · exact ⟨_,.cons (h.ev rfl) (.nil),tr_Clone n sd _ hsd hn0 hn _ (hq.fr0 (hs.fr.trans0 h.fr))⟩
    refine rg_makeMapV (k:=230) rfl ?_
    refine rg_nil fun ac ww L' hf hfe hs=>?_
    simp only [List.drop_succ_cons,List.drop_zero]
    obtain ⟨v19,L19,M19,h19,e19,⟨v18,L18,M18,h18,e18,rfl,rfl⟩,rfl⟩:=hfe
    replace hs:=hs.add h19
    replace hs:=hs.add h18
    obtain rfl:=e18
    obtain ⟨mb,rfl,rfl⟩:=e19
    obtain ⟨cad,ccap,rfl,hcc,hcm⟩:=Rd.sl (Rd.of_row (hs.get (i:=1) rfl))
    refine s_q hs (c_buildS (zc:=[I W,I S,I H,.slice cad n ccap,.map (some mb)]) ty191 bp191 (.cons (hs.ev rfl) (.cons (hs.ev rfl) (.cons (hs.ev rfl) .nil))) ⟨rfl,rfl,rfl,trivial⟩ (by simp [flatCells,Value.cells]) rfl) rfl fun ac hs=>?_
    refine s_box hs rfl rfl rfl fun ac ww g21 hs=>?_
    refine s_q hs (c_assign (hs.ev rfl)) rfl fun ac hs=>?_
    refine s_q hs (c_assign (hs.ev rfl)) rfl fun ac hs=>?_
    refine s_end ?_
    replace hs:=hs.sub (F':=[(4,_),(5,_)]) ⟨rfl,rfl,trivial⟩
    refine then_n (wp_ret ?_)
    refine s_ret hs rfl (.tmp (hs.tmp rfl) (.tmp (hs.tmp rfl) .nil)) rfl ⟨_,rfl,hs.fr,?_⟩
    refine .inr ⟨hyes,⟨g21,mb,n,.slice cad n ccap,W,S,H,sd⟩,rfl,rfl,rfl,rfl,rfl,⟨⟨hyn,hyr,hsd⟩,hs.seg (i:=0) rfl,RdT.row (hs.get (i:=2) rfl) hn0,hs.get (i:=1) rfl,fun _ h=>by cases h⟩,(hs.own _ (List.mem_of_getElem? (i:=1) rfl) mb rfl).resolve_right id,rfl⟩
theorem tr_spring (o:Orc) (s:Option Spr) (d:Int) (ep:UInt32) (Bd:Nat→Prop) (w:World) (hor:OrAt w o s) (hkey:∀ p,s=some p→p.d=d∧p.ep=ep) (hfb:∀ p,s=some p→SpB w p Bd):Ctr Tryz.prog 99 [.pointer (some ⟨o.g,0,none⟩),I d,U ep] w (fun k=>k=o.mb) (fun v2 w'=>(spFits o.W o.S o.H d ep=false∧v2=.tuple #[.pointer none,I 1]∧OrAt w' o s)∨(spFits o.W o.S o.H d ep=true∧∃ p,v2=.tuple #[.pointer (some ⟨p.g,0,none⟩),I 0]∧OrNext w w' o s d ep p∧SpB w' p Bd)):=by
  refine fn_start (N:=73) Tryz.func99 rfl rfl rfl fun ac hk=>?_
  have hs:=St.ownMap hk hor.mp
  refine wp_seq (wp_reg ?_)
  refine s_q hs (c_assign (hs.ev rfl)) rfl fun ac hs=>?_
  refine s_q hs (c_assign (hs.ev rfl)) rfl fun ac hs=>?_
  refine s_end (then_n (wp_seq (wp_block (wp_seq (wp_reg ?_)))))
  refine s_q hs (c_move (hs.ev rfl)) rfl fun ac hs=>?_
  refine s_q hs (c_eqlNil un102 (hs.ev rfl) (hs.ev rfl)) rfl fun ac hs=>?_
  refine s_q hs (c_assign (hs.ev rfl)) rfl fun ac hs=>?_
  refine s_end ?_
  replace hs:=hs.sub (F':=[(0,_),(1,_),(2,_),(6,_),(7,_),(12,_)]) ⟨rfl,rfl,rfl,rfl,rfl,rfl,trivial⟩
  refine then_n ?_
  refine wp_cond_false (hs.ev rfl) ?_
  refine wp_seq (wp_reg ?_)
  refine s_q hs (c_move (hs.ev rfl)) rfl fun ac hs=>?_
  refine s_q hs (c_lssI (hs.ev rfl) (hs.ev rfl)) rfl fun ac hs=>?_
  refine s_q hs (c_move (hs.ev rfl)) rfl fun ac hs=>?_
  refine s_g hs rfl rfl (fun hg=>c_move (hs.ev rfl)) rfl fun ac hs=>?_
  refine s_g hs rfl rfl (fun hg=>c_move (hs.ev rfl)) rfl fun ac hs=>?_
  refine s_g hs rfl rfl (fun hg=>c_nil (gev (hs.ev rfl) hg)) rfl fun ac hs=>?_
  refine s_g hs rfl rfl (fun hg=>c_fld fl191_0 (gev (hs.ev rfl) hg)) rfl fun ac hs=>?_
  refine s_g hs rfl rfl (fun hg=>c_fld fl33_0 (gev (hs.ev rfl) hg)) rfl fun ac hs=>?_
  refine s_g hs rfl rfl (fun hg=>c_loadS un3 rfl (gev (hs.ev rfl) hg) (hs.old hor.hg (fun e=>hor.mapBlk _ e _ _ _ hor.hg)) rfl) rfl fun ac hs=>?_
  refine s_g hs rfl rfl (fun hg=>c_geqI (gev (hs.ev rfl) hg) (gev (hs.ev rfl) hg)) rfl fun ac hs=>?_
  refine s_q hs (c_or (hs.ev rfl) (hs.ev rfl)) rfl fun ac hs=>?_
  refine s_q hs (c_move (hs.ev rfl)) rfl fun ac hs=>?_
  refine s_g hs rfl rfl (fun hg=>c_move (hs.ev rfl)) rfl fun ac hs=>?_
  refine s_g hs rfl rfl (fun hg=>c_gtrU (gev (hs.ev rfl) hg) (St.ev (v:=U 65536) hs rfl)) rfl fun ac hs=>?_
  refine s_q hs (c_or (hs.ev rfl) (hs.ev rfl)) rfl fun ac hs=>?_
  refine s_q hs (c_assign (hs.ev rfl)) rfl fun ac hs=>?_
  refine s_end ?_
  replace hs:=hs.sub (F':=[(0,_),(1,_),(2,_),(6,_),(7,_),(15,_)]) ⟨rfl,rfl,rfl,rfl,rfl,rfl,trivial⟩
  refine then_n ?_
  refine s_cond hs rfl (fun hc=>?_) (fun hc=>?_)
  · skip
    have hno:spFits o.W o.S o.H d ep=false:=by
      rw [← Bool.not_eq_true,spFits_iff]
      rintro ⟨_,h2,h3,h4⟩
      simp only [Bool.or_eq_true,decide_eq_true_eq] at hc
      rcases hc with (hc | hc) | hc
      · omega
      · omega
      · omega
    refine wp_seq (wp_reg ?_)
    refine s_q hs (c_assign (hs.ev rfl)) rfl fun ac hs=>?_
    refine s_q hs (c_assign (hs.ev rfl)) rfl fun ac hs=>?_
    refine s_end ?_
    replace hs:=hs.sub (F':=[(0,_),(1,_),(2,_),(6,_),(7,_)]) ⟨rfl,rfl,rfl,rfl,rfl,trivial⟩
    refine then_n (wp_ret (blk_r (then_r ?_)))
    refine s_ret hs rfl (.tmp (hs.tmp rfl) (.tmp (hs.tmp rfl) .nil)) rfl ⟨_,rfl,hs.fr,?_⟩
    exact .inl ⟨hno,rfl,⟨hor.ok,hs.old hor.hg (fun e=>hor.mapBlk _ e _ _ _ hor.hg),hor.rd.frM hs.fr fun k e cs fr=>hor.mapBlk k e cs _ fr,hs.get (i:=0) rfl,fun p hp=>⟨(hor.sp p hp).1,(hor.sp p hp).2.1,(hor.sp p hp).2.2.frB hs.fr fun k e=>hor.mapBlk k e⟩⟩⟩
  · skip
    have hyes:spFits o.W o.S o.H d ep=true:=by
      simp only [Bool.or_eq_false_iff,decide_eq_false_iff_not] at hc
      exact spFits_iff.2 ⟨hor.ok.right,by omega,by omega,by omega⟩
    have hd0:=(spFits_iff.1 hyes).2.1
    have hdW:=(spFits_iff.1 hyes).2.2.1
    have hW8:o.W≤8:=by
      have h5:=(spRight_iff.1 hor.ok.right).1
      have h6:=levels_cases o.W
      omega
    obtain ⟨q,hkq⟩:=at_key (d:=d) ⟨by omega,by omega⟩ ep
    refine wp_skip (blk_n (then_n (wp_seq (wp_seq (wp_reg ?_)))))
    refine s_q hs (c_move (hs.ev rfl)) rfl fun ac hs=>?_
    refine s_q hs (c_nil (hs.ev rfl)) rfl fun ac hs=>?_
    refine s_q hs (c_fld fl191_2 (hs.ev rfl)) rfl fun ac hs=>?_
    refine s_q hs (c_loadS un189 rfl (hs.ev rfl) (hs.old hor.hg (fun e=>hor.mapBlk _ e _ _ _ hor.hg)) rfl) rfl fun ac hs=>?_
    refine s_q hs (c_move (hs.ev rfl)) rfl fun ac hs=>?_
    refine s_q hs (c_move (hs.ev rfl)) rfl fun ac hs=>?_
    refine s_q hs (c_buildS (zc:=[I d,U ep]) ty230 bp230 (.cons (hs.ev rfl) (.cons (hs.ev rfl) .nil)) ⟨rfl,rfl,trivial⟩ (by simp [flatCells,Value.cells]) rfl) rfl fun ac hs=>?_
    rcases s with _ | p
    · refine s_q hs (c_to (c_lookupV (zv:=.pointer none) at_keyed Tryz.underlying189 (by kernel_rfl) (hs.get (i:=0) rfl) (hs.ev rfl) (hs.ev rfl) hkq) ((show _=Value.tuple #[.pointer none,.bool false] from rfl))) rfl fun ac hs=>?_
      refine s_q hs (c_move (hs.ev rfl)) rfl fun ac hs=>?_
      refine s_q hs (c_extract (hs.ev rfl) rfl) rfl fun ac hs=>?_
      refine s_q hs (c_extract (hs.ev rfl) rfl) rfl fun ac hs=>?_
      refine s_q hs (c_assign (hs.ev rfl)) rfl fun ac hs=>?_
      refine s_q hs (c_assign (hs.ev rfl)) rfl fun ac hs=>?_
      refine s_end ?_
      replace hs:=hs.sub (F':=[(0,_),(1,_),(2,_),(6,_),(7,_),(8,_),(9,_)]) ⟨rfl,rfl,rfl,rfl,rfl,rfl,rfl,trivial⟩
      refine then_n (wp_seq (wp_reg ?_))
      refine s_q hs (c_move (hs.ev rfl)) rfl fun ac hs=>?_
      refine s_end ?_
      replace hs:=hs.sub (F':=[(0,_),(1,_),(2,_),(6,_),(7,_),(8,_),(42,_)]) ⟨rfl,rfl,rfl,rfl,rfl,rfl,rfl,trivial⟩
      refine then_n ?_
      refine wp_cond_false (hs.ev rfl) ?_
      refine wp_skip (then_n (wp_seq ?_))
      obtain ⟨hr1,rb,rcap,rcur,hr2,hr3,hr4,hr5,hr6,hr7⟩:=hor.rd
      have hdn:d.toNat < o.n:=by have:=hor.ok.hn; omega
      have hsl:(o.seed d).length=32:=by
        have h1:=hor.ok.sd
        have h2:=Nat.mul_le_mul_right 32 (show d.toNat + 1≤o.n from hdn)
        rw [Nat.succ_mul] at h2
        rw [Orc.seed,List.length_take,List.length_drop]
        omega
      have hrb:=hs.old hr3 (fun e=>hor.mapBlk _ e _ _ _ hr3)
      have hps:(rcur.toList.drop (0 + d.toNat * 32)).take 32=(o.seed d).map B:=piece32 (o:=0) (by rw [List.drop_zero,hr7]) hor.ok.sd hdn
      refine wp_region_rgL pmix 18 (by kernel_rfl) rfl hs ?_
      simp only [List.take_succ_cons,List.take_zero]
      refine rg_q (fun ac ww h=>c_move (h.ev rfl)) rfl ?_
      refine rg_q (fun ac ww h=>c_nil (h.ev rfl)) rfl ?_
      refine rg_q (fun ac ww h=>c_fld fl191_0 (h.ev rfl)) rfl ?_
      refine rg_q (fun ac ww h=>c_loadA ty33 ag33 (h.ev rfl) (h.blk (hs.old hor.hg (fun e=>hor.mapBlk _ e _ _ _ hor.hg))) (show _=[I o.W,I o.S,I o.H] from rfl) (by rfl)) rfl ?_
      refine rg_q (fun ac ww h=>c_move (h.ev rfl)) rfl ?_
      refine rg_q (fun ac ww h=>c_nil (h.ev rfl)) rfl ?_
      refine rg_q (fun ac ww h=>c_fld fl191_1 (h.ev rfl)) rfl ?_
      refine rg_q (fun ac ww h=>c_loadS un105 rfl (h.ev rfl) (h.blk (hs.old hor.hg (fun e=>hor.mapBlk _ e _ _ _ hor.hg))) (congrArg some hr2)) rfl ?_
      refine rg_q (fun ac ww h=>c_move (h.ev rfl)) rfl ?_
      refine rg_q (fun ac ww h=>c_idxS (j:=d.toNat) un105 ty129 (h.ev rfl) (h.ev rfl) (by omega) hdn) rfl ?_
      refine rg_q (fun ac ww h=>c_loadA ty129 rfl (h.ev rfl) (h.blk hrb) hps (by rw [List.length_map,hsl])) rfl ?_
      refine rg_q (fun ac ww h=>c_move (h.ev rfl)) rfl ?_
      refine rg_q (fun ac ww h=>c_move (h.ev rfl)) rfl ?_
      refine rg_callE (tupG [] [I 0] (sprE w.heap.size o.W o.S o.H (o.seed d) d ep)) sprE.st fu14 (fun ac ww h=>?_) rfl ?_
      · exact ⟨_,.cons (h.ev rfl) (.cons (h.ev rfl) (.cons (h.ev rfl) (.cons (h.ev rfl) (.nil)))),spring_NewE hsl hyes ww w.heap.size (Nat.le_trans hs.fr.size h.fr.size)⟩
      refine rg_moveG rfl rfl rfl ?_
      refine rg_extGe rfl rfl rfl rfl ?_
      refine rg_extGc rfl rfl rfl (fun _=>rfl) ?_
      refine rg_assignE (fun _=>True) rfl rfl (fun _ _ _ _=>trivial) rfl ?_
      refine rg_nil fun ac ww L' hf hfe hs hlk=>?_
      simp only [List.drop_succ_cons,List.drop_zero]
      obtain ⟨v10,L10,M10,h10,e10,⟨v59,L59,M59,h59,e59,⟨v44,L44,M44,h44,e44,⟨v58,L58,M58,h58,e58,rfl,rfl⟩,rfl⟩,rfl⟩,rfl⟩:=hfe
      replace hs:=hs.add h10
      replace hs:=hs.add h59
      replace hs:=hs.add h44
      replace hs:=hs.add h58
      obtain ⟨tv58,rfl,e58⟩:=e58
      obtain ⟨-,rfl⟩:=e44
      obtain rfl:=lk_move (j:=14) hlk (by decide) rfl (by kernel_rfl) h44 h58
      obtain ⟨-,rfl⟩:=e59
      obtain rfl:=lk_ext (j:=15) hlk (by decide) rfl (by kernel_rfl) h59 h44 rfl
      obtain ⟨-,rfl⟩:=e10
      obtain rfl:=lk_assign (j:=17) hlk (by decide) rfl (by kernel_rfl) h10 h59
      obtain ⟨rfl,p,hsi,hsp,hg1,hc1,rfl⟩:=e58
      refine s_q hs (c_assign (hs.ev rfl)) rfl fun ac hs=>?_
      refine s_end ?_
      replace hs:=hs.sub (F':=[(0,_),(1,_),(2,_),(6,_),(7,_),(10,_),(11,_)]) ⟨rfl,rfl,rfl,rfl,rfl,rfl,rfl,trivial⟩
      refine then_n (wp_seq (wp_seq (wp_reg ?_)))
      refine s_q hs (c_move (hs.ev rfl)) rfl fun ac hs=>?_
      refine s_q hs (c_neqI (hs.ev rfl) (hs.ev rfl)) rfl fun ac hs=>?_
      refine s_end ?_
      replace hs:=hs.sub (F':=[(0,_),(1,_),(2,_),(6,_),(7,_),(10,_),(11,_),(62,_)]) ⟨rfl,rfl,rfl,rfl,rfl,rfl,rfl,rfl,trivial⟩
      refine then_n ?_
      refine wp_cond_false (hs.ev rfl) ?_
      refine wp_skip (then_n (wp_seq (wp_reg ?_)))
      refine s_q hs (c_move (hs.ev rfl)) rfl fun ac hs=>?_
      refine s_q hs (c_nil (hs.ev rfl)) rfl fun ac hs=>?_
      refine s_q hs (c_fld fl191_2 (hs.ev rfl)) rfl fun ac hs=>?_
      refine s_q hs (c_loadS un189 rfl (hs.ev rfl) (hs.old hor.hg (fun e=>hor.mapBlk _ e _ _ _ hor.hg)) rfl) rfl fun ac hs=>?_
      refine s_q hs (c_move (hs.ev rfl)) rfl fun ac hs=>?_
      refine s_q hs (c_move (hs.ev rfl)) rfl fun ac hs=>?_
      refine s_q hs (c_buildS (zc:=[I d,U ep]) ty230 bp230 (.cons (hs.ev rfl) (.cons (hs.ev rfl) .nil)) ⟨rfl,rfl,trivial⟩ (by simp [flatCells,Value.cells]) rfl) rfl fun ac hs=>?_
      refine s_q hs (c_move (hs.ev rfl)) rfl fun ac hs=>?_
      have hfr0:=hs.fr
      have hown0:=hs.own
      have hb0:=hs.old hor.hg (fun e=>hor.mapBlk _ e _ _ _ hor.hg)
      have hmb0:=MapV.blk (hs.get (i:=0) rfl)
      have hrd0:=hor.rd.frM hs.fr fun k e cs fr=>hor.mapBlk k e cs _ fr
      have hsp0:=hsp
      have hkm:∀ k,(Ent.grp [Ent.mapV Tryz.prog 230 o.mb (nbO none) (mapO none)]).keys k→k=o.mb:=by
        rintro k ⟨e,he,hk⟩
        simp only [List.mem_singleton] at he
        subst he
        exact hk
      have hmc:∀ k,(Ent.grp [Ent.mapV Tryz.prog 230 o.mb (nbO none) (mapO none)]).keys k→∀ cs T fr,ww.heap[k]? ≠ some (Obj.cells cs T fr):=fun k hk cs T fr hb=>by
        obtain ⟨es,cl,h2⟩:=hmb0
        rw [← hkm k hk,hb] at h2
        cases h2
      replace hs:=hs.rebase
      refine s_mapPut (i:=0) hs at_keyed Tryz.underlying189 rfl rfl rfl hkq rfl (by unfold maxLen; decide) fun ww hs=>?_
      refine s_end ?_
      replace hs:=hs.sub (F':=[(6,_),(7,_),(10,_)]) ⟨rfl,rfl,rfl,trivial⟩
      refine then_n (wp_seq (wp_reg ?_))
      refine s_q hs (c_move (hs.ev rfl)) rfl fun ac hs=>?_
      refine s_q hs (c_assign (hs.ev rfl)) rfl fun ac hs=>?_
      refine s_q hs (c_assign (hs.ev rfl)) rfl fun ac hs=>?_
      refine s_end ?_
      replace hs:=hs.sub (F':=[(6,_),(7,_)]) ⟨rfl,rfl,trivial⟩
      refine then_n (wp_ret ?_)
      refine s_ret hs rfl (.tmp (hs.tmp rfl) (.tmp (hs.tmp rfl) .nil)) rfl ⟨_,rfl,(Fr.rebase hfr0 hown0 hs.fr),?_⟩
      refine .inr ⟨hyes,p,rfl,⟨⟨hor.ok,(hs.fr.block _ (heap_lt hb0) fun hk=>hmc _ hk _ _ _ hb0).trans hb0,hrd0.frM hs.fr fun k hk cs fr=>hmc k hk cs _ fr,?_,fun p2 hp2=>?_⟩,hsi.d,hsi.ep,.inr ⟨rfl,hg1,hc1⟩⟩,(SpB.new hsp0).frB hs.fr hmc⟩
      · have h9:=hs.get (i:=0) rfl
        rw [mapO_put (p:=p) (by rw [hsi.d,hsi.ep]; exact hkq)] at h9
        exact h9
      · cases hp2
        exact ⟨by rw [hsi.d,hsi.ep]; exact hsi,by rw [hsi.d,hsi.ep]; exact hyes,SpSome.frB ⟨_,_,hsp0⟩ hs.fr hmc⟩
    · refine s_q hs (c_to (c_lookupV (zv:=.pointer none) at_keyed Tryz.underlying189 (by kernel_rfl) (hs.get (i:=0) rfl) (hs.ev rfl) (hs.ev rfl) hkq) ((show _=Value.tuple #[.pointer (some ⟨p.g,0,none⟩),.bool true] from by rw [mapO_get (by rw [(hkey p rfl).1,(hkey p rfl).2]; exact hkq)]; rfl))) rfl fun ac hs=>?_
      refine s_q hs (c_move (hs.ev rfl)) rfl fun ac hs=>?_
      refine s_q hs (c_extract (hs.ev rfl) rfl) rfl fun ac hs=>?_
      refine s_q hs (c_extract (hs.ev rfl) rfl) rfl fun ac hs=>?_
      refine s_q hs (c_assign (hs.ev rfl)) rfl fun ac hs=>?_
      refine s_q hs (c_assign (hs.ev rfl)) rfl fun ac hs=>?_
      refine s_end ?_
      replace hs:=hs.sub (F':=[(0,_),(1,_),(2,_),(6,_),(7,_),(8,_),(9,_)]) ⟨rfl,rfl,rfl,rfl,rfl,rfl,rfl,trivial⟩
      refine then_n (wp_seq (wp_reg ?_))
      refine s_q hs (c_move (hs.ev rfl)) rfl fun ac hs=>?_
      refine s_end ?_
      replace hs:=hs.sub (F':=[(0,_),(1,_),(2,_),(6,_),(7,_),(8,_),(42,_)]) ⟨rfl,rfl,rfl,rfl,rfl,rfl,rfl,trivial⟩
      refine then_n ?_
      refine wp_cond_true (hs.ev rfl) ?_
      refine wp_seq (wp_reg ?_)
      refine s_q hs (c_move (hs.ev rfl)) rfl fun ac hs=>?_
      refine s_q hs (c_assign (hs.ev rfl)) rfl fun ac hs=>?_
      refine s_q hs (c_assign (hs.ev rfl)) rfl fun ac hs=>?_
      refine s_end ?_
      replace hs:=hs.sub (F':=[(0,_),(1,_),(2,_),(6,_),(7,_)]) ⟨rfl,rfl,rfl,rfl,rfl,trivial⟩
      refine then_n (wp_ret (then_r ?_))
      refine s_ret hs rfl (.tmp (hs.tmp rfl) (.tmp (hs.tmp rfl) .nil)) rfl ⟨_,rfl,hs.fr,?_⟩
      exact .inr ⟨hyes,p,rfl,⟨⟨hor.ok,hs.old hor.hg (fun e=>hor.mapBlk _ e _ _ _ hor.hg),hor.rd.frM hs.fr fun k e cs fr=>hor.mapBlk k e cs _ fr,hs.get (i:=0) rfl,fun p hp=>⟨(hor.sp p hp).1,(hor.sp p hp).2.1,(hor.sp p hp).2.2.frB hs.fr fun k e=>hor.mapBlk k e⟩⟩,(hkey p rfl).1,(hkey p rfl).2,.inl rfl⟩,(hfb p rfl).frB hs.fr fun k e=>hor.mapBlk k e⟩
end Go.Proofs.YtklajbdbnnceiaaGreat
end

section
/- What the oracle tells. -/
namespace Go.Proofs.YtklajbdbnnceiaaGreat
open Go Go.Fw
open Sha
theorem kinds_ne {w:World} {b b':Nat} {cs cs':Array Value} {T T':TypeId} {fr fr':Nat × Nat} (h:w.heap[b]?=some (.cells cs T fr)) (h':w.heap[b']?=some (.cells cs' T' fr')) (hT:Nat.beq T T'=false):b ≠ b':=fun e=>by
  subst e
  rw [h] at h'
  cases h'
  simp at hT
theorem or_fr {o:Orc} {s:Option Spr} {w w1 w2:World} (h:Fr0 w w1) (k:Fr (fun k=>k=o.mb) w1 w2):Fr (OrM o s) w w2:=(Fr.mono h fun _ _=>False.elim).trans k fun _ _ e=>.inl e
theorem OrNext.back {w w1 w':World} {o:Orc} {s:Option Spr} {d:Int} {ep:UInt32} {p:Spr} (h:OrNext w1 w' o s d ep p) (hs:w.heap.size≤w1.heap.size):OrNext w w' o s d ep p :=
  ⟨h.at_,h.d,h.ep,h.was.imp id fun h=>⟨h.1,Nat.le_trans hs h.2.1,Nat.le_trans hs h.2.2⟩⟩
theorem OrNext.to {w w1 w':World} {o:Orc} {s:Option Spr} {d:Int} {ep:UInt32} {p:Spr} (h:OrNext w w1 o s d ep p) (ha:OrAt w' o (some p)):OrNext w w' o s d ep p:=⟨ha,h.d,h.ep,h.was⟩
theorem or_fr2 {o:Orc} {s:Option Spr} {w w2 w3 w4 wx:World} {d:Int} {ep:UInt32} {p:Spr} (h:Fr (OrM o s) w w2) (h0:Fr0 w2 w3) (hn:OrNext w wx o s d ep p) (k:Fr (SpM p) w3 w4):Fr (OrM o s) w w4:=by
  refine (h.trans0 h0).trans k fun i hi hm=>?_
  rcases hn.was with e | ⟨_,e1,e2⟩
  · exact .inr ⟨p,e,hm⟩
  · rcases hm with rfl | rfl <;> omega
theorem or_fin {o:Orc} {s:Option Spr} {w w4 w5:World} {g:Nat} (h:Fr (OrM o s) w w4) (hg:w.heap.size≤g) (k:Fr (fun k=>k=g) w4 w5):Fr (OrM o s) w w5:=h.trans k fun i hi e=>by
  have e:i=g:=e
  omega
theorem keepO {o:Orc} {s:Option Spr} {w w2:World} {b:Nat} {cs:Array Value} {T:TypeId} {fr:Nat × Nat} (h:OrAt w o s) (hf:Fr (fun k=>k=o.mb) w w2) (hb:w.heap[b]?=some (.cells cs T fr)):w2.heap[b]?=some (.cells cs T fr):=(hf.block _ (heap_lt hb) fun e=>h.mapBlk _ e _ _ _ hb).trans hb
theorem keepO2 {o:Orc} {s:Option Spr} {w w2:World} {b:Nat} {cs:Array Value} {T:TypeId} {fr:Nat × Nat} (h:OrAt w o s) (hf:Fr (OrM o s) w w2) (hb:w.heap[b]?=some (.cells cs T fr)) (hT:(Nat.beq 149 T || Nat.beq 203 T)=false:=by rfl):w2.heap[b]?=some (.cells cs T fr):=(hf.block _ (heap_lt hb) fun e=>by
  rcases e with e | ⟨p,e,hm⟩
  · exact h.mapBlk _ e _ _ _ hb
  · obtain ⟨cs',T',fr',h1,h2⟩:=spBlk (h.sp p e).2.2 hm
    rw [hb] at h1
    cases h1
    rw [hT] at h2
    cases h2).trans hb
theorem or_seg {w w1 w2 w3:World} {o:Orc} {s:Option Spr} {g:Nat} {cs:Array Value} {T:TypeId} (h0:OrAt w o s) (h1:Fr0 w w1) (h2:Fr (fun k=>k=o.mb) w1 w2) (h:OrAt w2 o s) (hg:w.heap.size≤g) (hb:w2.heap[g]?=some (.cells cs T (0,0))) (hT:(Nat.beq 191 T || Nat.beq 129 T)=false) (h3:Fr (fun k=>k=g) w2 w3):OrAt w3 o s :=
  h.frX h3 (fun k e=>⟨cs,T,(0,0),e ▸ hb,hT⟩) fun p hp=>by
    have hs0:=(h0.sp p hp).2.2
    have hb0:SpB w2 p (w.heap.size≤·):=(hs0.b.fr0 h1).frB h2 fun k e=>(h0.fr0 h1).mapBlk k e
    obtain ⟨K,t,hs⟩:=hs0
    have hl1:=heap_lt hs.hg
    have hl2:=heap_lt hs.hc
    exact (hb0.frM h3 (fun k e=>.inl (show w.heap.size≤k from e ▸ hg)) (fun e=>by have e:p.g=g:=e; omega) fun e=>by have e:p.cg=g:=e; omega).one
theorem tr_Cred (o:Orc) (s:Option Spr) (d mt sn:Int) (ep sq:UInt32) (w:World) (hor:OrAt w o s) (hkey:∀ p,s=some p→p.d=d∧p.ep=ep):Ctr Tryz.prog 97 [.pointer (some ⟨o.g,0,none⟩),.agg #[I d,U ep,U sq,I mt,I sn]] w (OrM o s) (fun v w'=>(clRight o.W o.S o.H d mt sn ep sq=false∧v=.tuple #[credV (List.replicate 16 (0:UInt8)) (.slice none 0 0) (.slice none 0 0),I 1]∧((spFits o.W o.S o.H d ep=false∧OrAt w' o s)∨(spFits o.W o.S o.H d ep=true∧∃ p,OrNext w w' o s d ep p)))∨(clRight o.W o.S o.H d mt sn ep sq=true∧∃ p wv pv,v=.tuple #[credV (shL d ep sq mt (el p sq.toNat mt.toNat) p.W sn) wv pv,I 0]∧Rd w' wv (shN mt p.W sn) ((shW d ep sq mt (el p sq.toNat mt.toNat) p.W sn).map B)∧Rd w' pv p.H ((gPath p.d p.ep (ends p p.m) sq.toNat p.H).map B)∧OrNext w w' o s d ep p)):=by
  refine fn_start (N:=27) Tryz.func97 rfl rfl rfl fun ac hk=>?_
  have hs:=St.start hk w
  refine wp_seq (wp_reg ?_)
  refine s_box hs rfl rfl rfl fun ac ww g3 hs=>?_
  refine s_alloc hs ty56 rfl fun ac ww g4 hs=>?_
  refine s_q hs (c_assign (hs.ev rfl)) rfl fun ac hs=>?_
  refine s_end ?_
  replace hs:=hs.sub (F':=[(0,_),(3,_),(4,_),(5,_)]) ⟨rfl,rfl,rfl,rfl,trivial⟩
  refine then_n (wp_seq (wp_reg ?_))
  refine s_q hs (c_move (hs.ev rfl)) rfl fun ac hs=>?_
  refine s_q hs (c_fld fl61_0 (hs.ev rfl)) rfl fun ac hs=>?_
  refine s_q hs (c_loadS un3 rfl (hs.ev rfl) (hs.seg (i:=1) rfl) rfl) rfl fun ac hs=>?_
  refine s_q hs (c_fld fl61_1 (hs.ev rfl)) rfl fun ac hs=>?_
  refine s_q hs (c_fld fl59_0 (hs.ev rfl)) rfl fun ac hs=>?_
  refine s_q hs (c_loadS un25 rfl (hs.ev rfl) (hs.seg (i:=1) rfl) rfl) rfl fun ac hs=>?_
  cases hfit:spFits o.W o.S o.H d ep
  · have hb4p:=hs.seg (i:=0) rfl
    have hb3p:=hs.seg (i:=1) rfl
    have hg4:=(hs.own _ (List.mem_of_getElem? (i:=0) rfl) g4 rfl).resolve_right id
    have hsz1:=hs.fr.size
    have hfr1:=hs.fr
    have hor1:=hor.fr0 hs.fr
    refine s_callR hs fu99 (.cons (hs.ev rfl) (.cons (hs.ev rfl) (.cons (hs.ev rfl) .nil))) (tr_spring o s d ep (fun _=>False) _ hor1 hkey (fun p hp=>((hor.sp p hp).2.2.b.fr0 hs.fr).mono fun _ h=>h.elim)) rfl fun ac ww v15 hf hp hs=>?_
    obtain ⟨rfl,hor2⟩:=(hp.elim (fun h=>h.2) fun h=>absurd (hfit.symm.trans h.1) (by decide))
    have hfA:=hf
    have hb4:=keepO hor1 hf hb4p
    have hfrA:Fr (OrM o s) w ww:=or_fr hfr1 hf
    replace hs:=St.own1 hs.know hb4
    have hno:clRight o.W o.S o.H d mt sn ep sq=false:=by
      rw [← Bool.not_eq_true,clRight_iff]
      intro h
      have h9:=spFits_iff.2 ⟨h.1,h.2.1,h.2.2.1,h.2.2.2.2.2.1⟩
      rw [hfit] at h9
      cases h9
    refine s_q hs (c_move (hs.ev rfl)) rfl fun ac hs=>?_
    refine s_q hs (c_extract (hs.ev rfl) rfl) rfl fun ac hs=>?_
    refine s_q hs (c_extract (hs.ev rfl) rfl) rfl fun ac hs=>?_
    refine s_q hs (c_assign (hs.ev rfl)) rfl fun ac hs=>?_
    refine s_q hs (c_assign (hs.ev rfl)) rfl fun ac hs=>?_
    refine s_end ?_
    replace hs:=hs.sub (F':=[(3,_),(4,_),(5,_),(6,_),(7,_)]) ⟨rfl,rfl,rfl,rfl,rfl,trivial⟩
    refine then_n (wp_seq (wp_seq (wp_reg ?_)))
    refine s_q hs (c_move (hs.ev rfl)) rfl fun ac hs=>?_
    refine s_q hs (c_neqI (hs.ev rfl) (hs.ev rfl)) rfl fun ac hs=>?_
    refine s_end ?_
    replace hs:=hs.sub (F':=[(3,_),(4,_),(5,_),(6,_),(7,_),(19,_)]) ⟨rfl,rfl,rfl,rfl,rfl,rfl,trivial⟩
    refine then_n ?_
    refine wp_cond_true (hs.ev rfl) ?_
    refine wp_seq (wp_reg ?_)
    refine s_q hs (c_buildS (zc:=(List.replicate 16 (0:UInt8)).map B++[Value.slice none 0 0,Value.slice none 0 0]) ty56 bp56 .nil trivial (by simp [flatCells,Value.cells]) rfl) rfl fun ac hs=>?_
    refine s_q hs (c_move (hs.ev rfl)) rfl fun ac hs=>?_
    refine s_storeW (i:=0) hs ty56 rfl rfl rfl (by rfl) (by rfl) rfl fun ww hs=>?_
    refine s_q hs (c_assign (hs.ev rfl)) rfl fun ac hs=>?_
    refine s_end ?_
    replace hs:=hs.sub (F':=[(3,_),(4,_),(5,_),(6,_)]) ⟨rfl,rfl,rfl,rfl,trivial⟩
    refine then_n (wp_ret (then_r ?_))
    refine s_ret hs rfl (.cell (hs.tmp rfl) (run_loadA ty56 ag56 (hs.seg (i:=0) rfl) rfl (by rfl)) (.tmp (hs.tmp rfl) .nil)) rfl ⟨_,rfl,(or_fin hfrA hg4 hs.fr),?_⟩
    exact .inl ⟨hno,rfl,.inl ⟨rfl,or_seg hor hfr1 hfA hor2 hg4 hb4 rfl hs.fr⟩⟩
  · have hb4p:=hs.seg (i:=0) rfl
    have hb3p:=hs.seg (i:=1) rfl
    have hg4:=(hs.own _ (List.mem_of_getElem? (i:=0) rfl) g4 rfl).resolve_right id
    have hsz1:=hs.fr.size
    have hfr1:=hs.fr
    have hor1:=hor.fr0 hs.fr
    refine s_callR hs fu99 (.cons (hs.ev rfl) (.cons (hs.ev rfl) (.cons (hs.ev rfl) .nil))) (tr_spring o s d ep (fun _=>False) _ hor1 hkey (fun p hp=>((hor.sp p hp).2.2.b.fr0 hs.fr).mono fun _ h=>h.elim)) rfl fun ac ww v15 hf hp hs=>?_
    obtain ⟨p,rfl,hon1,hspb⟩:=(hp.elim (fun h=>absurd (hfit.symm.trans h.1) (by decide)) fun h=>h.2)
    have hon:=hon1.back hsz1
    have hb4:=keepO hor1 hf hb4p
    have hb3:=keepO hor1 hf hb3p
    have hfrA:Fr (OrM o s) w ww:=or_fr hfr1 hf
    have hsis:=(hon.at_.sp p rfl).1
    have ho:=hsis.ok
    refine s_q hs (c_move (hs.ev rfl)) rfl fun ac hs=>?_
    refine s_q hs (c_extract (hs.ev rfl) rfl) rfl fun ac hs=>?_
    refine s_q hs (c_extract (hs.ev rfl) rfl) rfl fun ac hs=>?_
    refine s_q hs (c_assign (hs.ev rfl)) rfl fun ac hs=>?_
    refine s_q hs (c_assign (hs.ev rfl)) rfl fun ac hs=>?_
    refine s_end ?_
    replace hs:=hs.sub (F':=[(3,_),(4,_),(5,_),(6,_),(7,_)]) ⟨rfl,rfl,rfl,rfl,rfl,trivial⟩
    refine then_n (wp_seq (wp_seq (wp_reg ?_)))
    refine s_q hs (c_move (hs.ev rfl)) rfl fun ac hs=>?_
    refine s_q hs (c_neqI (hs.ev rfl) (hs.ev rfl)) rfl fun ac hs=>?_
    refine s_end ?_
    replace hs:=hs.sub (F':=[(3,_),(4,_),(5,_),(6,_),(7,_),(19,_)]) ⟨rfl,rfl,rfl,rfl,rfl,rfl,trivial⟩
    refine then_n ?_
    refine wp_cond_false (hs.ev rfl) ?_
    refine wp_skip (then_n (wp_seq (wp_reg ?_)))
    refine s_q hs (c_move (hs.ev rfl)) rfl fun ac hs=>?_
    refine s_q hs (c_loadW ty61 ag61 (hs.ev rfl) (hs.old hb3 id) (by rfl)) rfl fun ac hs=>?_
    cases hcr:clRight o.W o.S o.H d mt sn ep sq
    · obtain ⟨K,t,hsp,_⟩:=hspb.fr0 hs.fr
      have horP:=hon.at_.fr0 hs.fr
      have hb4P:=hs.old hb4 id
      have hlt4:=heap_lt hb4P
      have hfr3:=hs.fr
      refine s_callR hs fu26 (.cons (hs.ev rfl) (.cons (hs.ev rfl) .nil)) (proof_Issue p ho K t d mt sn ep sq _ hsp) rfl fun ac ww v24 hf hp hs=>?_
      have hcr2:clRight p.W p.S p.H d mt sn ep sq=false:=by rw [hsis.W,hsis.S,hsis.H]; exact hcr
      obtain ⟨rfl,hspS⟩:=(hp.elim (fun h=>h.2) fun h=>absurd (hcr2.symm.trans h.1) (by decide))
      have hor4:=horP.spring hf hspS
      have hb44:=keepS hsp hf hb4P
      have hfrB:=or_fr2 hfrA hfr3 hon hf
      replace hs:=St.own1 hs.know hb44
      refine s_q hs (c_extract (hs.ev rfl) rfl) rfl fun ac hs=>?_
      refine s_q hs (c_extract (hs.ev rfl) rfl) rfl fun ac hs=>?_
      refine s_storeW (i:=0) hs ty56 rfl rfl rfl (by rfl) (by rfl) rfl fun ww hs=>?_
      refine s_q hs (c_assign (hs.ev rfl)) rfl fun ac hs=>?_
      refine s_end ?_
      replace hs:=hs.sub (F':=[(4,_),(5,_)]) ⟨rfl,rfl,trivial⟩
      refine then_n (wp_ret ?_)
      refine s_ret hs rfl (.cell (hs.tmp rfl) (run_loadA ty56 ag56 (hs.seg (i:=0) rfl) rfl (by rfl)) (.tmp (hs.tmp rfl) .nil)) rfl ⟨_,rfl,(or_fin hfrB hg4 hs.fr),?_⟩
      exact .inl ⟨rfl,rfl,.inr ⟨rfl,p,hon.to (hor4.frX hs.fr (fun k e=>⟨_,_,_,e ▸ hb44,rfl⟩) fun p2 e=>by
        cases e
        obtain ⟨K9,t9,h9⟩:=hspS
        exact ⟨K9,t9,h9.other hs.fr fun k e=>⟨_,_,_,e ▸ hb44,rfl⟩⟩)⟩⟩
    · obtain ⟨K,t,hsp,_⟩:=hspb.fr0 hs.fr
      have horP:=hon.at_.fr0 hs.fr
      have hb4P:=hs.old hb4 id
      have hlt4:=heap_lt hb4P
      have hfr3:=hs.fr
      refine s_callR hs fu26 (.cons (hs.ev rfl) (.cons (hs.ev rfl) .nil)) (proof_Issue p ho K t d mt sn ep sq _ hsp) rfl fun ac ww v24 hf hp hs=>?_
      have hcr2:clRight p.W p.S p.H d mt sn ep sq=true:=by rw [hsis.W,hsis.S,hsis.H]; exact hcr
      obtain ⟨hsm,wv,pv,rfl,hwv,hpv,hwf,hpf⟩:=(hp.elim (fun h=>absurd (hcr2.symm.trans h.1) (by decide)) fun h=>h.2)
      have hspS:SpSome ww p:=by
        obtain ⟨K9,u9,h9⟩:=hsm
        exact ⟨K9,_,h9⟩
      have hor4:=horP.spring hf hspS
      have hwo:=hwv.one
      have hpo:=hpv.one
      have hsl:(shL d ep sq mt (el p sq.toNat mt.toNat) p.W sn).length=16:=shL_length _ _ _ _ _ _ _
      have hb44:=keepS hsp hf hb4P
      have hfrB:=or_fr2 hfrA hfr3 hon hf
      replace hs:=St.own1 hs.know hb44
      refine s_q hs (c_extract (hs.ev rfl) rfl) rfl fun ac hs=>?_
      refine s_q hs (c_extract (hs.ev rfl) rfl) rfl fun ac hs=>?_
      refine s_storeW (i:=0) hs ty56 rfl rfl rfl (by simp [hsl]) (by simp [hwo,hpo]; exact fun x _=>rfl) rfl fun ww hs=>?_
      refine s_q hs (c_assign (hs.ev rfl)) rfl fun ac hs=>?_
      refine s_end ?_
      replace hs:=hs.sub (F':=[(4,_),(5,_)]) ⟨rfl,rfl,trivial⟩
      refine then_n (wp_ret ?_)
      refine s_ret hs rfl (.cell (hs.tmp rfl) (run_loadA ty56 ag56 (hs.seg (i:=0) rfl) (List.take_of_length_le (by simp [hsl])) (by simp [hsl])) (.tmp (hs.tmp rfl) .nil)) rfl ⟨_,rfl,(or_fin hfrB hg4 hs.fr),?_⟩
      refine .inr ⟨rfl,p,wv,pv,rfl,hwv.fr hs.fr (fun k hk e=>?_),hpv.fr hs.fr (fun k hk e=>?_),hon.to (hor4.frX hs.fr (fun k e=>⟨_,_,_,e ▸ hb44,rfl⟩) fun p2 e=>?_)⟩
      · have h9:=(hwf k hk).1
        have e:k=g4:=e
        omega
      · have h9:=(hpf k hk).1
        have e:k=g4:=e
        omega
      · cases e
        obtain ⟨K9,t9,h9⟩:=hspS
        exact ⟨K9,t9,h9.other hs.fr fun k e=>⟨_,_,_,e ▸ hb44,rfl⟩⟩
theorem tr_Own (o:Orc) (s:Option Spr) (d mt sn:Int) (ep sq:UInt32) (lf ws ps:List UInt8) (nw np:Nat) (wv pv:Value) (hlf:lf.length=16) (hwl:ws.length=nw * 16) (hpl:ps.length=np * 16) (w:World) (hor:OrAt w o s) (hkey:∀ p,s=some p→p.d=d∧p.ep=ep) (hqw:Rd w wv nw (ws.map B)) (hqp:Rd w pv np (ps.map B)) (hfw:∀ k,wv.ownBlock=some k→¬ OrM o s k) (hfp:∀ k,pv.ownBlock=some k→¬ OrM o s k):Ctr Tryz.prog 57 [.pointer (some ⟨o.g,0,none⟩),.agg #[I d,U ep,U sq,I mt,I sn],credV lf wv pv] w (OrM o s) (fun v w'=>(clRight o.W o.S o.H d mt sn ep sq=false∧v=.bool false∧((spFits o.W o.S o.H d ep=false∧OrAt w' o s)∨(spFits o.W o.S o.H d ep=true∧∃ p,OrNext w w' o s d ep p)))∨(clRight o.W o.S o.H d mt sn ep sq=true∧∃ p,v=.bool (decide (shL d ep sq mt (el p sq.toNat mt.toNat) p.W sn=lf) && decide (shW d ep sq mt (el p sq.toNat mt.toNat) p.W sn=ws) && decide (gPath p.d p.ep (ends p p.m) sq.toNat p.H=ps))∧OrNext w w' o s d ep p)):=by
  have hnlw:=hqw.le
  have hnlp:=hqp.le
  obtain ⟨wad,wcap,rfl,hwc,hwm⟩:=Rd.sl hqw
  obtain ⟨pad,pcap,rfl,hpc,hpm0⟩:=Rd.sl hqp
  refine fn_start (N:=38) Tryz.func57 rfl rfl rfl fun ac hk=>?_
  have hs:=St.start hk w
  refine wp_seq (wp_reg ?_)
  refine s_box hs rfl rfl rfl fun ac ww g4 hs=>?_
  refine s_box hs rfl rfl rfl fun ac ww g5 hs=>?_
  refine s_q hs (c_assign (hs.ev rfl)) rfl fun ac hs=>?_
  refine s_end ?_
  replace hs:=hs.sub (F':=[(0,_),(4,_),(5,_),(6,_)]) ⟨rfl,rfl,rfl,rfl,trivial⟩
  refine then_n (wp_seq (wp_reg ?_))
  refine s_q hs (c_move (hs.ev rfl)) rfl fun ac hs=>?_
  refine s_q hs (c_loadW ty61 ag61 (hs.ev rfl) (hs.seg (i:=1) rfl) (by rfl)) rfl fun ac hs=>?_
  cases hcr:clRight o.W o.S o.H d mt sn ep sq
  · have hfr1:=hs.fr
    refine s_callR hs fu97 (.cons (hs.ev rfl) (.cons (hs.ev rfl) .nil)) (tr_Cred o s d mt sn ep sq _ (hor.fr0 hs.fr) hkey) rfl fun ac ww v12 hf hp hs=>?_
    obtain ⟨rfl,hst⟩:=(hp.elim (fun h=>h.2) fun h=>absurd (hcr.symm.trans h.1) (by decide))
    have hfrA:=(Fr.mono hfr1 (fun _ _=>False.elim):Fr (OrM o s) _ _).trans hf fun _ _ h=>h
    refine s_q hs (c_move (hs.ev rfl)) rfl fun ac hs=>?_
    refine s_q hs (c_extract (hs.ev rfl) rfl) rfl fun ac hs=>?_
    refine s_q hs (c_extract (hs.ev rfl) rfl) rfl fun ac hs=>?_
    refine s_alloc hs ty56 rfl fun ac ww g7 hs=>?_
    refine s_storeW (i:=0) hs ty56 rfl rfl rfl (by rfl) (by rfl) rfl fun ww hs=>?_
    refine s_q hs (c_assign (hs.ev rfl)) rfl fun ac hs=>?_
    refine s_end ?_
    replace hs:=hs.sub (F':=[(5,_),(6,_),(7,_),(8,_)]) ⟨rfl,rfl,rfl,rfl,trivial⟩
    refine then_n (wp_seq (wp_reg ?_))
    refine s_q hs (c_move (hs.ev rfl)) rfl fun ac hs=>?_
    refine s_q hs (c_eqlI (hs.ev rfl) (hs.ev rfl)) rfl fun ac hs=>?_
    refine s_q hs (c_move (hs.ev rfl)) rfl fun ac hs=>?_
    refine s_no hs rfl rfl rfl rfl fun ac hs=>?_
    refine s_no hs rfl rfl rfl rfl fun ac hs=>?_
    refine s_no hs rfl rfl rfl rfl fun ac hs=>?_
    refine s_no hs rfl rfl rfl rfl fun ac hs=>?_
    refine s_no hs rfl rfl rfl rfl fun ac hs=>?_
    refine s_q hs (c_pick (hs.ev rfl) (hs.ev rfl) (hs.ev rfl)) rfl fun ac hs=>?_
    refine s_q hs (c_move (hs.ev rfl)) rfl fun ac hs=>?_
    refine s_no hs rfl rfl rfl rfl fun ac hs=>?_
    refine s_no hs rfl rfl rfl rfl fun ac hs=>?_
    refine s_no hs rfl rfl rfl rfl fun ac hs=>?_
    refine s_no hs rfl rfl rfl rfl fun ac hs=>?_
    refine s_no hs rfl rfl rfl rfl fun ac hs=>?_
    refine s_q hs (c_pick (hs.ev rfl) (hs.ev rfl) (hs.ev rfl)) rfl fun ac hs=>?_
    refine s_q hs (c_move (hs.ev rfl)) rfl fun ac hs=>?_
    refine s_no hs rfl rfl rfl rfl fun ac hs=>?_
    refine s_no hs rfl rfl rfl rfl fun ac hs=>?_
    refine s_no hs rfl rfl rfl rfl fun ac hs=>?_
    refine s_no hs rfl rfl rfl rfl fun ac hs=>?_
    refine s_no hs rfl rfl rfl rfl fun ac hs=>?_
    refine s_q hs (c_pick (hs.ev rfl) (hs.ev rfl) (hs.ev rfl)) rfl fun ac hs=>?_
    refine s_q hs (c_assign (hs.ev rfl)) rfl fun ac hs=>?_
    refine s_end ?_
    replace hs:=hs.sub (F':=[(6,_)]) ⟨rfl,trivial⟩
    refine then_n (wp_ret ?_)
    refine s_ret hs rfl (.tmp (hs.tmp rfl) .nil) rfl ⟨_,rfl,(hfrA.trans0 hs.fr),?_⟩
    refine .inl ⟨rfl,rfl,hst.imp (fun h=>⟨h.1,h.2.fr0 hs.fr⟩) fun h=>⟨h.1,?_⟩⟩
    obtain ⟨p,h2⟩:=h.2
    exact ⟨p,(h2.to (h2.at_.fr0 hs.fr)).back hfr1.size⟩
  · have hfr1:=hs.fr
    have hb5p:=hs.seg (i:=0) rfl
    refine s_callR hs fu97 (.cons (hs.ev rfl) (.cons (hs.ev rfl) .nil)) (tr_Cred o s d mt sn ep sq _ (hor.fr0 hs.fr) hkey) rfl fun ac ww v12 hf hp hs=>?_
    obtain ⟨p,wv2,pv2,rfl,hwv2,hpv2,hon⟩:=(hp.elim (fun h=>absurd (hcr.symm.trans h.1) (by decide)) fun h=>h.2)
    have hfrA:=(Fr.mono hfr1 (fun _ _=>False.elim):Fr (OrM o s) _ _).trans hf fun _ _ h=>h
    have hsl:(shL d ep sq mt (el p sq.toNat mt.toNat) p.W sn).length=16:=shL_length _ _ _ _ _ _ _
    have hwo:=hwv2.one
    have hpo:=hpv2.one
    have hb5:=keepO2 (hor.fr0 hfr1) hf hb5p
    obtain ⟨wad2,wcap2,rfl,hwc2,hwm2⟩:=Rd.sl hwv2
    obtain ⟨pad2,pcap2,rfl,hpc2,hpm2⟩:=Rd.sl hpv2
    have hsis:=(hon.at_.sp p rfl).1
    have hpm:sq.toNat < p.m:=by
      have h9:=(clRight_iff.1 hcr).2.2.2.2.2.2.1
      rw [← hsis.H,Int.toNat_natCast] at h9
      exact h9
    have hpl2:(gPath p.d p.ep (ends p p.m) sq.toNat p.H).length=p.H * 16:=gPath_length (ends_length p p.m) hpm p.H (Nat.le_refl _)
    have hwl2:(shW d ep sq mt (el p sq.toNat mt.toNat) p.W sn).length=(shN mt p.W sn) * 16:=shW_length _ _ _ _ _ _ _
    refine s_q hs (c_move (hs.ev rfl)) rfl fun ac hs=>?_
    refine s_q hs (c_extract (hs.ev rfl) rfl) rfl fun ac hs=>?_
    refine s_q hs (c_extract (hs.ev rfl) rfl) rfl fun ac hs=>?_
    refine s_alloc hs ty56 rfl fun ac ww g7 hs=>?_
    refine s_storeW (i:=0) hs ty56 rfl rfl rfl (by simp [hsl]) (by simp [Value.oneCell']) rfl fun ww hs=>?_
    refine s_q hs (c_assign (hs.ev rfl)) rfl fun ac hs=>?_
    refine s_end ?_
    replace hs:=hs.sub (F':=[(5,_),(6,_),(7,_),(8,_)]) ⟨rfl,rfl,rfl,rfl,trivial⟩
    refine then_n (wp_seq (wp_reg ?_))
    refine s_q hs (c_move (hs.ev rfl)) rfl fun ac hs=>?_
    refine s_q hs (c_eqlI (hs.ev rfl) (hs.ev rfl)) rfl fun ac hs=>?_
    refine s_q hs (c_move (hs.ev rfl)) rfl fun ac hs=>?_
    refine s_yes hs rfl rfl ?_
    refine s_q hs (c_fld fl56_0 (hs.ev rfl)) rfl fun ac hs=>?_
    refine s_yes hs rfl rfl ?_
    refine s_q hs (c_loadA ty36 rfl (hs.ev rfl) (hs.seg (i:=0) rfl) (cred_leaf hsl _ _) (show (List.map B (shL d ep sq mt (el p sq.toNat mt.toNat) p.W sn)).length=16 by rw [List.length_map,hsl])) rfl fun ac hs=>?_
    refine s_yes hs rfl rfl ?_
    refine s_q hs (c_fld fl56_0 (hs.ev rfl)) rfl fun ac hs=>?_
    refine s_yes hs rfl rfl ?_
    refine s_q hs (c_loadA ty36 rfl (hs.ev rfl) (hs.old hb5 id) (cred_leaf hlf _ _) (show (List.map B lf).length=16 by rw [List.length_map,hlf])) rfl fun ac hs=>?_
    refine s_yes hs rfl rfl ?_
    refine s_call hs fu93 (.cons (hs.ev rfl) (.cons (hs.ev rfl) .nil)) (mac_Same (shL d ep sq mt (el p sq.toNat mt.toNat) p.W sn) lf hsl hlf _) rfl fun ac ww v22 hf hp hs=>?_
    obtain rfl:=hp
    replace hs:=hs [] (.nil _ _)
    refine s_q hs (c_pick (hs.ev rfl) (hs.ev rfl) (hs.ev rfl)) rfl fun ac hs=>?_
    refine s_q hs (c_move (hs.ev rfl)) rfl fun ac hs=>?_
    refine s_g hs rfl rfl (fun hg=>c_fld fl56_1 (hs.ev rfl)) rfl fun ac hs=>?_
    refine s_g hs rfl rfl (fun hg=>c_loadS un39 rfl (gev (hs.ev rfl) hg) (hs.seg (i:=0) rfl) (cred_way hsl _ _)) rfl fun ac hs=>?_
    refine s_g hs rfl rfl (fun hg=>c_fld fl56_1 (hs.ev rfl)) rfl fun ac hs=>?_
    refine s_g hs rfl rfl (fun hg=>c_loadS un39 rfl (gev (hs.ev rfl) hg) (hs.old hb5 id) (cred_way hlf _ _)) rfl fun ac hs=>?_
    refine s_gcall hs rfl rfl fu98 (fun hg=>(.cons (gev (hs.ev rfl) hg) (.cons (gev (hs.ev rfl) hg) .nil))) (fun hg=>tr_sums (shN mt p.W sn) nw (shW d ep sq mt (el p sq.toNat mt.toNat) p.W sn) ws _ _ hwl2 hwl _ (hwv2.fr0 hs.fr) ((hqw.fr hfrA hfw).fr0 hs.fr)) rfl fun ac ww hf hs=>?_
    refine s_q hs (c_and (hs.ev rfl) (hs.ev rfl)) rfl fun ac hs=>?_
    refine s_q hs (c_move (hs.ev rfl)) rfl fun ac hs=>?_
    refine s_g hs rfl rfl (fun hg=>c_fld fl56_2 (hs.ev rfl)) rfl fun ac hs=>?_
    refine s_g hs rfl rfl (fun hg=>c_loadS un39 rfl (gev (hs.ev rfl) hg) (hs.seg (i:=0) rfl) (cred_path hsl _ _)) rfl fun ac hs=>?_
    refine s_g hs rfl rfl (fun hg=>c_fld fl56_2 (hs.ev rfl)) rfl fun ac hs=>?_
    refine s_g hs rfl rfl (fun hg=>c_loadS un39 rfl (gev (hs.ev rfl) hg) (hs.old hb5 id) (cred_path hlf _ _)) rfl fun ac hs=>?_
    refine s_gcall hs rfl rfl fu98 (fun hg=>(.cons (gev (hs.ev rfl) hg) (.cons (gev (hs.ev rfl) hg) .nil))) (fun hg=>tr_sums p.H np (gPath p.d p.ep (ends p p.m) sq.toNat p.H) ps _ _ hpl2 hpl _ (hpv2.fr0 hs.fr) ((hqp.fr hfrA hfp).fr0 hs.fr)) rfl fun ac ww hf hs=>?_
    refine s_q hs (c_and (hs.ev rfl) (hs.ev rfl)) rfl fun ac hs=>?_
    refine s_q hs (c_assign (hs.ev rfl)) rfl fun ac hs=>?_
    refine s_end ?_
    replace hs:=hs.sub (F':=[(6,_)]) ⟨rfl,trivial⟩
    refine then_n (wp_ret ?_)
    refine s_ret hs rfl (.tmp (hs.tmp rfl) .nil) rfl ⟨_,rfl,(hfrA.trans0 hs.fr),?_⟩
    exact .inr ⟨rfl,p,rfl,(hon.to (hon.at_.fr0 hs.fr)).back hfr1.size⟩
end Go.Proofs.YtklajbdbnnceiaaGreat
end

section
/- Regions that draw their order and hold one call that turns what was there,once: as Fw43,but that the call is known to find all as it was. -/
namespace Go.FwO
open Go
open Go.Fw hiding factsC factsE addC addE fresh DV Links factsC_src factsE_src RC Meets Ob RG Inv
open Go.FwK (FrK DV addC addE fresh factsC factsE factsC_src factsE_src Has.newK DV.ok_stable Links)
structure RC (Fk:World→World→Prop) (c:Nat) (N:Nat) (Fc:List (Nat × Value)) (Fe:Fes) (o:Oper) (B1:Nat) (w1:World) (a:Act) (w:World):Prop where
  know:Know N Fc a
  fr:Fk w1 w
  fr0:o.dst=some c→Fr0 w1 w
  ents:∀ n E,lookE Fe n=some E→(tmpsOf o).any (Nat.beq n)=true→∃ v L',a.tmps[n]?=some v∧E v L' w∧Has B1 w L'
def Meets {Fk:World→World→Prop} (c:Nat) (o:Oper) (D:DV Fk) (w:World) (v:Value) (w':World):Prop:=∃ L',D.ok v L' w'∧Fk w w'∧(o.dst ≠ some c→Fr0 w w')∧Has w.heap.size w' L'
def Ob {Fk:World→World→Prop} (c:Nat) (P:Program) (ops:Array Oper) (N:Nat) (B1:Nat) (w1:World) (Fc:List (Nat × Value)) (Fe:Fes) (o:Oper) (D:DV Fk):Prop :=
  ((wantedAs ops Fc o=some true∧∀ a w,RC Fk c N Fc Fe o B1 w1 a w→Yl P (Meets c o D w) ((execOp a.eval o).run P w))∨(wantedAs ops Fc o=some false∧D=.c undef)) ∧
  (needQ o=true→∃ v,∀ a w,RC Fk c N Fc Fe o B1 w1 a w→(execOp a.eval o).run P w=.ok (.value v) w)
def RG (Fk:World→World→Prop) (c:Nat) (P:Program) (ops:Array Oper) (N B1:Nat) (w1:World) (K:List (Nat × Value)→Fes→Prop):List (Nat × Value)→Fes→List Oper→Prop
  | Fc,Fe,[]=>K Fc Fe
  | Fc,Fe,o::rest=>∃ (d:Nat) (D:DV Fk),o.dst=some d∧Ob c P ops N B1 w1 Fc Fe o D∧fresh Fc Fe d D∧RG Fk c P ops N B1 w1 K (addC Fc d D) (addE Fe d D) rest
theorem RG.parts {Fk:World→World→Prop} {c:Nat} {P:Program} {opsA:Array Oper} {N B1:Nat} {w1:World} {K:List (Nat × Value)→Fes→Prop} (Fc0:List (Nat × Value)):∀ (rest pre:List Oper) (Ds:List (DV Fk)),pre.length=Ds.length →
    RG Fk c P opsA N B1 w1 K (factsC (pre++rest) Ds Fc0 pre.length) (factsE (pre++rest) Ds pre.length) rest →
    ∃ Ds':List (DV Fk),(Ds++Ds').length=(pre++rest).length∧K (factsC (pre++rest) (Ds++Ds') Fc0 (pre++rest).length) (factsE (pre++rest) (Ds++Ds') (pre++rest).length) ∧
      ∀ i o,pre.length≤i→(pre++rest)[i]?=some o→∃ (d:Nat) (D:DV Fk),o.dst=some d∧(Ds++Ds')[i]?=some D∧Ob c P opsA N B1 w1 (factsC (pre++rest) (Ds++Ds') Fc0 i) (factsE (pre++rest) (Ds++Ds') i) o D ∧
        fresh (factsC (pre++rest) (Ds++Ds') Fc0 i) (factsE (pre++rest) (Ds++Ds') i) d D
  | [],pre,Ds,hl,h=>by
    refine ⟨[],by simp [hl],?_,fun i o hi ho=>?_⟩
    · simpa [RG] using h
    · simp at ho
      have:=(List.getElem?_eq_some_iff.1 ho).1
      omega
  | o::rest,pre,Ds,hl,h=>by
    obtain ⟨d,D,hd,hob,hfr,hk⟩:=h
    have ext:∀ (X Y:List (DV Fk)) (i:Nat),i≤X.length→factsC (pre++o::rest) (X++Y) Fc0 i=factsC (pre++o::rest) X Fc0 i∧factsE (pre++o::rest) (X++Y) i=factsE (pre++o::rest) X i:=by
      intro X Y i
      induction i with
      | zero=>intro _; exact ⟨rfl,rfl⟩
      | succ i ih =>
        intro hi
        have h1:=ih (by omega)
        have h2:(X++Y)[i]?=X[i]?:=List.getElem?_append_left (by omega)
        simp only [factsC,factsE,h2,h1.1,h1.2]
        exact ⟨trivial,trivial⟩
    have hget:(pre++o::rest)[pre.length]?=some o:=by simp
    have e1:=ext Ds [D] pre.length (by omega)
    have hDget:(Ds++[D])[pre.length]?=some D:=by rw [hl]; simp
    have hc:factsC (pre++o::rest) (Ds++[D]) Fc0 (pre.length + 1)=addC (factsC (pre++o::rest) Ds Fc0 pre.length) d D:=by
      simp only [factsC,hget,hDget,hd,e1.1]
    have he:factsE (pre++o::rest) (Ds++[D]) (pre.length + 1)=addE (factsE (pre++o::rest) Ds pre.length) d D:=by
      simp only [factsE,hget,hDget,hd,e1.2]
    have heq:pre++o::rest=(pre++[o])++rest:=by simp
    have hk':RG Fk c P opsA N B1 w1 K (factsC ((pre++[o])++rest) (Ds++[D]) Fc0 (pre++[o]).length) (factsE ((pre++[o])++rest) (Ds++[D]) (pre++[o]).length) rest:=by
      rw [← heq,show (pre++[o]).length=pre.length + 1 by simp,hc,he]
      exact hk
    obtain ⟨Ds',hl',hK',hall⟩:=RG.parts Fc0 rest (pre++[o]) (Ds++[D]) (by simp [hl]) hk'
    rw [← heq] at hl' hK' hall
    rw [List.append_assoc] at hl' hK' hall
    refine ⟨[D]++Ds',hl',hK',fun i o' hi ho'=>?_⟩
    by_cases hip:i=pre.length
    · subst hip
      rw [hget] at ho'
      obtain rfl:=Option.some.inj ho'
      have e2:=ext Ds ([D]++Ds') pre.length (by omega)
      refine ⟨d,D,hd,?_,?_,?_⟩
      · rw [List.getElem?_append_right (by omega)]
        simp [hl]
      · rw [e2.1,e2.2]; exact hob
      · rw [e2.1,e2.2]; exact hfr
    · exact hall i o' (by simp; omega) ho'
section
variable {c:Nat} {P:Program} {l:List Oper} {n N B1:Nat} {w1:World} {Fc0:List (Nat × Value)} {Fk:World→World→Prop} {Ds:List (DV Fk)} {Q:Exit→Act→World→Prop} {late:List Nat}
/-! the head: any order -/
structure Inv {Fk:World→World→Prop} (c:Nat) (l:List Oper) (n N B1:Nat) (w1:World) (Fc0:List (Nat × Value)) (Ds:List (DV Fk)) (vals:Nat→Value) (ents:Nat→List Ent) (listed:Array Bool) (a:Act) (w:World):Prop where
  size:listed.size=l.length
  know:a.tmps.size=N∧a.defers=[]
  done:∀ j d D,j < n→listed.getD j false=true→dstAt l.toArray j=some d→Ds[j]?=some D→a.tmps[d]?=some (vals j)∧D.ok (vals j) (ents j) w
  base:∀ s v,Fw.look Fc0 s=some v→(∀ j,j < n→listed.getD j false=true→dstAt l.toArray j ≠ some s)→a.tmps[s]?=some v
  has:Has B1 w ((List.range n).flatMap fun j=>if listed.getD j false=true then ents j else [])
  fr:Fk w1 w
  fr0:(∀ j,j < n→listed.getD j false=true→dstAt l.toArray j ≠ some c)→Fr0 w1 w
  tail:∀ t,n≤t→listed.getD t false=false
  closed:∀ j o,l[j]?=some o→listed.getD j false=true→∀ e∈o.after,Region.binds .any e=true→listed.getD e.on false=true
  links:∀ j o s,j < n→l[j]?=some o→listed.getD j false=true→opnd o=some s→safeB l.toArray n j s=true→LinkV o (a.tmps.getD s undef) (vals j)
theorem Inv.step0 (hF:FrK Fk B1) {vals:Nat→Value} {ents:Nat→List Ent} {listed:Array Bool} {a:Act} {w:World} {i:Nat} {o:Oper} (hok:RgOk l.toArray n late) (hl:Ds.length=n)
    (hparts:∀ i o,i < n→l[i]?=some o→∃ (d:Nat) (D:DV Fk),o.dst=some d∧Ds[i]?=some D∧Ob c P l.toArray N B1 w1 (factsC (l.take n) Ds Fc0 i) (factsE (l.take n) Ds i) o D∧fresh (factsC (l.take n) Ds Fc0 i) (factsE (l.take n) Ds i) d D)
    (hN:∀ i o d,i < n→l[i]?=some o→o.dst=some d→d < N) (hB:B1≤w1.heap.size)
    (inv:Inv c l n N B1 w1 Fc0 Ds vals ents listed a w) (hi:i < n) (hr:i∈Region.ready .any l.toArray listed)
    (hol:l[i]?=some o) :
    (Region.wanted o (yielded l.toArray a.tmps)=true∧Yl P (fun v w'=>∃ L',Inv c l n N B1 w1 Fc0 Ds (fun j=>if j=i then v else vals j) (fun j=>if j=i then L' else ents j) (listed.setIfInBounds i true) (a.put o.dst v) w') ((execOp a.eval o).run P w)∧(needQ o=true→∃ v,(execOp a.eval o).run P w=.ok (.value v) w)) ∨
    (Region.wanted o (yielded l.toArray a.tmps)=false∧Inv c l n N B1 w1 Fc0 Ds (fun j=>if j=i then undef else vals j) (fun j=>if j=i then [] else ents j) (listed.setIfInBounds i true) (a.put o.dst undef) w):=by
  obtain ⟨hun,o',ho,hall⟩:=mem_ready.1 hr
  have hil:i < l.length:=by have:=hok.le; simp at this; omega
  have hol':l[i]?=some o':=by simpa using ho
  rw [hol] at hol'
  obtain rfl:=Option.some.inj hol'
  have hunf:listed.getD i false=false:=by rw [← getD_both_iff (by rw [inv.size]; exact hil)]; exact hun
  obtain ⟨d,D,hd,hD,hob,hfr⟩:=hparts i o hi hol
  have hdi:dstAt l.toArray i=some d:=by simp [dstAt,hol,hd]
  -- the slots, as the text has them
  have hds:∃ ds:Nat→Nat,∀ j,j < n→dstAt l.toArray j=some (ds j):=by
    refine ⟨fun j=>(dstAt l.toArray j).getD 0,fun j hj=>?_⟩
    have hjl:j < l.length:=by have:=hok.le; simp at this; omega
    obtain ⟨d',hd'⟩:=hok.dst j l[j] (by simp [hjl]) hj
    simp [dstAt,hjl,hd']
  obtain ⟨ds,hds⟩:=hds
  have htake:(l.take n).length=n:=by have:=hok.le; simp at this; simp [this]
  have hds':∀ j o,(l.take n)[j]?=some o→o.dst=some (ds j):=by
    intro j o' hj
    have hjn:j < n:=by have:=(List.getElem?_eq_some_iff.1 hj).1; omega
    rw [List.getElem?_take_of_lt hjn] at hj
    have:=hds j hjn
    simpa [dstAt,hj] using this
  have hfr':∀ j o D,(l.take n)[j]?=some o→Ds[j]?=some D→fresh (factsC (l.take n) Ds Fc0 j) (factsE (l.take n) Ds j) (ds j) D:=by
    intro j o' D' hj hDj
    have hjn:j < n:=by have:=(List.getElem?_eq_some_iff.1 hj).1; omega
    have hj':=hj
    rw [List.getElem?_take_of_lt hjn] at hj'
    obtain ⟨d2,D2,h1,h2,_,h4⟩:=hparts j o' hjn hj'
    rw [hDj] at h2
    obtain rfl:=Option.some.inj h2
    have:=hds' j o' hj
    rw [h1] at this
    obtain rfl:=Option.some.inj this
    exact h4
  have listed_of:∀ j s,j < n→j ≠ i→s∈looks l.toArray o→dstAt l.toArray j=some s→(j < i∧listed.getD j false=true)∨(i < j∧listed.getD j false=false):=by
    intro j s hj hne hs hdj
    rcases hok.use i o s j ho hi hs hj hne hdj with ⟨h1,h2⟩ | ⟨h1,oj,h2,h3⟩
    · obtain ⟨e,he,hb,hon⟩:=waits_spec h2
      exact .inl ⟨h1,hon ▸ hall e he hb⟩
    · refine .inr ⟨h1,?_⟩
      obtain ⟨e,he,hb,hon⟩:=waits_spec h3
      cases hj2:listed.getD j false with
      | false=>rfl
      | true =>
        have:=inv.closed j oj (by simpa using h2) hj2 e he hb
        rw [hon,hunf] at this
        cases this
  have valueC:∀ s v,s∈looks l.toArray o→Fw.look (factsC (l.take n) Ds Fc0 i) s=some v→a.tmps[s]?=some v:=by
    intro s v hs hv
    rcases factsC_src (Fc0:=Fc0) hds' (by rw [hl,htake]) hfr' i (by omega) s v hv with ⟨j,hj,h1,h2⟩ | ⟨h1,h2⟩
    · have hjn:j < n:=by omega
      rcases listed_of j s hjn (by omega) hs (by rw [hds j hjn,h1]) with ⟨_,h3⟩ | ⟨h3,_⟩
      · obtain ⟨h4,h5⟩:=inv.done j s _ hjn h3 (by rw [hds j hjn,h1]) h2
        rw [h4,h5.1]
      · omega
    · refine inv.base s v h1 fun j hjn hj2 hdj=>?_
      by_cases hji:j=i
      · subst hji; rw [hunf] at hj2; cases hj2
      · rcases listed_of j s hjn hji hs hdj with ⟨h3,_⟩ | ⟨_,h3⟩
        · rw [hds j hjn] at hdj
          exact h2 j h3 (Option.some.inj hdj)
        · rw [h3] at hj2; cases hj2
  have hwant:∀ b,wantedAs l.toArray (factsC (l.take n) Ds Fc0 i) o=some b→Region.wanted o (yielded l.toArray a.tmps)=b:=by
    intro b hb
    unfold wantedAs at hb
    unfold Region.wanted
    cases hg:o.guard with
    | none=>rw [hg] at hb; simpa using hb
    | some gw =>
      obtain ⟨j,wt⟩:=gw
      rw [hg] at hb
      dsimp only at hb ⊢
      cases hs:(l.toArray[j]?).bind (·.dst) with
      | none=>rw [hs] at hb; simp at hb
      | some s =>
        rw [hs] at hb
        simp only [Option.bind_some] at hb
        cases hv:Fw.look (factsC (l.take n) Ds Fc0 i) s with
        | none=>rw [hv] at hb; simp at hb
        | some v =>
          rw [hv] at hb
          have h5:=valueC s _ (List.mem_append_right _ (by rw [hg]; dsimp only; rw [hs]; simp)) hv
          unfold yielded
          rw [hs]
          simp only [Option.bind_some,h5]
          cases v with
          | bool c =>
            simp at hb
            rw [← hb]
            cases c <;> cases wt <;> rfl
          | _ =>
            simp at hb
            subst hb
            rfl
  have next:∀ v L' w',D.ok v L' w'→Fk w w'→(o.dst ≠ some c→Fr0 w w')→Has w.heap.size w' L'→(∀ s,opnd o=some s→LinkV o (a.tmps.getD s undef) v)→Inv c l n N B1 w1 Fc0 Ds (fun j=>if j=i then v else vals j) (fun j=>if j=i then L' else ents j) (listed.setIfInBounds i true) (a.put (some d) v) w':=by
    intro v L' w' hv hf hf0 hn hlk
    have hdN:=hN i o d hi hol hd
    refine ⟨by simpa using inv.size,⟨by simpa [Act.put] using inv.know.1,inv.know.2⟩,fun j dj Dj hj hlj hdj hDj=>?_,fun s u hu hne=>?_,?_,hF.trans inv.fr hf,fun hx=>(inv.fr0 fun j hj hlj=>hx j hj (by rw [getD_set_ne false (show i ≠ j from fun e=>by subst e; rw [hunf] at hlj; cases hlj)]; exact hlj)).trans0 (hf0 fun e=>hx i hi (by simp [show i < listed.size by rw [inv.size]; exact hil]) (hdi.trans (hd.symm.trans e))),fun t ht=>?_,fun j oj hj hlj e he hb=>?_,fun j oj s hj hlj hlst hos hsf=>?_⟩
    · by_cases hji:j=i
      · subst hji
        rw [hdi] at hdj
        obtain rfl:=Option.some.inj hdj
        rw [hD] at hDj
        obtain rfl:=Option.some.inj hDj
        refine ⟨?_,by simpa using hv⟩
        simp [Act.put,inv.know.1,hdN]
      · rw [getD_set_ne false (Ne.symm hji)] at hlj
        obtain ⟨h1,h2⟩:=inv.done j dj Dj hj hlj hdj hDj
        have hne:d ≠ dj:=fun e=>hji (hok.uniq j i d hj hi (by rw [hdj,e]) hdi)
        refine ⟨?_,by simpa [hji] using DV.ok_stable hf h2⟩
        simp only [Act.put,if_neg hji]
        rw [Array.getElem?_setIfInBounds,if_neg hne]
        exact h1
    · have hsd:d ≠ s:=fun e=>hne i hi (by simp [show i < listed.size by rw [inv.size]; exact hil]) (by rw [hdi,e])
      simp only [Act.put]
      rw [Array.getElem?_setIfInBounds,if_neg hsd]
      refine inv.base s u hu fun j hj hlj=>?_
      by_cases hji:j=i
      · subst hji; rw [hunf] at hlj; cases hlj
      · exact hne j hj (by rw [getD_set_ne false (Ne.symm hji)]; exact hlj)
    · have hp:=flatMap_set_perm (fun j=>if listed.getD j false=true then ents j else []) (fun j=>if (listed.setIfInBounds i true).getD j false=true then (if j=i then L' else ents j) else []) i L'
        (by simp only [hunf]; simp) (by simp [show i < listed.size by rw [inv.size]; exact hil]) (fun j hji=>by simp only [getD_set_ne false (Ne.symm hji),if_neg hji]) (List.range n) List.nodup_range (List.mem_range.2 hi)
      exact (Has.newK (hF.has inv.has hf) inv.has (Nat.le_trans hB (hF.size inv.fr)) hn).perm hp
    · rw [getD_set_ne false (by omega)]
      exact inv.tail t ht
    · by_cases hji:j=i
      · subst hji
        rw [hol] at hj
        obtain rfl:=Option.some.inj hj
        have hlt:=hok.back j o ho e he hb
        rw [getD_set_ne false (by omega)]
        exact hall e he hb
      · rw [getD_set_ne false (Ne.symm hji)] at hlj
        have h9:=inv.closed j oj hj hlj e he hb
        by_cases hei:i=e.on
        · rw [← hei,hunf] at h9; cases h9
        · rw [getD_set_ne false hei]; exact h9
    · have hsi:d=s→i < j:=fun e=>by
        have h1:=List.all_eq_true.1 hsf i (List.mem_range.2 hi)
        rw [hdi,e] at h1
        simpa [Nat.blt_eq] using h1
      by_cases hji:j=i
      · subst hji
        rw [hol] at hlj
        obtain rfl:=Option.some.inj hlj
        have hne:d ≠ s:=fun e=>absurd (hsi e) (by omega)
        rw [getD_put hne]
        simpa using hlk s hos
      · rw [getD_set_ne false (Ne.symm hji)] at hlst
        have hne:d ≠ s:=fun e=>by
          have hlt:=hsi e
          rcases hok.use j oj s i (by simpa using hlj) hj (opnd_looks hos) hi (Ne.symm hji) (by rw [hdi,e]) with ⟨_,h2⟩ | ⟨h2,_⟩
          · obtain ⟨e2,he2,hb2,hon⟩:=waits_spec h2
            have:=inv.closed j oj hlj hlst e2 he2 hb2
            rw [hon,hunf] at this
            cases this
          · omega
        rw [getD_put hne]
        simp only [if_neg hji]
        exact inv.links j oj s hj hlj hlst hos hsf
  obtain ⟨hob,hqt⟩:=hob
  rcases hob with ⟨hw,hy⟩ | ⟨hw,rfl⟩
  · refine .inl ⟨hwant true hw,?_⟩
    -- a frame that has the text's facts, and that the operation cannot tell from this one
    obtain ⟨a',hsz,hdf,ha1,ha2⟩:∃ a':Act,a'.tmps.size=N∧a'.defers=[]∧(∀ s v,Fw.look (factsC (l.take n) Ds Fc0 i) s=some v→a'.tmps[s]?=some v)∧(∀ s,s∈tmpsOf o→a'.tmps[s]?=a.tmps[s]?):=by
      have hlk:∀ s v,Fw.look (factsC (l.take n) Ds Fc0 i) s=some v→s < N:=by
        intro s v hv
        rcases factsC_src (Fc0:=Fc0) hds' (by rw [hl,htake]) hfr' i (by omega) s v hv with ⟨j,hj,h1,h2⟩ | ⟨h1,h2⟩
        · have hjl:j < l.length:=by omega
          exact hN j l[j] s (by omega) (by simp [hjl]) (by have:=hds j (by omega); rw [h1] at this; simpa [dstAt,hjl] using this)
        · by_cases hex:∃ j,j < n∧dstAt l.toArray j=some s
          · obtain ⟨j,hj,hdj⟩:=hex
            have hjl:j < l.length:=by have:=hok.le; simp at this; omega
            exact hN j l[j] s hj (by simp [hjl]) (by simpa [dstAt,hjl] using hdj)
          · have:=inv.base s v h1 (fun j hj _ hdj=>hex ⟨j,hj,hdj⟩)
            have:=(Array.getElem?_eq_some_iff.1 this).1
            rw [inv.know.1] at this
            exact this
      refine ⟨⟨Array.ofFn (n:=N) fun s=>if (tmpsOf o).any (Nat.beq s.1)=true then a.tmps.getD s.1 undef else (Fw.look (factsC (l.take n) Ds Fc0 i) s.1).getD (a.tmps.getD s.1 undef),[]⟩,by simp,rfl,fun s v hv=>?_,fun s hs=>?_⟩
      · have hsN:=hlk s v hv
        simp only [Array.getElem?_ofFn,hsN,dif_pos]
        by_cases hu:(tmpsOf o).any (Nat.beq s)=true
        · rw [if_pos hu]
          have hmem:s∈tmpsOf o:=by
            obtain ⟨x,hx,hb⟩:=List.any_eq_true.1 hu
            rw [Nat.eq_of_beq_eq_true hb]; exact hx
          have:=valueC s v (List.mem_append_left _ hmem) hv
          simp [this]
        · rw [if_neg hu,hv]; rfl
      · have hu:(tmpsOf o).any (Nat.beq s)=true:=List.any_eq_true.2 ⟨s,hs,by simp⟩
        by_cases hsN:s < N
        · simp only [Array.getElem?_ofFn,hsN,dif_pos]
          rw [if_pos hu]
          have:s < a.tmps.size:=by rw [inv.know.1]; exact hsN
          simp [this]
        · simp only [Array.getElem?_ofFn,hsN]
          rw [Array.getElem?_eq_none (by rw [inv.know.1]; omega)]
          simp
    have hev:execOp a.eval o=execOp a'.eval o:=by
      refine execOp_congr o (not_select (hok.sel i o ho)) fun x hx=>?_
      cases x with
      | tmp s =>
        have:=ha2 s (mem_tmpsOf hx)
        simp only [Act.eval,Array.getD_eq_getD_getElem?,this]
      | _=>rfl
    have hrc:RC Fk c N (factsC (l.take n) Ds Fc0 i) (factsE (l.take n) Ds i) o B1 w1 a' w:=by
      refine ⟨⟨hsz,hdf,ha1⟩,inv.fr,fun e=>inv.fr0 fun j hj hlj hdj=>(by
        have hji:=hok.uniq j i d hj hi (hdj.trans (e.symm.trans hd)) hdi
        subst hji
        rw [hunf] at hlj
        cases hlj),fun s E hE hu=>?_⟩
      have hmem:s∈tmpsOf o:=by
        obtain ⟨x,hx,hb⟩:=List.any_eq_true.1 hu
        rw [Nat.eq_of_beq_eq_true hb]; exact hx
      obtain ⟨j,hj,h1,_,h2⟩:=factsE_src hds' (by rw [hl,htake]) i (by omega) s E hE
      have hjn:j < n:=by omega
      rcases listed_of j s hjn (by omega) (List.mem_append_left _ hmem) (by rw [hds j hjn,h1]) with ⟨_,h3⟩ | ⟨h3,_⟩
      · obtain ⟨h4,h5⟩:=inv.done j s _ hjn h3 (by rw [hds j hjn,h1]) h2
        have hsub:=sublist_flatMap (fun j=>if listed.getD j false=true then ents j else []) j (List.range n) (List.mem_range.2 hjn)
        simp only [h3,if_true] at hsub
        exact ⟨vals j,ents j,by rw [ha2 s hmem]; exact h4,h5,inv.has.pick hsub⟩
      · omega
    have hyl:=hy a' w hrc
    rw [← hev] at hyl
    have hyl2:Yl P (fun v w'=>Meets c o D w v w'∧∀ s,opnd o=some s→LinkV o (a.tmps.getD s undef) v) ((execOp a.eval o).run P w):=by
      cases ho2:opnd o with
      | none=>exact hyl.mono fun v w' h=>⟨h,fun s hs=>by cases hs⟩
      | some s=>exact (yl_link ho2 hyl).mono fun v w' h=>⟨h.1,fun s' hs'=>by cases hs'; exact h.2⟩
    exact ⟨hyl2.mono fun v w' ⟨⟨L',h1,h2,h20,h3⟩,h4⟩=>⟨L',by rw [hd]; exact next v L' w' h1 h2 h20 h3 h4⟩,fun hq=>by
      obtain ⟨v,hv⟩:=hqt hq
      exact ⟨v,by rw [hev]; exact hv a' w hrc⟩⟩
  · refine .inr ⟨hwant false hw,?_⟩
    rw [hd]
    exact next undef [] w ⟨rfl,rfl⟩ (hF.of0 (.refl _ _)) (fun _=>.refl _ _) (.nil _ _) fun s hs=>by
      unfold wantedAs at hw
      rw [opnd_guard hs] at hw
      cases hw
theorem Inv.step (hF:FrK Fk B1) {vals:Nat→Value} {ents:Nat→List Ent} {listed:Array Bool} {a:Act} {w:World} {i:Nat} {K:Act→World→Prop} (hok:RgOk l.toArray n late) (hl:Ds.length=n)
    (hparts:∀ i o,i < n→l[i]?=some o→∃ (d:Nat) (D:DV Fk),o.dst=some d∧Ds[i]?=some D∧Ob c P l.toArray N B1 w1 (factsC (l.take n) Ds Fc0 i) (factsE (l.take n) Ds i) o D∧fresh (factsC (l.take n) Ds Fc0 i) (factsE (l.take n) Ds i) d D)
    (hN:∀ i o d,i < n→l[i]?=some o→o.dst=some d→d < N) (hB:B1≤w1.heap.size)
    (inv:Inv c l n N B1 w1 Fc0 Ds vals ents listed a w) (hi:i < n) (hr:i∈Region.ready .any l.toArray listed)
    (k:∀ v L' a' w',Inv c l n N B1 w1 Fc0 Ds (fun j=>if j=i then v else vals j) (fun j=>if j=i then L' else ents j) (listed.setIfInBounds i true) a' w'→K a' w'):wpOp P l.toArray Q i K a w:=by
  obtain ⟨hun,o,ho,hall⟩:=mem_ready.1 hr
  have hol:l[i]?=some o:=by simpa using ho
  unfold wpOp
  rw [ho]
  dsimp only
  rcases inv.step0 hF hok hl hparts hN hB hi hr hol with ⟨hw,hy,_⟩ | ⟨hw,h⟩
  · rw [if_pos hw]
    left
    exact wp_of_yl hy fun v w' ⟨L',h⟩=>k v L' _ _ h
  · rw [hw]
    simp only [Bool.false_eq_true,if_false]
    exact k undef [] _ _ h
end
section
variable {c:Nat} {P:Program} {l:List Oper} {n N B1:Nat} {w1:World} {Fc0:List (Nat × Value)} {Fk:World→World→Prop} {Ds:List (DV Fk)} {Q:Exit→Act→World→Prop} {late:List Nat}
theorem wpAny_head (hF:FrK Fk B1) (hok:RgOk l.toArray n []) (hl:Ds.length=n)
    (hparts:∀ i o,i < n→l[i]?=some o→∃ (d:Nat) (D:DV Fk),o.dst=some d∧Ds[i]?=some D∧Ob c P l.toArray N B1 w1 (factsC (l.take n) Ds Fc0 i) (factsE (l.take n) Ds i) o D∧fresh (factsC (l.take n) Ds Fc0 i) (factsE (l.take n) Ds i) d D)
    (hN:∀ i o d,i < n→l[i]?=some o→o.dst=some d→d < N) (hB:B1≤w1.heap.size)
    (fin:∀ vals ents listed a w,Inv c l n N B1 w1 Fc0 Ds vals ents listed a w→(∀ j,j < n→listed.getD j false=true)→wpList P l.toArray Q (l.drop n) a w) :
    ∀ (m:Nat) (U:List Nat) (vals:Nat→Value) (ents:Nat→List Ent) (listed:Array Bool) (a:Act) (w:World),U.length=m→U.Nodup→(∀ j,j∈U ↔ j < l.length∧listed.getD j false=false) →
      Inv c l n N B1 w1 Fc0 Ds vals ents listed a w→wpAny P .any l.toArray Q m listed a w:=by
  intro m
  induction m with
  | zero =>
    intro U vals ents listed a w hU hnd hmem inv
    have hU0:U=[]:=List.eq_nil_of_length_eq_zero hU
    subst hU0
    have hall:∀ j,j < l.length→listed.getD j false=true:=fun j hj=>by
      cases hx:listed.getD j false with
      | true=>rfl
      | false=>have:=(hmem j).2 ⟨hj,hx⟩; simp at this
    have hn:n=l.length:=by
      have h1:=hok.le
      simp at h1
      by_cases e:n < l.length
      · have:=inv.tail n (Nat.le_refl _); rw [hall n e] at this; cases this
      · omega
    have h:=fin vals ents listed a w inv (fun j hj=>hall j (by omega))
    refine wpAny_tail hok 0 l.length listed a w (by omega) (by omega) inv.size (fun j hj=>?_) (by rw [← hn]; exact h)
    rw [getD_both_iff (by rw [inv.size]; exact hj),hall j hj]
    simp [hj]
  | succ m ih =>
    intro U vals ents listed a w hU hnd hmem inv
    by_cases hall:∀ j,j < n→listed.getD j false=true
    · have h:=fin vals ents listed a w inv hall
      have hle:=hok.le
      simp at hle
      have hcount:m + 1=l.length - n:=by
        rw [← hU]
        have:U.Perm ((List.range (l.length - n)).map (· + n)):=by
          refine (List.perm_ext_iff_of_nodup hnd ?_).2 fun j=>?_
          · exact List.Pairwise.map (R:=(· ≠ ·)) (S:=(· ≠ ·)) (· + n) (fun x y h=>by simp; exact h) List.nodup_range
          · rw [hmem]
            simp only [List.mem_map,List.mem_range]
            constructor
            · rintro ⟨h1,h2⟩
              refine ⟨j - n,?_,?_⟩
              · by_cases e:j < n
                · rw [hall j e] at h2; cases h2
                · omega
              · by_cases e:j < n
                · rw [hall j e] at h2; cases h2
                · omega
            · rintro ⟨x,h1,rfl⟩
              exact ⟨by omega,inv.tail _ (by omega)⟩
        rw [this.length_eq]; simp
      refine wpAny_tail hok (m + 1) n listed a w (by omega) (Nat.le_refl _) inv.size (fun j hj=>?_) h
      rw [getD_both_iff (by rw [inv.size]; exact hj)]
      by_cases e:j < n
      · rw [hall j e]; simp [e]
      · rw [inv.tail j (by omega)]; simp [e]
    · obtain ⟨j0,hj0,hl0⟩:∃ j,j < n∧listed.getD j false=false:=by
        apply Classical.byContradiction
        intro hn
        apply hall
        intro j hj
        cases hx:listed.getD j false with
        | true=>rfl
        | false=>exact absurd ⟨j,hj,hx⟩ hn
      have hle:=hok.le
      simp at hle
      refine ⟨fun h0=>?_,fun i hi=>?_⟩
      · obtain ⟨i,hi⟩:=exists_ready hok inv.size j0 (by omega) hl0
        rw [h0] at hi; cases hi
      · have hin:i < n:=by
          apply Classical.byContradiction
          intro hge
          obtain ⟨_,o,ho,hall2⟩:=mem_ready.1 hi
          have key:=anc_closed (ops:=l.toArray) (S:=fun j=>listed.getD j false=true) (fun i' o' hi' hs' e he hb=>inv.closed i' o' (by simpa using hi') hs' e he hb) 24 o j0 (fun e he hb=>hall2 e he hb) ((hok.tail i o ho (by omega) j0 (by omega)).resolve_left fun h=>by cases h)
          rw [hl0] at key
          cases key
        have hil:i < l.length:=by omega
        have hiU:i∈U:=(hmem i).2 ⟨hil,by
          have h1:=(mem_ready.1 hi).1
          rw [getD_both_iff (by rw [inv.size]; exact hil)] at h1
          exact h1⟩
        refine inv.step hF hok hl hparts hN hB hin hi fun v L' a' w' inv'=>?_
        refine ih (U.erase i) _ _ _ _ _ ?_ (hnd.erase i) (fun j=>?_) inv'
        · rw [List.length_erase_of_mem hiU,hU]; simp
        · rw [hnd.mem_erase_iff,hmem]
          by_cases e:j=i
          · subst e
            simp [show j < listed.size by rw [inv.size]; exact hil]
          · rw [getD_set_ne false (Ne.symm e)]
            simp [e]
theorem RG.mono {Fk:World→World→Prop} {c:Nat} {P:Program} {ops:Array Oper} {K K':List (Nat × Value)→Fes→Prop} (hm:∀ Fc Fe,K Fc Fe→K' Fc Fe):∀ (rest:List Oper) (Fc:List (Nat × Value)) (Fe:Fes),RG Fk c P ops N B1 w1 K Fc Fe rest→RG Fk c P ops N B1 w1 K' Fc Fe rest
  | [],Fc,Fe,h=>hm Fc Fe h
  | o::rest,Fc,Fe,⟨d,D,h1,h2,h3,h4⟩=>⟨d,D,h1,h2,h3,RG.mono hm rest _ _ h4⟩
theorem any_rgO {F:List (Nat × Value)} {w:World} {a:Act} (hF:FrK Fk w.heap.size) (n:Nat) (hB:rgB l.toArray n=true) (hd:dstB (l.take n) N=true) (hs:Know N F a)
    (h:RG Fk c P l.toArray N w.heap.size w (fun Fc Fe=>∀ a' w' L',Fk w w'→FeOk Fe a' w' L'→Know N Fc a'→Has w.heap.size w' L'→Links l n a'→wpList P l.toArray Q (l.drop n) a' w') F [] (l.take n)) :
    RegAny P Q l a w:=by
  have hok:RgOk l.toArray n []:=rgB_spec hB
  have hle:=hok.le
  simp at hle
  have htl:(l.take n).length=n:=by simp [hle]
  obtain ⟨Ds,hlen,hK,hparts⟩:=RG.parts F (l.take n) [] [] rfl h
  simp only [List.nil_append,htl] at hlen hK hparts
  have hget:∀ i o,i < n→l[i]?=some o→(l.take n)[i]?=some o:=fun i o hi ho=>by rw [List.getElem?_take_of_lt hi]; exact ho
  have hparts':∀ i o,i < n→l[i]?=some o→∃ (d:Nat) (D:DV Fk),o.dst=some d∧Ds[i]?=some D∧Ob c P l.toArray N w.heap.size w (factsC (l.take n) Ds F i) (factsE (l.take n) Ds i) o D∧fresh (factsC (l.take n) Ds F i) (factsE (l.take n) Ds i) d D :=
    fun i o hi ho=>hparts i o (by simp) (hget i o hi ho)
  have hN:∀ i o d,i < n→l[i]?=some o→o.dst=some d→d < N:=fun i o d hi ho hod=>by
    have:=List.all_eq_true.1 hd o (List.mem_of_getElem? (hget i o hi ho))
    rw [hod] at this
    exact lt_of_blt this
  unfold RegAny
  have hdr:Fk w { w with drawn:=w.drawn + 1 }:=hF.of0 (Fr.drew w)
  have hU:((List.range l.length).length=l.toArray.size):=by simp
  refine wpAny_head hF (w1:=w) (B1:=w.heap.size) (Ds:=Ds) (Fc0:=F) hok (by omega) hparts' hN (Nat.le_refl _) ?_ _ (List.range l.length) (fun _=>undef) (fun _=>[]) _ _ _ hU List.nodup_range ?_ ?_
  · intro vals ents listed a' w' inv hall
    have hds:∃ ds:Nat→Nat,∀ j o,(l.take n)[j]?=some o→o.dst=some (ds j):=by
      refine ⟨fun j=>(dstAt l.toArray j).getD 0,fun j o hj=>?_⟩
      have hjn:j < n:=by have:=(List.getElem?_eq_some_iff.1 hj).1; omega
      rw [List.getElem?_take_of_lt hjn] at hj
      obtain ⟨d',hd'⟩:=hok.dst j o (by simpa using hj) hjn
      simp [dstAt,hj,hd']
    obtain ⟨ds,hds⟩:=hds
    have hdsA:∀ j,j < n→dstAt l.toArray j=some (ds j):=fun j hj=>by
      have hjl:j < l.length:=by omega
      have:=hds j l[j] (by rw [List.getElem?_take_of_lt hj]; simp [hjl])
      simp [dstAt,hjl,this]
    have hfr':∀ j o D,(l.take n)[j]?=some o→Ds[j]?=some D→fresh (factsC (l.take n) Ds F j) (factsE (l.take n) Ds j) (ds j) D:=by
      intro j o' D' hj hDj
      have hjn:j < n:=by have:=(List.getElem?_eq_some_iff.1 hj).1; omega
      have hj':=hj
      rw [List.getElem?_take_of_lt hjn] at hj'
      obtain ⟨d2,D2,h1,h2,_,h4⟩:=hparts' j o' hjn hj'
      rw [hDj] at h2
      obtain rfl:=Option.some.inj h2
      have:=hds j o' hj
      rw [h1] at this
      obtain rfl:=Option.some.inj this
      exact h4
    have hknow:Know N (factsC (l.take n) Ds F n) a':=by
      refine ⟨inv.know.1,inv.know.2,fun s v hv=>?_⟩
      rcases factsC_src (Fc0:=F) hds (by omega) hfr' n (by omega) s v hv with ⟨j,hj,h1,h2⟩ | ⟨h1,h2⟩
      · obtain ⟨h4,h5⟩:=inv.done j s _ hj (hall j hj) (by rw [hdsA j hj,h1]) h2
        rw [h4,h5.1]
      · exact inv.base s v h1 fun j hj _ hdj=>by
          rw [hdsA j hj] at hdj
          exact h2 j hj (Option.some.inj hdj)
    have hfe:∀ i,i≤n→∃ L'',FeOk (factsE (l.take n) Ds i) a' w' L''∧L''.Perm ((List.range i).flatMap ents):=by
      intro i
      induction i with
      | zero=>intro _; exact ⟨[],rfl,by simp⟩
      | succ i ih =>
        intro hi
        obtain ⟨L'',h1,h2⟩:=ih (by omega)
        have hil:i < (l.take n).length:=by omega
        have ho:(l.take n)[i]?=some (l.take n)[i]:=List.getElem?_eq_getElem hil
        have hD:Ds[i]?=some (Ds[i]'(by omega)):=List.getElem?_eq_getElem (by omega)
        have hdi:=hds i _ ho
        obtain ⟨h4,h5⟩:=inv.done i (ds i) _ (by omega) (hall i (by omega)) (hdsA i (by omega)) hD
        simp only [factsE,ho,hD,hdi,List.range_succ,List.flatMap_append]
        generalize Ds[i]'(by omega)=D at *
        cases D with
        | c u=>exact ⟨L'',h1,by simp [h5.2]; exact h2⟩
        | e E st =>
          refine ⟨ents i++L'',⟨vals i,ents i,L'',h4,h5,h1,rfl⟩,?_⟩
          simp only [List.flatMap_cons,List.flatMap_nil,List.append_nil]
          exact (List.Perm.append_left _ h2).trans List.perm_append_comm
    obtain ⟨L'',hf1,hf2⟩:=hfe n (Nat.le_refl _)
    have hhas:Has w.heap.size w' L'':=by
      have:(List.range n).flatMap (fun j=>if listed.getD j false=true then ents j else [])=(List.range n).flatMap ents:=flatMap_same _ _ _ fun j hj=>by rw [if_pos (hall j (List.mem_range.1 hj))]
      have hh:=inv.has
      rw [this] at hh
      exact hh.perm hf2
    refine hK a' w' L'' inv.fr hf1 hknow hhas fun j oj dj s hj hoj hdj hos hsf=>?_
    obtain ⟨d2,D2,h1,h2,_,_⟩:=hparts' j oj hj hoj
    rw [hdj] at h1
    obtain rfl:=Option.some.inj h1
    exact ⟨vals j,(inv.done j dj D2 hj (hall j hj) (by simp [dstAt,hoj,hdj]) h2).1,inv.links j oj s hj hoj (hall j hj) hos hsf⟩
  · intro j
    simp
    intro hj
    simp [Array.getElem?_replicate,hj]
  · refine ⟨by simp,⟨hs.size,hs.defers⟩,fun j d D hj hl'=>?_,fun s v hv _=>hs.at_ s v hv,?_,hdr,fun _=>Fr.drew w,fun t _=>?_,fun j o _ hl'=>?_,fun j o s _ _ hl'=>?_⟩
    · simp [Array.getElem?_replicate] at hl'
      split at hl' <;> simp at hl'
    · have:∀ r:List Nat,r.flatMap (fun j=>if (Array.replicate l.toArray.size false).getD j false=true then ([]:List Ent) else [])=[]:=fun r=>by induction r with | nil=>rfl | cons x t ih=>simp
      rw [this]
      exact .nil _ _
    · simp [Array.getElem?_replicate]
      split <;> simp
    · simp [Array.getElem?_replicate] at hl'
      split at hl' <;> simp at hl'
    · simp [Array.getElem?_replicate] at hl'
      split at hl' <;> simp at hl'
end
end Go.FwO
end

section
/- The steps of such regions. -/
namespace Go.FwO
open Go Go.Fw
section
variable {cc:Nat} {P:Program} {l:List Oper} {n N:Nat} {Q:Exit→Act→World→Prop} {Fk:World→World→Prop}
theorem wp_region_rgO {id:Nat} {F:List (Nat × Value)} {w:World} {a:Act} (hm:P.follows .mixedOrders=true) (hF:FwK.FrK Fk w.heap.size) (n:Nat) (hB:rgB l.toArray n=true) (hd:dstB (l.take n) N=true) (hs:Know N F a)
    (h:RG Fk cc P l.toArray N w.heap.size w (fun Fc Fe=>∀ a' w' L',Fk w w'→FeOk Fe a' w' L'→Know N Fc a'→Has w.heap.size w' L'→FwK.Links l n a'→wpList P l.toArray Q (l.drop n) a' w') F [] (l.take n)) :
    (Code.region id l.toArray true).wp P Q a w:=wp_region_any hm (any_rgO hF n hB hd hs h)
end
section
variable {cc:Nat} {P:Program} {ops:Array Oper} {N B1:Nat} {w1:World} {Fk:World→World→Prop} {K:List (Nat × Value)→Fes→Prop} {Fc:List (Nat × Value)} {Fe:Fes} {rest:List Oper}
variable {d:Tmp} {op:Op} {ty:TypeId} {pos:String} {aft:Array Edge} {x y z:Operand} {t u:TypeId}
theorem RC.ev {o:Oper} {a:Act} {w:World} {x:Operand} {v:Value} (h:RC Fk cc N Fc Fe o B1 w1 a w) (hx:ev Fc x=some v):a.eval x=v:=h.know.eval hx
theorem RC.ent {o:Oper} {a:Act} {w:World} {n:Nat} {E:Value→List Ent→World→Prop} (h:RC Fk cc N Fc Fe o B1 w1 a w) (hn:lookE Fe n=some E) (hu:(tmpsOf o).any (Nat.beq n)=true) :
    ∃ v L',a.eval (.tmp n)=v∧E v L' w∧Has B1 w L':=by
  obtain ⟨v,L',h1,h2⟩:=h.ents n E hn hu
  exact ⟨v,L',by simp [Act.eval,h1],h2⟩
theorem rg_nil (h:K Fc Fe):RG Fk cc P ops N B1 w1 K Fc Fe []:=h
theorem rg_q (hK:FwK.FrK Fk B1) {v:Value} (h:∀ a w,RC Fk cc N Fc Fe ⟨some d,op,ty,pos,aft,none⟩ B1 w1 a w→(execOp a.eval ⟨some d,op,ty,pos,aft,none⟩).run P w=.ok (.value v) w) (hE:lookE Fe d=none)
    (k:RG Fk cc P ops N B1 w1 K ((d,v)::Fc) Fe rest):RG Fk cc P ops N B1 w1 K Fc Fe (⟨some d,op,ty,pos,aft,none⟩::rest) :=
  ⟨d,.c v,rfl,⟨.inl ⟨rfl,fun a w hc=>by rw [h a w hc]; exact ⟨[],⟨rfl,rfl⟩,hK.of0 (.refl _ _),(fun _=>.refl _ _),.nil _ _⟩⟩,fun _=>⟨v,h⟩⟩,hE,k⟩
theorem rg_yes (hK:FwK.FrK Fk B1) {v:Value} {j s:Nat} {b:Bool} (hj:(ops[j]?).bind (·.dst)=some s) (hb:Fw.look Fc s=some (.bool b))
    (h:∀ a w,RC Fk cc N Fc Fe ⟨some d,op,ty,pos,aft,some (j,b)⟩ B1 w1 a w→(execOp a.eval ⟨some d,op,ty,pos,aft,some (j,b)⟩).run P w=.ok (.value v) w) (hE:lookE Fe d=none)
    (k:RG Fk cc P ops N B1 w1 K ((d,v)::Fc) Fe rest):RG Fk cc P ops N B1 w1 K Fc Fe (⟨some d,op,ty,pos,aft,some (j,b)⟩::rest) :=
  ⟨d,.c v,rfl,⟨.inl ⟨by simp [wantedAs,hj,hb],fun a w hc=>by rw [h a w hc]; exact ⟨[],⟨rfl,rfl⟩,hK.of0 (.refl _ _),(fun _=>.refl _ _),.nil _ _⟩⟩,fun h=>by cases h⟩,hE,k⟩
theorem rg_no (hK:FwK.FrK Fk B1) {j s:Nat} {b c:Bool} (hj:(ops[j]?).bind (·.dst)=some s) (hb:Fw.look Fc s=some (.bool c)) (hne:c=!b) (hE:lookE Fe d=none)
    (k:RG Fk cc P ops N B1 w1 K ((d,undef)::Fc) Fe rest):RG Fk cc P ops N B1 w1 K Fc Fe (⟨some d,op,ty,pos,aft,some (j,b)⟩::rest) :=
  ⟨d,.c undef,rfl,⟨.inr ⟨by subst hne; cases b <;> simp [wantedAs,hj,hb],rfl⟩,fun h=>by cases h⟩,hE,k⟩
theorem rg_e (hK:FwK.FrK Fk B1) (E:Value→List Ent→World→Prop) (st:∀ v L w w',Fk w w'→E v L w→E v L w')
    (h:∀ a w,RC Fk cc N Fc Fe ⟨some d,op,ty,pos,aft,none⟩ B1 w1 a w→Yl P (fun v w'=>∃ L',E v L' w'∧Fr0 w w'∧Has w.heap.size w' L') ((execOp a.eval ⟨some d,op,ty,pos,aft,none⟩).run P w)) (hC:Fw.look Fc d=none)
    (k:RG Fk cc P ops N B1 w1 K Fc ((d,E)::Fe) rest) (hq:needQ ⟨some d,op,ty,pos,aft,none⟩=false:=by rfl):RG Fk cc P ops N B1 w1 K Fc Fe (⟨some d,op,ty,pos,aft,none⟩::rest) :=
  ⟨d,.e E st,rfl,⟨.inl ⟨rfl,fun a w hc=>(h a w hc).mono fun v w' ⟨L',h1,h2,h3⟩=>⟨L',h1,hK.of0 h2,fun _=>h2,h3⟩⟩,fun h=>by rw [hq] at h; cases h⟩,hC,k⟩
theorem rg_alloc (hK:FwK.FrK Fk B1) {td:TypeDesc} {sz bytes:Nat} {zs:List Value} (hT:Ty P t td sz bytes zs) (hC:Fw.look Fc d=none)
    (k:RG Fk cc P ops N B1 w1 K Fc ((d,fun v L _=>∃ g,v=.pointer (some ⟨g,0,none⟩)∧L=[.seg g zs t])::Fe) rest):RG Fk cc P ops N B1 w1 K Fc Fe (⟨some d,.alloc t,ty,pos,aft,none⟩::rest) :=
  rg_e hK _ (fun _ _ _ _ _ h=>h) (fun a w hc=>by rw [c_alloc hT]; exact ⟨_,⟨_,rfl,rfl⟩,(.alloc _ _),has_alloc⟩) hC k
theorem rg_bslice (hK:FwK.FrK Fk B1) {E:TypeId} {ed:TypeDesc} {s bytes n:Nat} {z zs:List Value} {ps:Array (Nat × Operand)} {vs:List Value} (hu:P.underlying t=some (.slice E)) (hE:Ty P E ed s bytes z)
    (hps:∀ a w,RC Fk cc N Fc Fe ⟨some d,.buildSlice t n ps,ty,pos,aft,none⟩ B1 w1 a w→Evp a 0 ps.toList vs) (hn:vs.length=n) (hv:∀ v∈vs,v.cells.size=s) (hsmall:n * s≤16777216) (hz:flatCells vs=zs) (hC:Fw.look Fc d=none)
    (k:RG Fk cc P ops N B1 w1 K Fc ((d,fun v L _=>∃ g,v=.slice (some ⟨g,0,none⟩) n n∧L=[.seg g zs E])::Fe) rest):RG Fk cc P ops N B1 w1 K Fc Fe (⟨some d,.buildSlice t n ps,ty,pos,aft,none⟩::rest) :=
  rg_e hK _ (fun _ _ _ _ _ h=>h) (fun a w hc=>by rw [c_bslice hu hE (hps a w hc) hn hv hsmall,hz]; exact ⟨_,⟨_,rfl,rfl⟩,(.alloc _ _),has_alloc⟩) hC k
theorem rg_moveE (hK:FwK.FrK Fk B1) {s:Nat} {E0:Value→List Ent→World→Prop} (C:Value→Prop) (hn:lookE Fe s=some E0) (hu:(tmpsOf ⟨some d,.move (.tmp s),ty,pos,aft,none⟩).any (Nat.beq s)=true) (hC:∀ v L w,E0 v L w→C v) (hCd:Fw.look Fc d=none)
    (k:RG Fk cc P ops N B1 w1 K Fc ((d,fun v L _=>C v∧L=[])::Fe) rest):RG Fk cc P ops N B1 w1 K Fc Fe (⟨some d,.move (.tmp s),ty,pos,aft,none⟩::rest) :=
  rg_e hK (fun v L _=>C v∧L=[]) (fun _ _ _ _ _ h=>h) (fun a w hc=>by
    obtain ⟨v,L',h1,h2,_⟩:=hc.ent hn hu
    rw [c_move h1]
    exact ⟨[],⟨hC _ _ _ h2,rfl⟩,(.refl _ _),.nil _ _⟩) hCd k
theorem rg_extC (hK:FwK.FrK Fk B1) {s i:Nat} {E0:Value→List Ent→World→Prop} {c:Value} (hn:lookE Fe s=some E0) (hu:(tmpsOf ⟨some d,.extract (.tmp s) i,ty,pos,aft,none⟩).any (Nat.beq s)=true) (hc:∀ v L w,E0 v L w→∃ vs,v=.tuple vs∧vs[i]?=some c) (hE:lookE Fe d=none)
    (k:RG Fk cc P ops N B1 w1 K ((d,c)::Fc) Fe rest):RG Fk cc P ops N B1 w1 K Fc Fe (⟨some d,.extract (.tmp s) i,ty,pos,aft,none⟩::rest) :=
  rg_q hK (fun a w h=>by
    obtain ⟨v,L',h1,h2,_⟩:=h.ent hn hu
    obtain ⟨vs,rfl,h3⟩:=hc _ _ _ h2
    exact c_extract h1 h3) hE k
theorem rg_extE (hK:FwK.FrK Fk B1) {s i:Nat} {E0:Value→List Ent→World→Prop} (C:Value→Prop) (hn:lookE Fe s=some E0) (hu:(tmpsOf ⟨some d,.extract (.tmp s) i,ty,pos,aft,none⟩).any (Nat.beq s)=true) (hc:∀ v L w,E0 v L w→∃ vs u,v=.tuple vs∧vs[i]?=some u∧C u) (hCd:Fw.look Fc d=none)
    (k:RG Fk cc P ops N B1 w1 K Fc ((d,fun v L _=>C v∧L=[])::Fe) rest):RG Fk cc P ops N B1 w1 K Fc Fe (⟨some d,.extract (.tmp s) i,ty,pos,aft,none⟩::rest) :=
  rg_e hK (fun v L _=>C v∧L=[]) (fun _ _ _ _ _ h=>h) (fun a w h=>by
    obtain ⟨v,L',h1,h2,_⟩:=h.ent hn hu
    obtain ⟨vs,u,rfl,h3,h4⟩:=hc _ _ _ h2
    rw [c_extract h1 h3]
    exact ⟨[],⟨h4,rfl⟩,(.refl _ _),.nil _ _⟩) hCd k
theorem rg_call (hK:FwK.FrK Fk B1) {f:FuncId} {args:Array Operand} {vs:List Value} {tys:Array TypeId} {c:Value} (hF:Fun P f)
    (hargs:∀ a w,RC Fk cc N Fc Fe ⟨some d,.call { callee:=.value (.func f),args:=args,argTypes:=tys },ty,pos,aft,none⟩ B1 w1 a w→Evs a args.toList vs)
    (hc:∀ w,Fk w1 w→Ctr P f vs w (fun _=>False) fun v _=>v=c) (hE:lookE Fe d=none)
    (k:RG Fk cc P ops N B1 w1 K ((d,c)::Fc) Fe rest):RG Fk cc P ops N B1 w1 K Fc Fe (⟨some d,.call { callee:=.value (.func f),args:=args,argTypes:=tys },ty,pos,aft,none⟩::rest) :=
  ⟨d,.c c,rfl,⟨.inl ⟨rfl,fun a w h=>by
    rw [run_call hF (hargs a w h)]
    exact Calls.mono (hc w h.fr) fun e w' ⟨v,he,hf,hv⟩=>⟨v,he,[],⟨hv,rfl⟩,hK.of0 hf,(fun _=>hf),.nil _ _⟩⟩,fun h=>by cases h⟩,hE,k⟩
theorem rg_callE (hK:FwK.FrK Fk B1) {f:FuncId} {args:Array Operand} {tys:Array TypeId} (E:Value→List Ent→World→Prop) (st:∀ v L w w',Fk w w'→E v L w→E v L w') (hF:Fun P f)
    (hc:∀ a w,RC Fk cc N Fc Fe ⟨some d,.call { callee:=.value (.func f),args:=args,argTypes:=tys },ty,pos,aft,none⟩ B1 w1 a w →
      ∃ vs,Evs a args.toList vs∧Ctr P f vs w (fun _=>False) fun v w'=>∃ L',E v L' w'∧Has w.heap.size w' L') (hC:Fw.look Fc d=none)
    (k:RG Fk cc P ops N B1 w1 K Fc ((d,E)::Fe) rest):RG Fk cc P ops N B1 w1 K Fc Fe (⟨some d,.call { callee:=.value (.func f),args:=args,argTypes:=tys },ty,pos,aft,none⟩::rest) :=
  rg_e hK E st (fun a w h=>by
    obtain ⟨vs,h1,h2⟩:=hc a w h
    rw [run_call hF h1]
    exact Calls.mono h2 fun e w' ⟨v,he,hf,L',hv,hl⟩=>⟨v,he,L',hv,hf,hl⟩) hC k
end
section
variable {cc:Nat} {P:Program} {ops:Array Oper} {N B1:Nat} {w1:World} {Fk:World→World→Prop} {K:List (Nat × Value)→Fes→Prop} {Fc:List (Nat × Value)} {Fe:Fes} {rest:List Oper}
variable {d:Tmp} {op:Op} {ty:TypeId} {pos:String} {aft:Array Edge} {x y z:Operand} {t u:TypeId}
theorem rg_strip {j s:Nat} {b:Bool} (hj:(ops[j]?).bind (·.dst)=some s) (hb:Fw.look Fc s=some (.bool b)) (k:RG Fk cc P ops N B1 w1 K Fc Fe (⟨some d,op,ty,pos,aft,none⟩::rest)) :
    RG Fk cc P ops N B1 w1 K Fc Fe (⟨some d,op,ty,pos,aft,some (j,b)⟩::rest):=by
  obtain ⟨d',D,h1,h2,h3,h4⟩:=k
  refine ⟨d',D,h1,?_,h3,h4⟩
  refine ⟨?_,fun h=>by cases h⟩
  rcases h2.1 with ⟨_,h⟩ | ⟨h,_⟩
  · exact .inl ⟨by simp [wantedAs,hj,hb],fun a w hc=>h a w ⟨hc.know,hc.fr,hc.fr0,hc.ents⟩⟩
  · simp [wantedAs] at h
end
section
variable {cc:Nat} {P:Program} {ops:Array Oper} {N B1:Nat} {w1:World} {Fk:World→World→Prop} {K:List (Nat × Value)→Fes→Prop} {Fc:List (Nat × Value)} {Fe:Fes} {rest:List Oper}
variable {d:Tmp} {op:Op} {ty:TypeId} {pos:String} {aft:Array Edge} {x y z:Operand} {t u:TypeId}
theorem rg_callOne (hK:FwK.FrK Fk B1) {f:FuncId} {args:Array Operand} {vs:List Value} {tys:Array TypeId} {c:Value} (hF:Fun P f)
    (hargs:∀ a w,RC Fk d N Fc Fe ⟨some d,.call { callee:=.value (.func f),args:=args,argTypes:=tys },ty,pos,aft,none⟩ B1 w1 a w→Evs a args.toList vs)
    (hc:∀ w,Fr0 w1 w→Calls P f vs.toArray w fun e w'=>e=.returned c∧Fk w w') (hE:lookE Fe d=none)
    (k:RG Fk d P ops N B1 w1 K ((d,c)::Fc) Fe rest):RG Fk d P ops N B1 w1 K Fc Fe (⟨some d,.call { callee:=.value (.func f),args:=args,argTypes:=tys },ty,pos,aft,none⟩::rest) :=
  ⟨d,.c c,rfl,⟨.inl ⟨rfl,fun a w h=>by
    rw [run_call hF (hargs a w h)]
    exact Calls.mono (hc w (h.fr0 rfl)) fun e w' ⟨he,hf⟩=>⟨c,he,[],⟨rfl,rfl⟩,hf,(fun h=>absurd rfl h),.nil _ _⟩⟩,fun h=>by cases h⟩,hE,k⟩
theorem rg_callOneE (hK:FwK.FrK Fk B1) {f:FuncId} {args:Array Operand} {tys:Array TypeId} {c:Value} (hF:Fun P f)
    (hc:∀ a w,RC Fk d N Fc Fe ⟨some d,.call { callee:=.value (.func f),args:=args,argTypes:=tys },ty,pos,aft,none⟩ B1 w1 a w→Fr0 w1 w→∃ vs,Evs a args.toList vs∧Calls P f vs.toArray w fun e w'=>e=.returned c∧Fk w w') (hE:lookE Fe d=none)
    (k:RG Fk d P ops N B1 w1 K ((d,c)::Fc) Fe rest):RG Fk d P ops N B1 w1 K Fc Fe (⟨some d,.call { callee:=.value (.func f),args:=args,argTypes:=tys },ty,pos,aft,none⟩::rest) :=
  ⟨d,.c c,rfl,⟨.inl ⟨rfl,fun a w h=>by
    obtain ⟨vs,h1,h2⟩:=hc a w h (h.fr0 rfl)
    rw [run_call hF h1]
    exact Calls.mono h2 fun e w' ⟨he,hf⟩=>⟨c,he,[],⟨rfl,rfl⟩,hf,(fun h=>absurd rfl h),.nil _ _⟩⟩,fun h=>by cases h⟩,hE,k⟩
theorem rg_callV (hK:FwK.FrK Fk B1) {f:FuncId} {args:Array Operand} {tys:Array TypeId} {c:Value} (hF:Fun P f)
    (hc:∀ a w,RC Fk cc N Fc Fe ⟨some d,.call { callee:=.value (.func f),args:=args,argTypes:=tys },ty,pos,aft,none⟩ B1 w1 a w→∃ vs,Evs a args.toList vs∧Ctr P f vs w (fun _=>False) fun v _=>v=c) (hE:lookE Fe d=none)
    (k:RG Fk cc P ops N B1 w1 K ((d,c)::Fc) Fe rest):RG Fk cc P ops N B1 w1 K Fc Fe (⟨some d,.call { callee:=.value (.func f),args:=args,argTypes:=tys },ty,pos,aft,none⟩::rest) :=
  ⟨d,.c c,rfl,⟨.inl ⟨rfl,fun a w h=>by
    obtain ⟨vs,h1,h2⟩:=hc a w h
    rw [run_call hF h1]
    exact Calls.mono h2 fun e w' ⟨v,he,hf,hv⟩=>⟨v,he,[],⟨hv,rfl⟩,hK.of0 hf,(fun _=>hf),.nil _ _⟩⟩,fun h=>by cases h⟩,hE,k⟩
theorem rg_g (hK:FwK.FrK Fk B1) {v:Value} {j s:Nat} {b c:Bool} (hj:(ops[j]?).bind (·.dst)=some s) (hb:Fw.look Fc s=some (.bool c))
    (h:c=b→∀ a w,RC Fk cc N Fc Fe ⟨some d,op,ty,pos,aft,some (j,b)⟩ B1 w1 a w→(execOp a.eval ⟨some d,op,ty,pos,aft,some (j,b)⟩).run P w=.ok (.value v) w) (hE:lookE Fe d=none)
    (k:RG Fk cc P ops N B1 w1 K ((d,if c=b then v else undef)::Fc) Fe rest):RG Fk cc P ops N B1 w1 K Fc Fe (⟨some d,op,ty,pos,aft,some (j,b)⟩::rest):=by
  by_cases e:c=b
  · subst e
    exact rg_yes hK hj hb (h rfl) hE (by simpa using k)
  · exact rg_no hK hj hb (by cases c <;> cases b <;> simp_all) hE (by simpa [e] using k)
end
def KeepB (kp:Obj→Bool) (a b:World):Prop:=∀ (g:Nat) (x:Obj),a.heap[g]?=some x→kp x=true→b.heap[g]?=some x
abbrev FkO (M:Nat→Prop) (kp:Obj→Bool) (R:World→World→Prop):World→World→Prop:=fun a b=>Fr M a b∧KeepB kp a b∧R a b
theorem frKO {M:Nat→Prop} {kp:Obj→Bool} {R:World→World→Prop} {B1:Nat} (hM:∀ k,M k→k < B1) (hR:∀ {a b c},R a b→R b c→R a c) (h0:∀ {a b},Fr0 a b→R a b):FwK.FrK (FkO M kp R) B1 :=
  ⟨fun h k=>⟨h.1.trans k.1 fun _ _=>id,fun g x hx hk=>k.2.1 g x (h.2.1 g x hx hk) hk,hR h.2.2 k.2.2⟩,fun h=>⟨h.mono fun _ _=>False.elim,fun g x hx _=>(h.block g (Array.getElem?_eq_some_iff.1 hx).1 id).trans hx,h0 h⟩,fun h=>h.1.size,fun hL h =>
    hL.same h.1.size fun e he k hk=>h.1.block k (hL.lt e he k hk) fun hm=>by
      have:=hM k hm
      have:=hL.ge e he k hk
      omega⟩
section
variable {cc:Nat} {N B1:Nat} {w1:World} {M:Nat→Prop} {kp:Obj→Bool} {R:World→World→Prop} {Fc:List (Nat × Value)} {Fe:Fes}
theorem RC.blk {o:Oper} {a:Act} {w:World} {g:Nat} {x:Obj} (h:RC (FkO M kp R) cc N Fc Fe o B1 w1 a w) (hb:w1.heap[g]?=some x) (hk:kp x=true:=by rfl):w.heap[g]?=some x:=h.fr.2.1 g x hb hk
end
end Go.FwO
end

section
/- What the oracle tells; what the document tells. -/
namespace Go.Proofs.YtklajbdbnnceiaaGreat
open Go Go.Fw
open Sha
def kpO:Obj→Bool:=fun x=>match x with
  | .cells _ T _=>!(Nat.beq 149 T || Nat.beq 203 T)
  | _=>false
def kpB (w:World) (k:Nat):Prop:=∃ x,w.heap[k]?=some x∧kpO x=true
abbrev pr (W:Int) (S H:Nat) (seed:List UInt8) (d:Int) (ep:UInt32):Spr:=⟨0,1,W,S,H,seed,d,ep⟩
theorem pr_ok {W:Int} {S H:Nat} {seed:List UInt8} {d:Int} {ep:UInt32} (hS:S≤16) (hH:H≤6) (hs:seed.length=32):(pr W S H seed d ep).Ok:=⟨show (0:Nat) ≠ 1 by decide,hS,hH,hs⟩
abbrev Orc.pr (o:Orc) (d:Int) (ep:UInt32):Spr:=Go.Proofs.YtklajbdbnnceiaaGreat.pr o.W o.S.toNat o.H.toNat (o.seed d) d ep
theorem spr_eq {p:Spr} {o:Orc} {d:Int} {ep:UInt32} (h:SpIs p o.W o.S o.H (o.seed d) d ep):p=⟨p.g,p.cg,o.W,o.S.toNat,o.H.toNat,o.seed d,d,ep⟩:=by
  obtain ⟨_,h1,h2,h3,h4,h5,h6⟩:=h
  obtain ⟨g,cg,W,S,H,seed,d',ep'⟩:=p
  simp only at h1 h2 h3 h4 h5 h6
  subst h1 h4 h5 h6
  simp only [Spr.mk.injEq,true_and,and_true]
  omega
def clV (p:Spr) (mt sn:Int) (sq:UInt32) (lf ws ps:List UInt8):Bool:=decide (shL p.d p.ep sq mt (el p sq.toNat mt.toNat) p.W sn=lf) && decide (shW p.d p.ep sq mt (el p sq.toNat mt.toNat) p.W sn=ws) && decide (gPath p.d p.ep (ends p p.m) sq.toNat p.H=ps)
theorem clV_pr (g cg:Nat) (W:Int) (S H:Nat) (seed:List UInt8) (d:Int) (ep:UInt32) (mt sn:Int) (sq:UInt32) (lf ws ps:List UInt8):clV ⟨g,cg,W,S,H,seed,d,ep⟩ mt sn sq lf ws ps=clV (pr W S H seed d ep) mt sn sq lf ws ps:=rfl
def OrZ (w:World) (o:Orc) (d:Int) (ep:UInt32) (sz:Nat):Prop:=sz≤o.mb∧∃ s,OrAt w o s∧∀ p,s=some p→p.d=d∧p.ep=ep∧sz≤p.g∧sz≤p.cg
theorem OrZ.fr0 {w w':World} {o:Orc} {d:Int} {ep:UInt32} {sz:Nat} (h:OrZ w o d ep sz) (hf:Fr0 w w'):OrZ w' o d ep sz:=by
  obtain ⟨h0,s,h1,h2⟩:=h
  exact ⟨h0,s,h1.fr0 hf,h2⟩
theorem orM_kp {w:World} {o:Orc} {s:Option Spr} (h:OrAt w o s) {k:Nat} (hm:OrM o s k):¬ kpB w k:=by
  rintro ⟨x,hx,hk⟩
  rcases hm with e | ⟨p,e,hm⟩
  · cases x with
    | cells cs T fr=>exact h.mapBlk _ e _ _ _ hx
    | map es cl=>cases hk
    | _=>cases hk
  · obtain ⟨cs,T,fr,h1,h2⟩:=spBlk (h.sp p e).2.2 hm
    rw [hx] at h1
    cases h1
    have hk:(!(Nat.beq 149 T || Nat.beq 203 T))=true:=hk
    rw [h2] at hk
    cases hk
theorem keepKB {w w':World} {o:Orc} {s:Option Spr} (h:OrAt w o s) (hf:Fr (OrM o s) w w'):FwO.KeepB kpO w w':=fun g x hx hk=>(hf.block g (Array.getElem?_eq_some_iff.1 hx).1 fun hm=>orM_kp h hm ⟨x,hx,hk⟩).trans hx
theorem RdT.kb {w w':World} {v:Value} {n sz:Nat} {l:List Value} {T:TypeId} (h:RdT w v n sz l T) (hf:FwO.KeepB kpO w w') (hT:(Nat.beq 149 T || Nat.beq 203 T)=false:=by rfl):RdT w' v n sz l T:=by
  obtain ⟨h1,g,cap,cur,h2,h3,h4⟩:=h
  exact ⟨h1,g,cap,cur,h2,hf g _ h3 (by show (!(Nat.beq 149 T || Nat.beq 203 T))=true; rw [hT]; rfl),h4⟩
theorem row_kp {w:World} {v:Value} {n sz:Nat} {l:List Value} {T:TypeId} (h:w.ownsRow 0 T sz v n l) (hT:(Nat.beq 149 T || Nat.beq 203 T)=false:=by rfl):∀ k,v.ownBlock=some k→kpB w k:=by
  intro k hk
  obtain ⟨h1,⟨h2,_⟩ | ⟨g,cap,cur,h2,_,h3,_⟩⟩:=h
  · subst h2
    cases hk
  · subst h2
    simp only [Value.ownBlock,Option.some.injEq] at hk
    subst hk
    exact ⟨_,h3,by show (!(Nat.beq 149 T || Nat.beq 203 T))=true; rw [hT]; rfl⟩
theorem OrNext.z {w w':World} {o:Orc} {s:Option Spr} {d:Int} {ep:UInt32} {p:Spr} {sz:Nat} (h:OrNext w w' o s d ep p) (h0:sz≤o.mb) (h2:∀ p,s=some p→p.d=d∧p.ep=ep∧sz≤p.g∧sz≤p.cg) (hw:sz≤w.heap.size):OrZ w' o d ep sz :=
  ⟨h0,some p,h.at_,fun p2 e=>by
    cases e
    exact ⟨h.d,h.ep,h.was.elim (fun e=>(h2 p e).2.2) fun e=>⟨Nat.le_trans hw e.2.1,Nat.le_trans hw e.2.2⟩⟩⟩
theorem OrNext.is {w w':World} {o:Orc} {s:Option Spr} {d:Int} {ep:UInt32} {p:Spr} (h:OrNext w w' o s d ep p):SpIs p o.W o.S o.H (o.seed d) d ep:=by
  have h1:=(h.at_.sp p rfl).1
  rw [h.d,h.ep] at h1
  exact h1
abbrev ownV (o:Orc) (d mt sn:Int) (ep sq:UInt32) (lf ws ps:List UInt8):Bool:=clRight o.W o.S o.H d mt sn ep sq && clV (o.pr d ep) mt sn sq lf ws ps
theorem own_at {w:World} {o:Orc} {s:Option Spr} {d:Int} {ep:UInt32} {sz:Nat} (h0:sz≤o.mb) (hor:OrAt w o s) (h2:∀ p,s=some p→p.d=d∧p.ep=ep∧sz≤p.g∧sz≤p.cg) (hw:sz≤w.heap.size) (mt sn:Int) (sq:UInt32) (lf ws ps:List UInt8) (nw np:Nat) (wv pv:Value) (hlf:lf.length=16) (hwl:ws.length=nw * 16) (hpl:ps.length=np * 16)
    (hqw:Rd w wv nw (ws.map B)) (hqp:Rd w pv np (ps.map B)) (hfw:∀ k,wv.ownBlock=some k→kpB w k) (hfp:∀ k,pv.ownBlock=some k→kpB w k) :
    Ctr Tryz.prog 57 [.pointer (some ⟨o.g,0,none⟩),.agg #[I d,U ep,U sq,I mt,I sn],credV lf wv pv] w (OrM o s) fun v w'=>v=.bool (ownV o d mt sn ep sq lf ws ps)∧OrZ w' o d ep sz:=by
  refine Calls.mono (tr_Own o s d mt sn ep sq lf ws ps nw np wv pv hlf hwl hpl w hor (fun p e=>⟨(h2 p e).1,(h2 p e).2.1⟩) hqw hqp (fun k hk hm=>orM_kp hor hm (hfw k hk)) fun k hk hm=>orM_kp hor hm (hfp k hk)) ?_
  rintro e w' ⟨v,he,hf,hp⟩
  refine ⟨v,he,hf,?_⟩
  rcases hp with ⟨h1,rfl,h3⟩ | ⟨h1,p,rfl,hn⟩
  · refine ⟨by rw [ownV,h1]; rfl,?_⟩
    rcases h3 with ⟨_,h3⟩ | ⟨_,p,h3⟩
    · exact ⟨h0,s,h3,h2⟩
    · exact h3.z h0 h2 hw
  · refine ⟨?_,hn.z h0 h2 hw⟩
    rw [ownV,h1,Bool.true_and,← clV_pr p.g p.cg,← spr_eq hn.is,clV,hn.d,hn.ep]
theorem right_eq {W S H d mt sn:Int} {ep sq:UInt32} {b:Bool} (h:clRight W S H d mt sn ep sq=b) (w:World):Ctr Tryz.prog 28 [.agg #[I W,I S,I H],.agg #[I d,U ep,U sq,I mt,I sn]] w (fun _=>False) fun v _=>v=.bool b:=h ▸ ref09_Right W S H d mt sn ep sq w
def sdAt (sd:List UInt8) (d:Int):List UInt8:=(sd.drop (d.toNat * 32)).take 32
theorem decide_eq_comm {α:Type} [DecidableEq α] (x y:α):decide (x=y)=decide (y=x):=decide_eq_decide.2 ⟨Eq.symm,Eq.symm⟩
theorem same_clV {p:Spr} {m:Nat} {sn:Int} {sq:UInt32} {lf ws ps:List UInt8} {nw np:Nat} {wv pv wv2 pv2:Value} (hlf:lf.length=16) (hwl:ws.length=nw * 16) (hpl:ps.length=np * 16) (hpl2:(hPs p sq).length=p.H * 16) (w:World)
    (h1:Rd w wv nw (ws.map B)) (h2:Rd w pv np (ps.map B)) (h3:Rd w wv2 (shN (m:Int) p.W sn) ((hWs p m sn sq).map B)) (h4:Rd w pv2 p.H ((hPs p sq).map B)) :
    Ctr Tryz.prog 29 [credV lf wv pv,credV (hLf p m sn sq) wv2 pv2] w (fun _=>False) fun v _=>v=.bool (clV p (m:Int) sn sq lf ws ps):=by
  have h9:=ref09_SameCred lf ws ps (hLf p m sn sq) (hWs p m sn sq) (hPs p sq) nw np (shN (m:Int) p.W sn) p.H wv pv wv2 pv2 hlf (shL_length _ _ _ _ _ _ _) hwl hpl (shW_length _ _ _ _ _ _ _) hpl2 w h1 h2 h3 h4
  rw [clV,Int.toNat_natCast,decide_eq_comm _ lf,decide_eq_comm _ ws,decide_eq_comm _ ps]
  exact h9
theorem ref28_Own (W:Int) (Sn Hn n:Nat) (sd:List UInt8) (v:Value) (hsd:sd.length=n * 32) (hnW:(n:Int)=W) (d mt sn:Int) (ep sq:UInt32) (lf ws ps:List UInt8) (nw np:Nat) (wv pv:Value) (hlf:lf.length=16) (hwl:ws.length=nw * 16) (hpl:ps.length=np * 16) (w:World) (hq:Rd w v n (sd.map B)) (hqw:Rd w wv nw (ws.map B)) (hqp:Rd w pv np (ps.map B)):Ctr Tryz.prog 58 [.agg #[I W,I (Sn:Nat),I (Hn:Nat)],v,.agg #[I d,U ep,U sq,I mt,I sn],credV lf wv pv] w (fun _=>False) (fun v2 _=>v2=.bool (clRight W Sn Hn d mt sn ep sq && clV (pr W Sn Hn (sdAt sd d) d ep) mt sn sq lf ws ps)):=by
  have hnl:=hq.le
  obtain ⟨vad,vcap,rfl,hvc,hvm⟩:=Rd.sl hq
  obtain ⟨wad,wcap,rfl,hwc,hwm⟩:=Rd.sl hqw
  obtain ⟨pad,pcap,rfl,hpc0,hpm0⟩:=Rd.sl hqp
  refine fn_start (N:=24) Tryz.func58 rfl rfl rfl fun ac hk=>?_
  have hs:=St.start hk w
  refine wp_seq (wp_reg ?_)
  refine s_box hs rfl rfl rfl fun ac ww g4 hs=>?_
  refine s_box hs rfl rfl rfl fun ac ww g6 hs=>?_
  refine s_box hs rfl rfl rfl fun ac ww g7 hs=>?_
  cases hcr:clRight W Sn Hn d mt sn ep sq
  · refine s_q hs (c_assign (hs.ev rfl)) rfl fun ac hs=>?_
    refine s_end ?_
    replace hs:=hs.sub (F':=[(1,_),(4,_),(6,_),(7,_),(8,_)]) ⟨rfl,rfl,rfl,rfl,rfl,trivial⟩
    refine then_n (wp_seq ?_)
    refine wp_region_rg pmix 13 (by kernel_rfl) rfl hs ?_
    simp only [List.take_succ_cons,List.take_zero]
    refine rg_q (fun ac ww h=>c_loadW ty23 ag23 (h.ev rfl) (h.blk (hs.seg (i:=2) rfl)) (by rfl)) rfl ?_
    refine rg_q (fun ac ww h=>c_loadW ty54 ag54 (h.ev rfl) (h.blk (hs.seg (i:=1) rfl)) (by rfl)) rfl ?_
    refine rg_call fu28 (fun ac ww h=>(.cons (h.ev rfl) (.cons (h.ev rfl) .nil))) (fun ww hf=>right_eq hcr ww) rfl ?_
    refine rg_q (fun ac ww h=>c_move (h.ev rfl)) rfl ?_
    refine rg_no rfl rfl rfl rfl ?_
    refine rg_no rfl rfl rfl rfl ?_
    refine rg_no rfl rfl rfl rfl ?_
    refine rg_no rfl rfl rfl rfl ?_
    refine rg_no rfl rfl rfl rfl ?_
    refine rg_no rfl rfl rfl rfl ?_
    refine rg_no rfl rfl rfl rfl ?_
    refine rg_no rfl rfl rfl rfl ?_
    refine rg_no rfl rfl rfl rfl ?_
    refine rg_nil fun ac ww L' hf hfe hs=>?_
    simp only [List.drop_succ_cons,List.drop_zero]
    obtain rfl:L'=[]:=hfe
    replace hs:=hs.toL (List.nil_append _)
    refine s_no hs rfl rfl rfl rfl fun ac hs=>?_
    refine s_q hs (c_pick (hs.ev rfl) (hs.ev rfl) (hs.ev rfl)) rfl fun ac hs=>?_
    refine s_q hs (c_assign (hs.ev rfl)) rfl fun ac hs=>?_
    refine s_end ?_
    replace hs:=hs.sub (F':=[(8,_)]) ⟨rfl,trivial⟩
    refine then_n (wp_ret ?_)
    refine s_ret hs rfl (.tmp (hs.tmp rfl) .nil) rfl ⟨_,rfl,hs.fr,?_⟩
    rfl
  · refine s_q hs (c_assign (hs.ev rfl)) rfl fun ac hs=>?_
    refine s_end ?_
    replace hs:=hs.sub (F':=[(1,_),(4,_),(6,_),(7,_),(8,_)]) ⟨rfl,rfl,rfl,rfl,rfl,trivial⟩
    refine then_n (wp_seq ?_)
    obtain ⟨hR,hd0,hdW,hsn0,hsnW,hep,hsq,hmt0,hmtS⟩:=clRight_iff.1 hcr
    obtain ⟨m,rfl⟩:=int_of hmt0
    obtain ⟨hlv,hS1,hS16,hH0,hH6⟩:=spRight_iff.1 hR
    have hdn:d.toNat < n:=by omega
    have hsl:(sdAt sd d).length=32:=by
      have h2:=Nat.mul_le_mul_right 32 (show d.toNat + 1≤n from hdn)
      rw [Nat.succ_mul] at h2
      rw [sdAt,List.length_take,List.length_drop]
      omega
    obtain ⟨pb,po,pT,pf,pall,rfl,hpb,hps⟩:=Rd.bytes_at32 hq hsd (by omega)
    have hpc:=piece32 hps hsd hdn
    have hko:(pr W Sn Hn (sdAt sd d) d ep).Ok:=pr_ok (by omega) (by omega) hsl
    have hpl2:(hPs (pr W Sn Hn (sdAt sd d) d ep) sq).length=Hn * 16:=hPs_length (p:=pr W Sn Hn (sdAt sd d) d ep) (m:=m) (sn:=sn) hcr
    refine wp_region_rg pmix 13 (by kernel_rfl) rfl hs ?_
    simp only [List.take_succ_cons,List.take_zero]
    refine rg_q (fun ac ww h=>c_loadW ty23 ag23 (h.ev rfl) (h.blk (hs.seg (i:=2) rfl)) (by rfl)) rfl ?_
    refine rg_q (fun ac ww h=>c_loadW ty54 ag54 (h.ev rfl) (h.blk (hs.seg (i:=1) rfl)) (by rfl)) rfl ?_
    refine rg_call fu28 (fun ac ww h=>(.cons (h.ev rfl) (.cons (h.ev rfl) .nil))) (fun ww hf=>right_eq hcr ww) rfl ?_
    refine rg_q (fun ac ww h=>c_move (h.ev rfl)) rfl ?_
    refine rg_yes rfl rfl (fun ac ww h=>c_loadW ty66 ag66 (h.ev rfl) (h.blk (hs.seg (i:=0) rfl)) (by simp [hlf])) rfl ?_
    refine rg_yes rfl rfl (fun ac ww h=>c_loadW ty23 ag23 (h.ev rfl) (h.blk (hs.seg (i:=2) rfl)) (by rfl)) rfl ?_
    refine rg_yes rfl rfl (fun ac ww h=>c_move (h.ev rfl)) rfl ?_
    refine rg_yes rfl rfl (fun ac ww h=>c_fld fl54_0 (h.ev rfl)) rfl ?_
    refine rg_yes rfl rfl (fun ac ww h=>c_loadS un3 rfl (h.ev rfl) (h.blk (hs.seg (i:=1) rfl)) rfl) rfl ?_
    refine rg_yes rfl rfl (fun ac ww h=>c_idxS (j:=d.toNat) un100 ty24 (h.ev rfl) (h.ev rfl) (by omega) hdn) rfl ?_
    refine rg_yes rfl rfl (fun ac ww h=>c_loadA ty24 rfl (h.ev rfl) (h.blk (hs.old hpb id)) hpc (show (List.map B (sdAt sd d)).length=32 by rw [List.length_map,hsl])) rfl ?_
    refine rg_yes rfl rfl (fun ac ww h=>c_loadW ty54 ag54 (h.ev rfl) (h.blk (hs.seg (i:=1) rfl)) (by rfl)) rfl ?_
    refine rg_strip rfl rfl ?_
    refine rg_callE (crE 35 (hLf (pr W Sn Hn (sdAt sd d) d ep) m sn sq) (shN (m:Int) W sn) (hWs (pr W Sn Hn (sdAt sd d) d ep) m sn sq) Hn (hPs (pr W Sn Hn (sdAt sd d) d ep) sq)) (fun _ _ _ _ _ h=>h) fu31 (fun ac ww h=>?_) rfl ?_
    · exact ⟨_,.cons (h.ev rfl) (.cons (h.ev rfl) (.cons (h.ev rfl) (.nil))),ref09_Issue (pr W Sn Hn (sdAt sd d) d ep) hko m sn sq hcr ww⟩
    refine rg_nil fun ac ww L' hf hfe hs=>?_
    simp only [List.drop_succ_cons,List.drop_zero]
    obtain ⟨v21,L21,M21,h21,e21,rfl,rfl⟩:=hfe
    replace hs:=hs.add h21
    obtain ⟨wv2,pv2,rfl,rfl⟩:=e21
    refine s_yes hs rfl rfl ?_
    refine s_call hs fu29 (.cons (hs.ev rfl) (.cons (hs.ev rfl) .nil)) (same_clV (p:=(pr W Sn Hn (sdAt sd d) d ep)) hlf hwl hpl hpl2 _ (hqw.fr0 hs.fr) (hqp.fr0 hs.fr) (Rd.of_row (hs.get (i:=1) rfl)) (Rd.of_row (hs.get (i:=0) rfl))) rfl fun ac ww v22 hf hp hs=>?_
    obtain rfl:=hp
    replace hs:=hs [] (.nil _ _)
    refine s_q hs (c_pick (hs.ev rfl) (hs.ev rfl) (hs.ev rfl)) rfl fun ac hs=>?_
    refine s_q hs (c_assign (hs.ev rfl)) rfl fun ac hs=>?_
    refine s_end ?_
    replace hs:=hs.sub (F':=[(8,_)]) ⟨rfl,trivial⟩
    refine then_n (wp_ret ?_)
    refine s_ret hs rfl (.tmp (hs.tmp rfl) .nil) rfl ⟨_,rfl,hs.fr,?_⟩
    rfl
end Go.Proofs.YtklajbdbnnceiaaGreat
end

section
/- The reference's ledger. -/
namespace Go.Proofs.YtklajbdbnnceiaaGreat
open Go Go.Fw
def ledC (v:Value) (wh:Int→Bool):List Value:=[v,.bool (wh 0),.bool (wh 1),.bool (wh 2),.bool (wh 3),.bool (wh 4),.bool (wh 5),.bool (wh 6),.bool (wh 7)]
theorem dlt {d:Int} (h:(decide (0≤d) && decide (d < 8))=true):d=(d.toNat:Int)∧d.toNat < 8:=by
  simp at h
  omega
theorem ledC_at (v:Value) (wh:Int→Bool) {d:Int} (h:(decide (0≤d) && decide (d < 8))=true):(ledC v wh)[0 + 1 + d.toNat * 1]?=some (.bool (wh d)):=by
  obtain ⟨e,h8⟩:=dlt h
  generalize d.toNat=n at e h8
  subst e
  have:n=0∨n=1∨n=2∨n=3∨n=4∨n=5∨n=6∨n=7:=by omega
  rcases this with rfl | rfl | rfl | rfl | rfl | rfl | rfl | rfl <;> rfl
def hitC (c s:Cl):Bool:=decide (s=c) || (decide (s.d=c.d) && decide (s.ep=c.ep) && decide (s.sq=c.sq) && decide (s.mt < c.mt))
def mayR (wh:Int→Bool) (l:List Cl) (c:Cl):Bool:=(wOk c.d && wh c.d) || l.any (hitC c)
theorem any_succ {l:List Cl} {k:Nat} (h:k < l.length) (f:Cl→Bool):(l.take (k + 1)).any f=((l.take k).any f || f (l.getD k default)):=by
  rw [List.take_add_one,List.any_append,getD_at h,List.getElem?_eq_getElem h]
  simp
theorem ref28_May (v:Value) (l:List Cl) (wh:Int→Bool) (c:Cl) (w:World) (hlr:Rd w v l.length (clsC l)):Ctr Tryz.prog 96 [.agg (ledC v wh).toArray,c.v] w (fun _=>False) (fun v2 _=>v2=.bool (mayR wh l c)):=by
  have hnl:=hlr.le
  obtain ⟨vad,vcap,rfl,hvc,hvm⟩:=Rd.sl hlr
  refine fn_start (N:=71) Tryz.func96 rfl rfl rfl fun ac hk=>?_
  have hs:=St.start hk w
  refine wp_seq (wp_reg ?_)
  refine s_box hs rfl rfl rfl fun ac ww g2 hs=>?_
  refine s_box hs rfl rfl rfl fun ac ww g3 hs=>?_
  refine s_q hs (c_assign (hs.ev rfl)) rfl fun ac hs=>?_
  refine s_end ?_
  replace hs:=hs.sub (F':=[(2,_),(3,_),(4,_)]) ⟨rfl,rfl,rfl,trivial⟩
  refine then_n (wp_seq (wp_seq (wp_reg ?_)))
  refine s_q hs (c_fld fl54_0 (hs.ev rfl)) rfl fun ac hs=>?_
  refine s_q hs (c_loadS un3 rfl (hs.ev rfl) (hs.seg (i:=0) rfl) rfl) rfl fun ac hs=>?_
  refine s_q hs (c_geqI (hs.ev rfl) (hs.ev rfl)) rfl fun ac hs=>?_
  refine s_q hs (c_move (hs.ev rfl)) rfl fun ac hs=>?_
  refine s_g hs rfl rfl (fun hg=>c_fld fl54_0 (hs.ev rfl)) rfl fun ac hs=>?_
  refine s_g hs rfl rfl (fun hg=>c_loadS un3 rfl (gev (hs.ev rfl) hg) (hs.seg (i:=0) rfl) rfl) rfl fun ac hs=>?_
  refine s_g hs rfl rfl (fun hg=>c_lssI (gev (hs.ev rfl) hg) (hs.ev rfl)) rfl fun ac hs=>?_
  refine s_q hs (c_and (hs.ev rfl) (hs.ev rfl)) rfl fun ac hs=>?_
  refine s_q hs (c_move (hs.ev rfl)) rfl fun ac hs=>?_
  refine s_g hs rfl rfl (fun hg=>c_fld fl54_0 (hs.ev rfl)) rfl fun ac hs=>?_
  refine s_g hs rfl rfl (fun hg=>c_loadS un3 rfl (gev (hs.ev rfl) hg) (hs.seg (i:=0) rfl) rfl) rfl fun ac hs=>?_
  refine s_g hs rfl rfl (fun hg=>c_fld fl112_1 (hs.ev rfl)) rfl fun ac hs=>?_
  refine s_g hs rfl rfl (fun hg=>c_idxA (j:=c.d.toNat) un110 ty4 (gev (hs.ev rfl) hg) (gev (hs.ev rfl) hg) (dlt hg).1 (dlt hg).2) rfl fun ac hs=>?_
  refine s_g hs rfl rfl (fun hg=>c_loadS un4 rfl (gev (hs.ev rfl) hg) (hs.seg (i:=1) rfl) (ledC_at _ wh hg)) rfl fun ac hs=>?_
  refine s_q hs (c_and (hs.ev rfl) (hs.ev rfl)) rfl fun ac hs=>?_
  refine s_end ?_
  replace hs:=hs.sub (F':=[(2,_),(3,_),(4,_),(21,_)]) ⟨rfl,rfl,rfl,rfl,trivial⟩
  refine then_n ?_
  refine s_cond hs rfl (fun hc=>?_) (fun hc=>?_)
  · skip
    refine wp_seq (wp_reg ?_)
    refine s_q hs (c_assign (hs.ev rfl)) rfl fun ac hs=>?_
    refine s_end ?_
    replace hs:=hs.sub (F':=[(2,_),(3,_),(4,_)]) ⟨rfl,rfl,rfl,trivial⟩
    refine then_n (wp_ret (then_r ?_))
    refine s_ret hs rfl (.tmp (hs.tmp rfl) .nil) rfl ⟨_,rfl,hs.fr,?_⟩
    show _=Value.bool (mayR wh l c)
    rw [mayR,wOk,hc]
    rfl
  · skip
    refine wp_skip (then_n (wp_seq (wp_seq (wp_reg ?_))))
    refine s_q hs (c_assign (hs.ev rfl)) rfl fun ac hs=>?_
    refine s_end ?_
    replace hs:=hs.sub (F':=[(2,_),(3,_),(4,_),(5,_)]) ⟨rfl,rfl,rfl,rfl,trivial⟩
    refine then_n (wp_block ?_)
    have hc0:(wOk c.d && wh c.d)=false:=hc
    refine s_loop hs (X:=Nat) (fun k=>[(5,I k)]) [(2,_),(3,_)] (fun _=>[.seg g3 c.c 54,.seg g2 (ledC (.slice vad l.length vcap) wh) 112]) (fun n k=>k≤l.length∧(l.take k).any (hitC c)=false∧n=l.length - k) (_) (0) (⟨Nat.zero_le _,rfl,rfl⟩) ⟨rfl,rfl,rfl,trivial⟩ rfl ?_
    rintro n k ac ww hok hs
    simp only [List.cons_append,List.nil_append] at hs
    obtain ⟨hk,hne,rfl⟩:=hok
    refine wp_seq (wp_seq (wp_reg ?_))
    refine s_q hs (c_move (hs.ev rfl)) rfl fun ac hs=>?_
    refine s_q hs (c_fld fl112_0 (hs.ev rfl)) rfl fun ac hs=>?_
    refine s_q hs (c_loadS un109 rfl (hs.ev rfl) (hs.seg (i:=1) rfl) rfl) rfl fun ac hs=>?_
    refine s_q hs (c_lenS un109 (hs.ev rfl)) rfl fun ac hs=>?_
    refine s_q hs (c_lssI (hs.ev rfl) (hs.ev rfl)) rfl fun ac hs=>?_
    refine s_end (then_n ?_)
    refine s_cond hs rfl (fun hc=>?_) (fun hc=>?_)
    · try simp only [decide_eq_true_eq,decide_eq_false_iff_not,Bool.not_eq_true',Bool.not_eq_false',Bool.and_eq_true,Bool.or_eq_true,Bool.or_eq_false_iff] at hc
      have hkn:k < l.length:=by omega
      obtain ⟨pb,po,pT,pf,pall,rfl,hpb,hps⟩:=Rd.cls_at hlr (by omega)
      obtain ⟨x,hx⟩:∃ x,l.getD k default=x:=⟨_,rfl⟩
      refine wp_skip (then_n (wp_seq (wp_block (wp_seq (wp_reg ?_)))))
      refine s_q hs (c_fld fl112_0 (hs.ev rfl)) rfl fun ac hs=>?_
      refine s_q hs (c_loadS un109 rfl (hs.ev rfl) (hs.seg (i:=1) rfl) rfl) rfl fun ac hs=>?_
      refine s_q hs (c_move (hs.ev rfl)) rfl fun ac hs=>?_
      refine s_q hs (c_idxS (j:=k) un109 ty54 (hs.ev rfl) (hs.ev rfl) (by omega) (by omega)) rfl fun ac hs=>?_
      refine s_q hs (c_loadA ty54 ag54 (hs.ev rfl) (hs.old hpb id) ((cls_piece hps hkn).trans (congrArg Cl.c hx)) (by rfl)) rfl fun ac hs=>?_
      refine s_alloc hs ty54 rfl fun ac ww g6 hs=>?_
      refine s_storeW (i:=0) hs ty54 rfl rfl rfl (by rfl) (by rfl) rfl fun ww hs=>?_
      refine s_end (then_n (wp_seq (wp_reg ?_)))
      refine s_q hs (c_loadW ty54 ag54 (hs.ev rfl) (hs.seg (i:=0) rfl) (by rfl)) rfl fun ac hs=>?_
      refine s_q hs (c_loadW ty54 ag54 (hs.ev rfl) (hs.seg (i:=1) rfl) (by rfl)) rfl fun ac hs=>?_
      refine s_q hs (c_eqlClaimR (s:=x) (c:=c) (hs.ev rfl) (hs.ev rfl)) rfl fun ac hs=>?_
      refine s_q hs (c_move (hs.ev rfl)) rfl fun ac hs=>?_
      refine s_g hs rfl rfl (fun hg=>c_fld fl54_0 (hs.ev rfl)) rfl fun ac hs=>?_
      refine s_g hs rfl rfl (fun hg=>c_loadS un3 rfl (gev (hs.ev rfl) hg) (hs.seg (i:=0) rfl) rfl) rfl fun ac hs=>?_
      refine s_g hs rfl rfl (fun hg=>c_fld fl54_0 (hs.ev rfl)) rfl fun ac hs=>?_
      refine s_g hs rfl rfl (fun hg=>c_loadS un3 rfl (gev (hs.ev rfl) hg) (hs.seg (i:=1) rfl) rfl) rfl fun ac hs=>?_
      refine s_g hs rfl rfl (fun hg=>c_eqlI (gev (hs.ev rfl) hg) (gev (hs.ev rfl) hg)) rfl fun ac hs=>?_
      refine s_g hs rfl rfl (fun hg=>c_move (gev (hs.ev rfl) hg)) rfl fun ac hs=>?_
      refine s_gn hs rfl rfl (fun hc hg=>c_fld fl54_1 (hs.ev rfl)) rfl fun ac hs=>?_
      refine s_gn hs rfl rfl (fun hc hg=>c_fld fl52_0 (gev (gev (hs.ev rfl) hc) hg)) rfl fun ac hs=>?_
      refine s_gn hs rfl rfl (fun hc hg=>c_loadS un25 rfl (gev (gev (hs.ev rfl) hc) hg) (hs.seg (i:=0) rfl) rfl) rfl fun ac hs=>?_
      refine s_gn hs rfl rfl (fun hc hg=>c_fld fl54_1 (hs.ev rfl)) rfl fun ac hs=>?_
      refine s_gn hs rfl rfl (fun hc hg=>c_fld fl52_0 (gev (gev (hs.ev rfl) hc) hg)) rfl fun ac hs=>?_
      refine s_gn hs rfl rfl (fun hc hg=>c_loadS un25 rfl (gev (gev (hs.ev rfl) hc) hg) (hs.seg (i:=1) rfl) rfl) rfl fun ac hs=>?_
      refine s_gn hs rfl rfl (fun hc hg=>c_eqlU (gev (gev (hs.ev rfl) hc) hg) (gev (gev (hs.ev rfl) hc) hg)) rfl fun ac hs=>?_
      refine s_g hs rfl rfl (fun hg=>c_and (gev (hs.ev rfl) hg) (gev (hs.ev rfl) hg)) rfl fun ac hs=>?_
      refine s_g hs rfl rfl (fun hg=>c_move (gev (hs.ev rfl) hg)) rfl fun ac hs=>?_
      refine s_gn hs rfl rfl (fun hc hg=>c_fld fl54_1 (hs.ev rfl)) rfl fun ac hs=>?_
      refine s_gn hs rfl rfl (fun hc hg=>c_fld fl52_1 (gev (gev (hs.ev rfl) hc) hg)) rfl fun ac hs=>?_
      refine s_gn hs rfl rfl (fun hc hg=>c_loadS un25 rfl (gev (gev (hs.ev rfl) hc) hg) (hs.seg (i:=0) rfl) rfl) rfl fun ac hs=>?_
      refine s_gn hs rfl rfl (fun hc hg=>c_fld fl54_1 (hs.ev rfl)) rfl fun ac hs=>?_
      refine s_gn hs rfl rfl (fun hc hg=>c_fld fl52_1 (gev (gev (hs.ev rfl) hc) hg)) rfl fun ac hs=>?_
      refine s_gn hs rfl rfl (fun hc hg=>c_loadS un25 rfl (gev (gev (hs.ev rfl) hc) hg) (hs.seg (i:=1) rfl) rfl) rfl fun ac hs=>?_
      refine s_gn hs rfl rfl (fun hc hg=>c_eqlU (gev (gev (hs.ev rfl) hc) hg) (gev (gev (hs.ev rfl) hc) hg)) rfl fun ac hs=>?_
      refine s_g hs rfl rfl (fun hg=>c_and (gev (hs.ev rfl) hg) (gev (hs.ev rfl) hg)) rfl fun ac hs=>?_
      refine s_g hs rfl rfl (fun hg=>c_move (gev (hs.ev rfl) hg)) rfl fun ac hs=>?_
      refine s_gn hs rfl rfl (fun hc hg=>c_fld fl54_1 (hs.ev rfl)) rfl fun ac hs=>?_
      refine s_gn hs rfl rfl (fun hc hg=>c_fld fl52_2 (gev (gev (hs.ev rfl) hc) hg)) rfl fun ac hs=>?_
      refine s_gn hs rfl rfl (fun hc hg=>c_loadS un3 rfl (gev (gev (hs.ev rfl) hc) hg) (hs.seg (i:=0) rfl) rfl) rfl fun ac hs=>?_
      refine s_gn hs rfl rfl (fun hc hg=>c_fld fl54_1 (hs.ev rfl)) rfl fun ac hs=>?_
      refine s_gn hs rfl rfl (fun hc hg=>c_fld fl52_2 (gev (gev (hs.ev rfl) hc) hg)) rfl fun ac hs=>?_
      refine s_gn hs rfl rfl (fun hc hg=>c_loadS un3 rfl (gev (gev (hs.ev rfl) hc) hg) (hs.seg (i:=1) rfl) rfl) rfl fun ac hs=>?_
      refine s_gn hs rfl rfl (fun hc hg=>c_lssI (gev (gev (hs.ev rfl) hc) hg) (gev (gev (hs.ev rfl) hc) hg)) rfl fun ac hs=>?_
      refine s_g hs rfl rfl (fun hg=>c_and (gev (hs.ev rfl) hg) (gev (hs.ev rfl) hg)) rfl fun ac hs=>?_
      refine s_q hs (c_or (hs.ev rfl) (hs.ev rfl)) rfl fun ac hs=>?_
      refine s_end (then_n ?_)
      refine s_cond hs rfl (fun hc=>?_) (fun hc=>?_)
      · skip
        have hyes:hitC c x=true:=hc
        refine wp_seq (wp_reg ?_)
        refine s_q hs (c_assign (hs.ev rfl)) rfl fun ac hs=>?_
        refine s_end (then_n (wp_ret (blk_r (then_r (then_r (blk_r (then_r ?_)))))))
        refine s_ret hs rfl (.tmp (hs.tmp rfl) .nil) rfl ⟨_,rfl,hs.fr,?_⟩
        show _=Value.bool (mayR wh l c)
        rw [mayR,hc0,List.any_eq_true.2 ⟨x,hx ▸ (getD_at hkn ▸ List.getElem_mem hkn),hyes⟩]
        rfl
      · skip
        have hno:hitC c x=false:=hc
        refine wp_skip (blk_n (then_n (wp_reg ?_)))
        refine s_q hs (c_move (hs.ev rfl)) rfl fun ac hs=>?_
        refine s_q hs (c_addI (hs.ev rfl) (hs.ev rfl) (by omega) (by omega)) rfl fun ac hs=>?_
        refine s_q hs (c_assign (hs.ev rfl)) rfl fun ac hs=>?_
        refine s_end (then_n ?_)
        replace hs:=hs.pick (L':=[_,_]) (.cons _ (.refl _))
        exact ⟨l.length - (k + 1),by omega,k + 1,⟨by omega,by rw [any_succ hkn,hne,hx,hno]; rfl,rfl⟩,St.next hs ⟨rfl,rfl,rfl,trivial⟩ rfl⟩
    · try simp only [decide_eq_true_eq,decide_eq_false_iff_not,Bool.not_eq_true',Bool.not_eq_false',Bool.and_eq_true,Bool.or_eq_true,Bool.or_eq_false_iff] at hc
      obtain rfl:k=l.length:=by omega
      refine wp_exit (then_e (then_e (blk_hit (then_n (wp_seq (wp_reg ?_))))))
      refine s_q hs (c_assign (hs.ev rfl)) rfl fun ac hs=>?_
      refine s_end ?_
      replace hs:=hs.sub (F':=[(4,_)]) ⟨rfl,trivial⟩
      refine then_n (wp_ret ?_)
      refine s_ret hs rfl (.tmp (hs.tmp rfl) .nil) rfl ⟨_,rfl,hs.fr,?_⟩
      show _=Value.bool (mayR wh l c)
      rw [List.take_length] at hne
      rw [mayR,hc0,hne]
      rfl
end Go.Proofs.YtklajbdbnnceiaaGreat
end

section
/- No oracle,no ledger; a ledger awake. -/
namespace Go.Proofs.YtklajbdbnnceiaaGreat
open Go Go.Fw
theorem tr_awake  (w:World) :Ctr Tryz.prog 48 [] w (fun _=>False) (fun v _=>v=.bool true):=by
  refine fn_start (N:=37) Tryz.func48 rfl rfl rfl fun ac hk=>?_
  have hs:=St.start hk w
  refine wp_seq (wp_reg ?_)
  refine s_q hs (c_assign (hs.ev rfl)) rfl fun ac hs=>?_
  refine s_end (then_n (wp_seq (wp_reg ?_)))
  refine s_call hs fu52 .nil (tr_Open _) rfl fun ac ww v5 hf hp hs=>?_
  obtain ⟨gl,mb,rfl,hh⟩:=hp
  replace hs:=hs _ (Has.grp' hh)
  refine s_q hs (c_assign (hs.ev rfl)) rfl fun ac hs=>?_
  refine s_end ?_
  replace hs:=hs.sub (F':=[(0,_),(1,_)]) ⟨rfl,rfl,trivial⟩
  refine then_n (wp_seq (wp_reg ?_))
  refine s_q hs (c_buildQ (zc:=[U 0,U 0,I 2]) ty59 bp59 (.cons (hs.ev rfl) .nil) rfl) rfl fun ac hs=>?_
  refine s_q hs (c_buildS (zc:=[I 1,U 0,U 0,I 2,I 3]) ty61 bp61 (.cons (hs.ev rfl) (.cons (hs.ev rfl) (.cons (hs.ev rfl) .nil))) ⟨rfl,rfl,rfl,trivial⟩ (by simp [flatCells,Value.cells]) rfl) rfl fun ac hs=>?_
  refine s_alloc hs ty61 rfl fun ac ww g2 hs=>?_
  refine s_storeW (i:=0) hs ty61 rfl rfl rfl (by rfl) (by rfl) rfl fun ww hs=>?_
  refine s_end ?_
  replace hs:=hs.sub (F':=[(0,_),(1,_),(2,_)]) ⟨rfl,rfl,rfl,trivial⟩
  refine then_n (wp_seq (wp_seq (wp_reg ?_)))
  refine s_q hs (c_move (hs.ev rfl)) rfl fun ac hs=>?_
  refine s_q hs (c_loadW ty61 ag61 (hs.ev rfl) (hs.seg (i:=0) rfl) (by rfl)) rfl fun ac hs=>?_
  refine s_call hs fu94 (.cons (hs.ev rfl) (.cons (hs.ev rfl) .nil)) (tr_May _ _ _ _ [] (fun _=>false) (⟨1,0,0,2,3⟩:Cl) ⟨by decide,by decide⟩ _ (led_get (hs.get (i:=1) rfl))) rfl fun ac ww v10 hf hp hs=>?_
  obtain rfl:_=Value.bool false:=hp.trans (congrArg Value.bool (by decide))
  replace hs:=hs [] (.nil _ _)
  refine s_q hs (c_move (hs.ev rfl)) rfl fun ac hs=>?_
  refine s_yes hs rfl rfl ?_
  refine s_q hs (c_move (hs.ev rfl)) rfl fun ac hs=>?_
  refine s_yes hs rfl rfl ?_
  refine s_q hs (c_loadW ty61 ag61 (hs.ev rfl) (hs.seg (i:=0) rfl) (by rfl)) rfl fun ac hs=>?_
  refine s_yes hs rfl rfl ?_
  refine s_callM (i:=1) hs fu53 (.cons (hs.ev rfl) (.cons (hs.ev rfl) .nil)) rfl (tr_Show _ _ _ _ [] (fun _=>false) (⟨1,0,0,2,3⟩:Cl) (by decide) _ (hs.get (i:=1) rfl)) rfl fun ac ww v14 hf hp hs=>?_
  obtain ⟨rfl,v',h1,h2⟩:=hp
  replace hs:=hs (Ent.grp (led gl mb 0 v' [(⟨1,0,0,2,3⟩:Cl)] (fun _=>false))) h1 (fun k hk=>⟨h2 k hk,grp_lt h1 k hk⟩)
  refine s_yes hs rfl rfl ?_
  refine s_q hs (c_neqI (hs.ev rfl) (hs.ev rfl)) rfl fun ac hs=>?_
  refine s_q hs (c_pick (hs.ev rfl) (hs.ev rfl) (hs.ev rfl)) rfl fun ac hs=>?_
  refine s_end ?_
  replace hs:=hs.sub (F':=[(0,_),(1,_),(2,_),(16,_)]) ⟨rfl,rfl,rfl,rfl,trivial⟩
  refine then_n ?_
  refine wp_cond_false (hs.ev rfl) ?_
  refine wp_skip (then_n (wp_seq ?_))
  refine wp_region_rgX (J:=[1]) pmix 4 (by kernel_rfl) (by kernel_rfl) rfl rfl hs ?_
  simp only [List.take_succ_cons,List.take_zero]
  refine rg_q (fun ac ww h=>c_loadW ty61 ag61 (h.ev rfl) (h.blk (hs.seg (i:=0) rfl)) (by rfl)) rfl ?_
  refine rg_q (fun ac ww h=>c_loadW ty61 ag61 (h.ev rfl) (h.blk (hs.seg (i:=0) rfl)) (by rfl)) rfl ?_
  refine rg_alloc ty61 rfl ?_
  refine rg_alloc ty61 rfl ?_
  refine rg_nil fun ac ww L' hf hfe hs hlk=>?_
  simp only [List.drop_succ_cons,List.drop_zero]
  obtain ⟨v4,L4,M4,h4,e4,⟨v3,L3,M3,h3,e3,rfl,rfl⟩,rfl⟩:=hfe
  replace hs:=hs.add h4
  replace hs:=hs.add h3
  obtain ⟨g4,rfl,rfl⟩:=e4
  obtain ⟨g3,rfl,rfl⟩:=e3
  refine sk_storeW (i:=1) hs ty61 rfl rfl rfl (by rfl) (by rfl) rfl (fun ww hs=>late_read rfl rfl (hs.know.at_ 18 _ rfl) (c_loadW ty61 ag61 (hs.ev rfl) (hs.seg (i:=2) rfl) (by rfl)) (late_nil)) fun ww hs=>?_
  refine s_storeW (i:=0) hs ty61 rfl rfl rfl (by rfl) (by rfl) rfl fun ww hs=>?_
  refine s_end ?_
  replace hs:=hs.sub (F':=[(0,_),(1,_),(2,_),(3,_),(4,_)]) ⟨rfl,rfl,rfl,rfl,rfl,trivial⟩
  refine then_n (wp_seq (wp_reg ?_))
  refine s_q hs (c_fld fl61_2 (hs.ev rfl)) rfl fun ac hs=>?_
  refine s_store (i:=1) hs ty3 rfl rfl rfl rfl rfl rfl (by simp) rfl fun ww hs=>?_
  refine s_q hs (c_fld fl61_2 (hs.ev rfl)) rfl fun ac hs=>?_
  refine s_store (i:=0) hs ty3 rfl rfl rfl rfl rfl rfl (by simp) rfl fun ww hs=>?_
  refine s_q hs (c_fld fl61_1 (hs.ev rfl)) rfl fun ac hs=>?_
  refine s_q hs (c_fld fl59_2 (hs.ev rfl)) rfl fun ac hs=>?_
  refine s_store (i:=0) hs ty3 rfl rfl rfl rfl rfl rfl (by simp) rfl fun ww hs=>?_
  refine s_end ?_
  replace hs:=hs.sub (F':=[(0,_),(1,_),(2,_),(3,_),(4,_)]) ⟨rfl,rfl,rfl,rfl,rfl,trivial⟩
  refine then_n (wp_seq (wp_reg ?_))
  refine s_q hs (c_move (hs.ev rfl)) rfl fun ac hs=>?_
  refine s_q hs (c_loadW ty61 ag61 (hs.ev rfl) (hs.seg (i:=2) rfl) (by rfl)) rfl fun ac hs=>?_
  refine s_call hs fu94 (.cons (hs.ev rfl) (.cons (hs.ev rfl) .nil)) (tr_May _ _ _ _ [(⟨1,0,0,2,3⟩:Cl)] (fun _=>false) (⟨1,0,0,2,3⟩:Cl) ⟨by decide,by decide⟩ _ (led_get (hs.get (i:=3) rfl))) rfl fun ac ww v25 hf hp hs=>?_
  obtain rfl:_=Value.bool true:=hp.trans (congrArg Value.bool (by decide))
  replace hs:=hs [] (.nil _ _)
  refine s_q hs (c_move (hs.ev rfl)) rfl fun ac hs=>?_
  refine s_yes hs rfl rfl ?_
  refine s_q hs (c_move (hs.ev rfl)) rfl fun ac hs=>?_
  refine s_yes hs rfl rfl ?_
  refine s_q hs (c_loadW ty61 ag61 (hs.ev rfl) (hs.seg (i:=1) rfl) (by rfl)) rfl fun ac hs=>?_
  refine s_yes hs rfl rfl ?_
  refine s_call hs fu94 (.cons (hs.ev rfl) (.cons (hs.ev rfl) .nil)) (tr_May _ _ _ _ [(⟨1,0,0,2,3⟩:Cl)] (fun _=>false) (⟨1,0,0,2,2⟩:Cl) ⟨by decide,by decide⟩ _ (led_get (hs.get (i:=3) rfl))) rfl fun ac ww v29 hf hp hs=>?_
  obtain rfl:_=Value.bool false:=hp.trans (congrArg Value.bool (by decide))
  replace hs:=hs [] (.nil _ _)
  refine s_yes hs rfl rfl ?_
  refine s_q hs (c_not (hs.ev rfl)) rfl fun ac hs=>?_
  refine s_q hs (c_pick (hs.ev rfl) (hs.ev rfl) (hs.ev rfl)) rfl fun ac hs=>?_
  refine s_q hs (c_move (hs.ev rfl)) rfl fun ac hs=>?_
  refine s_yes hs rfl rfl ?_
  refine s_q hs (c_move (hs.ev rfl)) rfl fun ac hs=>?_
  refine s_yes hs rfl rfl ?_
  refine s_q hs (c_loadW ty61 ag61 (hs.ev rfl) (hs.seg (i:=0) rfl) (by rfl)) rfl fun ac hs=>?_
  refine s_yes hs rfl rfl ?_
  refine s_call hs fu94 (.cons (hs.ev rfl) (.cons (hs.ev rfl) .nil)) (tr_May _ _ _ _ [(⟨1,0,0,2,3⟩:Cl)] (fun _=>false) (⟨1,0,0,3,2⟩:Cl) ⟨by decide,by decide⟩ _ (led_get (hs.get (i:=3) rfl))) rfl fun ac ww v35 hf hp hs=>?_
  obtain rfl:_=Value.bool true:=hp.trans (congrArg Value.bool (by decide))
  replace hs:=hs [] (.nil _ _)
  refine s_q hs (c_pick (hs.ev rfl) (hs.ev rfl) (hs.ev rfl)) rfl fun ac hs=>?_
  refine s_q hs (c_assign (hs.ev rfl)) rfl fun ac hs=>?_
  refine s_end ?_
  replace hs:=hs.sub (F':=[(0,_)]) ⟨rfl,trivial⟩
  refine then_n (wp_ret ?_)
  refine s_ret hs rfl (.tmp (hs.tmp rfl) .nil) rfl ⟨_,rfl,hs.fr,?_⟩
  rfl
end Go.Proofs.YtklajbdbnnceiaaGreat
end

section
/- The law of what the oracle owns. -/
namespace Go.Proofs.YtklajbdbnnceiaaGreat
open Go Go.Fw
open Sha
theorem RdT.piece {w:World} {b cap n:Nat} {ws:List UInt8} {T:TypeId} (h:RdT w (.slice (some ⟨b,0,none⟩) n cap) n 32 (ws.map B) T) {k:Nat} (hk:k < n):∃ cur,w.heap[b]?=some (.cells cur T (0,0))∧(cur.toList.drop (0 + k * 32)).take 32=((ws.drop (k * 32)).take 32).map B:=by
  obtain ⟨h1,g,cap',cur,h2,h3,h4,h5,h6,h7⟩:=h
  cases h2
  exact ⟨cur,h3,piece32 (o:=0) (by rw [List.drop_zero,h7]) (by simpa using h1) hk⟩
theorem RdT.is {w:World} {v:Value} {n:Nat} {l:List Value} {T:TypeId} (h:RdT w v n 32 l T):∃ b cap,v=.slice (some ⟨b,0,none⟩) n cap:=by
  obtain ⟨h1,g,cap',cur,h2,_⟩:=h
  exact ⟨g,cap',h2⟩
theorem Rd.lt {w:World} {v:Value} {n:Nat} {cs:List Value} (h:Rd w v n cs) (h0:cs ≠ []):∀ k,v.ownBlock=some k→k < w.heap.size:=by
  intro k hk
  obtain ⟨b,o,cap',T,fr,all,e,_,_,hb,hc⟩:=Rd.at_ h h0
  subst e
  simp only [Value.ownBlock,Option.some.injEq] at hk
  subst hk
  exact heap_lt hb
theorem Rd.frL {w0 w w':World} {v:Value} {n:Nat} {cs:List Value} {M:Nat→Prop} (h0:Rd w0 v n cs) (h:Rd w v n cs) (hf:Fr M w w') (hM:∀ k,M k→w0.heap.size≤k):Rd w' v n cs:=by
  by_cases e:cs=[]
  · obtain ⟨ad,cap,hv,h1,h2,h3,_⟩:=h
    exact ⟨ad,cap,hv,h1,h2,h3,.inl e⟩
  · exact h.fr hf fun k hk hm=>by
      have h5:=Rd.lt h0 e k hk
      have h6:=hM k hm
      omega
end Go.Proofs.YtklajbdbnnceiaaGreat
end

section
/- Judging. -/
namespace Go.Proofs.YtklajbdbnnceiaaGreat
open Go Go.Fw
open Sha
def judV (own may:Bool):Int:=if own=true then (if may=true then 0 else 1) else 2
theorem led_M {w:World} {g mb nb:Nat} {v:Value} {l:List Cl} {wh:Int→Bool} {o:Orc} (h:Has 0 w (led g mb nb v l wh)) (hor:OrAt w o none) (hne:mb ≠ o.mb) {w9:World} (hf:Fr (OrM o none) w w9):LedR w9 g mb nb v l wh:=by
  have hr:=led_get h
  have hm:∀ k,OrM o none k→k=o.mb:=fun k hk=>by
    rcases hk with e | ⟨_,e,_⟩
    · exact e
    · cases e
  obtain ⟨es,cl,hb⟩:=hr.mp.blk
  refine ⟨(hf.block _ (heap_lt hr.hg) fun hk=>hor.mapBlk _ (hm _ hk) _ _ _ hr.hg).trans hr.hg,hr.rd.fr hf fun k hk hk2=>?_,hr.mp.loc (hf.block _ (heap_lt hb) fun hk=>hne (hm _ hk))⟩
  exact orM_kp hor hk2 (row_kp (T:=61) (sz:=5) (h.holds _ (List.mem_of_getElem? (i:=1) rfl)) rfl k hk)
theorem kpB0 {w w':World} {v:Value} (h:∀ k,v.ownBlock=some k→kpB w k) (hf:Fr0 w w'):∀ k,v.ownBlock=some k→kpB w' k:=fun k hk=>by
  obtain ⟨x,hx,h1⟩:=h k hk
  exact ⟨x,(hf.block k (Array.getElem?_eq_some_iff.1 hx).1 id).trans hx,h1⟩
theorem tr_Judge (o:Orc) (s:Option Spr) (d mt sn:Int) (ep sq:UInt32) (sz:Nat) (lf ws ps:List UInt8) (nw np:Nat) (wv pv:Value) (g mb nb:Nat) (v:Value) (l:List Cl) (wh:Int→Bool) (h0:sz≤o.mb) (h2:∀ p,s=some p→p.d=d∧p.ep=ep∧sz≤p.g∧sz≤p.cg) (hlf:lf.length=16) (hwl:ws.length=nw * 16) (hpl:ps.length=np * 16) (hd:-9223372036854775808≤d∧d≤9223372036854775807) (w:World) (hsz:sz≤w.heap.size) (hor:OrAt w o s) (hqw:Rd w wv nw (ws.map B)) (hqp:Rd w pv np (ps.map B)) (hfw:∀ k,wv.ownBlock=some k→kpB w k) (hfp:∀ k,pv.ownBlock=some k→kpB w k) (hled:∀ w9,Fr (OrM o s) w w9→LedR w9 g mb nb v l wh):Ctr Tryz.prog 55 [.pointer (some ⟨o.g,0,none⟩),.pointer (some ⟨g,0,none⟩),.agg #[I d,U ep,U sq,I mt,I sn],credV lf wv pv] w (OrM o s) (fun v w'=>v=I (judV (ownV o d mt sn ep sq lf ws ps) (mayP wh l (⟨d,ep,sq,mt,sn⟩:Cl)))∧OrZ w' o d ep sz):=by
  refine fn_start (N:=19) Tryz.func55 rfl rfl rfl fun ac hk=>?_
  have hs:=St.start hk w
  refine wp_seq (wp_reg ?_)
  refine s_box hs rfl rfl rfl fun ac ww g6 hs=>?_
  refine s_box hs rfl rfl rfl fun ac ww g7 hs=>?_
  refine s_q hs (c_assign (hs.ev rfl)) rfl fun ac hs=>?_
  refine s_end ?_
  replace hs:=hs.sub (F':=[(0,_),(1,_),(6,_),(7,_),(8,_)]) ⟨rfl,rfl,rfl,rfl,rfl,trivial⟩
  refine then_n (wp_seq (wp_block (wp_seq (wp_reg ?_))))
  refine s_q hs (c_move (hs.ev rfl)) rfl fun ac hs=>?_
  refine s_q hs (c_loadW ty61 ag61 (hs.ev rfl) (hs.seg (i:=1) rfl) (by rfl)) rfl fun ac hs=>?_
  refine s_q hs (c_loadW ty56 ag56 (hs.ev rfl) (hs.seg (i:=0) rfl) (by simp [hlf])) rfl fun ac hs=>?_
  have hfr1:=hs.fr
  have hb6p:=hs.seg (i:=1) rfl
  have hor1:=hor.fr0 hs.fr
  refine s_callR hs fu57 (.cons (hs.ev rfl) (.cons (hs.ev rfl) (.cons (hs.ev rfl) .nil))) (own_at h0 hor1 h2 (Nat.le_trans hsz hs.fr.size) mt sn sq lf ws ps nw np _ _ hlf hwl hpl (hqw.fr0 hs.fr) (hqp.fr0 hs.fr) (kpB0 hfw hs.fr) (kpB0 hfp hs.fr)) rfl fun ac ww v13 hf hp hs=>?_
  obtain ⟨rfl,hz⟩:=hp
  have hb6:=keepKB hor1 hf _ _ hb6p rfl
  have hfrA:=(Fr.mono hfr1 (fun _ _=>False.elim):Fr (OrM o s) _ _).trans hf fun _ _ h=>h
  have hlr:=hled _ hfrA
  cases hov:ownV o d mt sn ep sq lf ws ps
  · refine s_q hs (c_tt (c_not (hs.ev rfl)) ((by rw [hov]; rfl))) rfl fun ac hs=>?_
    refine s_q hs (c_assign (hs.ev rfl)) rfl fun ac hs=>?_
    refine s_end ?_
    replace hs:=hs.sub (F':=[(1,_),(6,_),(8,_),(9,_)]) ⟨rfl,rfl,rfl,rfl,trivial⟩
    refine then_n ?_
    refine wp_cond_true (hs.ev rfl) ?_
    refine wp_seq (wp_reg ?_)
    refine s_q hs (c_assign (hs.ev rfl)) rfl fun ac hs=>?_
    refine s_end ?_
    replace hs:=hs.sub (F':=[(1,_),(6,_),(8,_)]) ⟨rfl,rfl,rfl,trivial⟩
    refine then_n (wp_ret (blk_r (then_r ?_)))
    refine s_ret hs rfl (.tmp (hs.tmp rfl) .nil) rfl ⟨_,rfl,(hfrA.trans0 hs.fr),?_⟩
    exact ⟨rfl,hz.fr0 hs.fr⟩
  · refine s_q hs (c_ff (c_not (hs.ev rfl)) ((by rw [hov]; rfl))) rfl fun ac hs=>?_
    refine s_q hs (c_assign (hs.ev rfl)) rfl fun ac hs=>?_
    refine s_end ?_
    replace hs:=hs.sub (F':=[(1,_),(6,_),(8,_),(9,_)]) ⟨rfl,rfl,rfl,rfl,trivial⟩
    refine then_n ?_
    refine wp_cond_false (hs.ev rfl) ?_
    refine wp_seq (wp_reg ?_)
    refine s_q hs (c_move (hs.ev rfl)) rfl fun ac hs=>?_
    refine s_q hs (c_loadW ty61 ag61 (hs.ev rfl) (hs.old hb6 id) (by rfl)) rfl fun ac hs=>?_
    refine s_call hs fu94 (.cons (hs.ev rfl) (.cons (hs.ev rfl) .nil)) (tr_May g mb nb v l wh (⟨d,ep,sq,mt,sn⟩:Cl) hd _ (hlr.fr0 hs.fr)) rfl fun ac ww v18 hf hp hs=>?_
    obtain rfl:=hp
    replace hs:=hs [] (.nil _ _)
    refine s_q hs (c_assign (hs.ev rfl)) rfl fun ac hs=>?_
    refine s_end ?_
    replace hs:=hs.sub (F':=[(8,_),(15,_)]) ⟨rfl,rfl,trivial⟩
    refine then_n ?_
    refine s_cond hs rfl (fun hc=>?_) (fun hc=>?_)
    · skip
      have hmy:mayP wh l (⟨d,ep,sq,mt,sn⟩:Cl)=true:=hc
      refine wp_seq (wp_reg ?_)
      refine s_q hs (c_assign (hs.ev rfl)) rfl fun ac hs=>?_
      refine s_end ?_
      replace hs:=hs.sub (F':=[(8,_)]) ⟨rfl,trivial⟩
      refine then_n (wp_ret (blk_r (then_r ?_)))
      refine s_ret hs rfl (.tmp (hs.tmp rfl) .nil) rfl ⟨_,rfl,(hfrA.trans0 hs.fr),?_⟩
      exact ⟨by rw [hmy]; rfl,hz.fr0 hs.fr⟩
    · skip
      have hmy:mayP wh l (⟨d,ep,sq,mt,sn⟩:Cl)=false:=hc
      refine wp_skip (blk_n (then_n (wp_seq (wp_reg ?_))))
      refine s_q hs (c_assign (hs.ev rfl)) rfl fun ac hs=>?_
      refine s_end ?_
      replace hs:=hs.sub (F':=[(8,_)]) ⟨rfl,trivial⟩
      refine then_n (wp_ret ?_)
      refine s_ret hs rfl (.tmp (hs.tmp rfl) .nil) rfl ⟨_,rfl,(hfrA.trans0 hs.fr),?_⟩
      exact ⟨by rw [hmy]; rfl,hz.fr0 hs.fr⟩
theorem ref28_Judge (W:Int) (Sn Hn n:Nat) (sd:List UInt8) (v:Value) (hsd:sd.length=n * 32) (hnW:(n:Int)=W) (d mt sn:Int) (ep sq:UInt32) (lf ws ps:List UInt8) (nw np:Nat) (wv pv rv:Value) (l:List Cl) (wh:Int→Bool) (hlf:lf.length=16) (hwl:ws.length=nw * 16) (hpl:ps.length=np * 16) (w:World) (hq:Rd w v n (sd.map B)) (hqw:Rd w wv nw (ws.map B)) (hqp:Rd w pv np (ps.map B)) (hlr:Rd w rv l.length (clsC l)):Ctr Tryz.prog 56 [.agg #[I W,I (Sn:Nat),I (Hn:Nat)],v,.agg (ledC rv wh).toArray,.agg #[I d,U ep,U sq,I mt,I sn],credV lf wv pv] w (fun _=>False) (fun v2 _=>v2=I (judV (clRight W Sn Hn d mt sn ep sq && clV (pr W Sn Hn (sdAt sd d) d ep) mt sn sq lf ws ps) (mayR wh l (⟨d,ep,sq,mt,sn⟩:Cl)))):=by
  obtain ⟨wad,wcap,rfl,hwc,hwm⟩:=Rd.sl hqw
  obtain ⟨pad,pcap,rfl,hpc0,hpm0⟩:=Rd.sl hqp
  obtain ⟨rad,rcap,rfl,hrc0,hrm0⟩:=Rd.sl hlr
  refine fn_start (N:=20) Tryz.func56 rfl rfl rfl fun ac hk=>?_
  have hs:=St.start hk w
  refine wp_seq (wp_reg ?_)
  refine s_box hs rfl rfl rfl fun ac ww g5 hs=>?_
  refine s_box hs rfl rfl rfl fun ac ww g7 hs=>?_
  refine s_box hs rfl rfl rfl fun ac ww g8 hs=>?_
  refine s_box hs rfl rfl rfl fun ac ww g9 hs=>?_
  refine s_q hs (c_assign (hs.ev rfl)) rfl fun ac hs=>?_
  refine s_end ?_
  replace hs:=hs.sub (F':=[(1,_),(5,_),(7,_),(8,_),(9,_),(10,_)]) ⟨rfl,rfl,rfl,rfl,rfl,rfl,trivial⟩
  refine then_n (wp_seq (wp_seq (wp_reg ?_)))
  refine s_q hs (c_loadW ty23 ag23 (hs.ev rfl) (hs.seg (i:=3) rfl) (by rfl)) rfl fun ac hs=>?_
  refine s_q hs (c_move (hs.ev rfl)) rfl fun ac hs=>?_
  refine s_q hs (c_loadW ty54 ag54 (hs.ev rfl) (hs.seg (i:=1) rfl) (by rfl)) rfl fun ac hs=>?_
  refine s_q hs (c_loadW ty66 ag66 (hs.ev rfl) (hs.seg (i:=0) rfl) (by simp [hlf])) rfl fun ac hs=>?_
  refine s_call hs fu58 (.cons (hs.ev rfl) (.cons (hs.ev rfl) (.cons (hs.ev rfl) (.cons (hs.ev rfl) .nil)))) (ref28_Own W Sn Hn n sd _ hsd hnW d mt sn ep sq lf ws ps nw np _ _ hlf hwl hpl _ (hq.fr0 hs.fr) (hqw.fr0 hs.fr) (hqp.fr0 hs.fr)) rfl fun ac ww v15 hf hp hs=>?_
  obtain rfl:=hp
  replace hs:=hs [] (.nil _ _)
  cases hov:(clRight W Sn Hn d mt sn ep sq && clV (pr W Sn Hn (sdAt sd d) d ep) mt sn sq lf ws ps)
  · refine s_q hs (c_tt (c_not (hs.ev rfl)) ((by rw [hov]; rfl))) rfl fun ac hs=>?_
    refine s_end ?_
    replace hs:=hs.sub (F':=[(7,_),(8,_),(10,_),(16,_)]) ⟨rfl,rfl,rfl,rfl,trivial⟩
    refine then_n ?_
    refine wp_cond_true (hs.ev rfl) ?_
    refine wp_seq (wp_reg ?_)
    refine s_q hs (c_assign (hs.ev rfl)) rfl fun ac hs=>?_
    refine s_end ?_
    replace hs:=hs.sub (F':=[(7,_),(8,_),(10,_)]) ⟨rfl,rfl,rfl,trivial⟩
    refine then_n (wp_ret (then_r ?_))
    refine s_ret hs rfl (.tmp (hs.tmp rfl) .nil) rfl ⟨_,rfl,hs.fr,?_⟩
    rfl
  · refine s_q hs (c_ff (c_not (hs.ev rfl)) ((by rw [hov]; rfl))) rfl fun ac hs=>?_
    refine s_end ?_
    replace hs:=hs.sub (F':=[(7,_),(8,_),(10,_),(16,_)]) ⟨rfl,rfl,rfl,rfl,trivial⟩
    refine then_n ?_
    refine wp_cond_false (hs.ev rfl) ?_
    refine wp_skip (then_n (wp_seq (wp_seq (wp_reg ?_))))
    refine s_q hs (c_loadW ty112 ag112 (hs.ev rfl) (hs.seg (i:=2) rfl) (by rfl)) rfl fun ac hs=>?_
    refine s_q hs (c_loadW ty54 ag54 (hs.ev rfl) (hs.seg (i:=1) rfl) (by rfl)) rfl fun ac hs=>?_
    refine s_call hs fu96 (.cons (hs.ev rfl) (.cons (hs.ev rfl) .nil)) (ref28_May _ l wh (⟨d,ep,sq,mt,sn⟩:Cl) _ (hlr.fr0 hs.fr)) rfl fun ac ww v19 hf hp hs=>?_
    obtain rfl:=hp
    replace hs:=hs [] (.nil _ _)
    refine s_end ?_
    replace hs:=hs.sub (F':=[(10,_),(19,_)]) ⟨rfl,rfl,trivial⟩
    refine then_n ?_
    refine s_cond hs rfl (fun hc=>?_) (fun hc=>?_)
    · skip
      have hmy:mayR wh l (⟨d,ep,sq,mt,sn⟩:Cl)=true:=hc
      refine wp_seq (wp_reg ?_)
      refine s_q hs (c_assign (hs.ev rfl)) rfl fun ac hs=>?_
      refine s_end ?_
      replace hs:=hs.sub (F':=[(10,_)]) ⟨rfl,trivial⟩
      refine then_n (wp_ret (then_r ?_))
      refine s_ret hs rfl (.tmp (hs.tmp rfl) .nil) rfl ⟨_,rfl,hs.fr,?_⟩
      rw [hmy]
      rfl
    · skip
      have hmy:mayR wh l (⟨d,ep,sq,mt,sn⟩:Cl)=false:=hc
      refine wp_skip (then_n (wp_seq (wp_reg ?_)))
      refine s_q hs (c_assign (hs.ev rfl)) rfl fun ac hs=>?_
      refine s_end ?_
      replace hs:=hs.sub (F':=[(10,_)]) ⟨rfl,trivial⟩
      refine then_n (wp_ret ?_)
      refine s_ret hs rfl (.tmp (hs.tmp rfl) .nil) rfl ⟨_,rfl,hs.fr,?_⟩
      rw [hmy]
      rfl
end Go.Proofs.YtklajbdbnnceiaaGreat
end

section
/- The law of ledgers. -/
namespace Go.Proofs.YtklajbdbnnceiaaGreat
open Go Go.Fw
def okC (c:Cl):Prop:=(-9223372036854775808≤c.d∧c.d≤9223372036854775807)∧(-9223372036854775808≤c.mt∧c.mt≤9223372036854775807)∧(-9223372036854775808≤c.sn∧c.sn≤9223372036854775807)
structure Opr where
  k:Int
  x:Cl
  deriving Inhabited
def Opr.c (o:Opr):List Value:=I o.k::o.x.c
theorem opr_piece:∀ (l:List Opr) (k:Nat),k < l.length→((l.flatMap Opr.c).drop (k * 6)).take 6=(l.getD k default).c
  | [],k,h=>by simp at h
  | o::l,0,_=>by
    rw [List.flatMap_cons]
    exact List.take_left' (by rfl)
  | o::l,k + 1,h=>by
    rw [List.flatMap_cons,Nat.succ_mul,Nat.add_comm,← List.drop_drop,List.drop_left' (by rfl),opr_piece l k (by simpa using h)]
    rfl
theorem opr_length:∀ l:List Opr,(l.flatMap Opr.c).length=l.length * 6
  | []=>rfl
  | o::l=>by
    rw [List.flatMap_cons,List.length_append,opr_length l,List.length_cons,Nat.succ_mul]
    show 6 + _=_
    omega
theorem Rd.opr_at {w:World} {ad:Option Addr} {cap:Nat} {l:List Opr} (h:Rd w (.slice ad l.length cap) l.length (l.flatMap Opr.c)) (hn:0 < l.length) :
    ∃ b o T fr all,ad=some ⟨b,o,none⟩∧w.heap[b]?=some (.cells all T fr)∧∀ k,k < l.length→(all.toList.drop (o + k * 6)).take 6=(l.getD k default).c:=by
  obtain ⟨b,o,cap',T,fr,all,e,_,_,hb,hc⟩:=Rd.at_ h (by intro e; have:=congrArg List.length e; rw [opr_length] at this; simp only [List.length_nil] at this; omega)
  cases e
  refine ⟨b,o,T,fr,all,rfl,hb,fun k hk=>?_⟩
  have hle:(k + 1) * 6≤l.length * 6:=Nat.mul_le_mul_right _ (by omega)
  rw [Nat.succ_mul] at hle
  have h2:(((all.toList.drop o).take (l.flatMap Opr.c).length).drop (k * 6)).take 6=((l.flatMap Opr.c).drop (k * 6)).take 6:=by rw [hc]
  rw [opr_length,List.drop_take,List.take_take,Nat.min_eq_left (by omega),List.drop_drop] at h2
  rw [h2,opr_piece l k hk]
theorem near_fold (d:Int) (ep sq:UInt32) (m:Int):∀ (l:List Cl) (b:Int),(∀ s∈l,0≤s.mt)→((0≤l.foldl (nearS d ep sq) b∧l.foldl (nearS d ep sq) b < m) ↔ ((0≤b∧b < m)∨∃ s∈l,s.d=d∧s.ep=ep∧s.sq=sq∧s.mt < m))
  | [],b,_=>by simp
  | s::l,b,h=>by
    rw [List.foldl_cons,near_fold d ep sq m l _ (fun x hx=>h x (List.mem_cons_of_mem _ hx))]
    have hs:=h s (List.mem_cons_self ..)
    unfold nearS
    constructor
    · rintro (h1 | ⟨x,hx,h2⟩)
      · split at h1
        · rename_i h3
          exact .inr ⟨s,List.mem_cons_self ..,h3.1,h3.2.1,h3.2.2.1,h1.2⟩
        · exact .inl h1
      · exact .inr ⟨x,List.mem_cons_of_mem _ hx,h2⟩
    · rintro (h1 | ⟨x,hx,h2⟩)
      · left
        split
        · rename_i h3
          omega
        · exact h1
      · rcases List.mem_cons.1 hx with rfl | hx
        · left
          split
          · exact ⟨hs,h2.2.2.2⟩
          · rename_i h3
            have:¬ (b < 0∨x.mt < b):=fun h4=>h3 ⟨h2.1,h2.2.1,h2.2.2.1,h4⟩
            omega
        · exact .inr ⟨x,hx,h2⟩
theorem may_eq {wh:Int→Bool} {l:List Cl} (c:Cl) (hl:∀ s∈l,0≤s.mt) (hw:∀ d,wh d=true→wOk d=true):mayP wh l c=mayR wh l c:=by
  rw [Bool.eq_iff_iff,mayP,mayR]
  have h1:=near_fold c.d c.ep c.sq c.mt l (-1) hl
  simp only [Bool.or_eq_true,Bool.and_eq_true,decide_eq_true_eq,List.any_eq_true,hitC]
  rw [show near l c.d c.ep c.sq=l.foldl (nearS c.d c.ep c.sq) (-1) from rfl,h1]
  constructor
  · rintro ((h | h) | (h | ⟨s,hs,h⟩))
    · exact .inl ⟨hw _ h,h⟩
    · exact .inr ⟨c,h,.inl rfl⟩
    · omega
    · exact .inr ⟨s,hs,.inr ⟨⟨⟨h.1,h.2.1⟩,h.2.2.1⟩,h.2.2.2⟩⟩
  · rintro (h | ⟨s,hs,(rfl | h)⟩)
    · exact .inl (.inl h.2)
    · exact .inl (.inr hs)
    · exact .inr (.inr ⟨s,hs,h.1.1.1,h.1.1.2,h.1.2,h.2⟩)
structure LS where
  rv:Value
  gv:Value
  l:List Cl
  wh:Int→Bool
  nb:Nat
structure LS.Ok (k:Nat) (s:LS):Prop where
  h1:s.l.length≤k
  h2:s.nb≤k
  h3:∀ y∈s.l,0≤y.mt
  h4:∀ d,s.wh d=true→wOk d=true
theorem LS.okA {k nb:Nat} {rv gv rv' gv':Value} {l:List Cl} {wh:Int→Bool} (x:Cl) (h:LS.Ok k ⟨rv,gv,l,wh,nb⟩):LS.Ok (k + 1) ⟨rv',gv',addC l x,wh,nb⟩:=by
  obtain ⟨h1,h2,h3,h4⟩:=h
  refine ⟨?_,Nat.le_succ_of_le h2,fun y hy=>?_,h4⟩
  · have h1:l.length≤k:=h1
    show (addC l x).length≤k + 1
    unfold addC
    split
    · rw [List.length_append]
      exact Nat.succ_le_succ h1
    · omega
  · have hy:y∈addC l x:=hy
    by_cases e:shOk x=true
    · rw [addC,if_pos e] at hy
      rcases List.mem_append.1 hy with hy | hy
      · exact h3 y hy
      · rw [List.mem_singleton.1 hy]
        simp [shOk] at e
        exact e.2
    · rw [addC,if_neg e] at hy
      exact h3 y hy
theorem LS.okB {k nb nb':Nat} {rv gv rv' gv':Value} {l:List Cl} {wh:Int→Bool} (d:Int) (h:LS.Ok k ⟨rv,gv,l,wh,nb⟩) (hn:nb'≤nb + 1):LS.Ok (k + 1) ⟨rv',gv',l,addW wh d,nb'⟩:=by
  obtain ⟨h1,h2,h3,h4⟩:=h
  have h2:nb≤k:=h2
  refine ⟨Nat.le_succ_of_le h1,?_,h3,fun y hy=>?_⟩
  · show nb'≤k + 1
    omega
  · have hy:addW wh d y=true:=hy
    unfold addW at hy
    split at hy
    · rename_i e
      rcases (Bool.or_eq_true _ _).mp hy with hy | hy
      · rw [of_decide_eq_true hy]; exact e
      · exact h4 y hy
    · exact h4 y hy
theorem ledC_set (v:Value) (wh:Int→Bool) {d:Int} (h:(decide (0≤d) && decide (d < 8))=true) :
    (ledC v wh).take (0 + 1 + d.toNat * 1)++[.bool true]++(ledC v wh).drop (0 + 1 + d.toNat * 1 + 1)=ledC v (fun y=>decide (y=d) || wh y):=by
  obtain ⟨e,h8⟩:=dlt h
  generalize d.toNat=n at e h8
  subst e
  have:n=0∨n=1∨n=2∨n=3∨n=4∨n=5∨n=6∨n=7:=by omega
  rcases this with rfl | rfl | rfl | rfl | rfl | rfl | rfl | rfl <;> rfl
end Go.Proofs.YtklajbdbnnceiaaGreat
end

section
/- The law of what is judged. -/
namespace Go.Proofs.YtklajbdbnnceiaaGreat
open Go Go.Fw
open Sha
theorem ec_yes {b:Bool} (h:decide (ec b=0)=true):b=true:=by cases b <;> first | rfl | cases h
theorem ec_no {b:Bool} (h:decide (ec b=0)=false):b=false:=by cases b <;> first | rfl | cases h
theorem law_TruthJudges (W S H d mt sn:Int) (ep sq:UInt32) (sd0 lf ws ps:List UInt8) (nw np:Nat) (wv pv:Value) (b:Bool) (ops:List Opr) (ov:Value) (hsd:sd0.length=32) (hlf:lf.length=16) (hwl:ws.length=nw * 16) (hpl:ps.length=np * 16) (hdb:-9223372036854775808≤d∧d≤9223372036854775807) (w:World) (hqo:Rd w ov ops.length (ops.flatMap Opr.c)) (hqw:Rd w wv nw (ws.map B)) (hqp:Rd w pv np (ps.map B)):Ctr Tryz.prog 8 [.agg #[I W,I S,I H],.agg (sd0.map B).toArray,ov,.agg #[I d,U ep,U sq,I mt,I sn],credV lf wv pv,.bool b] w (fun _=>False) (fun v _=>v=.bool true):=by
  have hnlo:=hqo.le
  have hnlw:=hqw.le
  have hnlp:=hqp.le
  obtain ⟨wad,wcap,rfl,hwc,hwm⟩:=Rd.sl hqw
  obtain ⟨pad,pcap,rfl,hpc0,hpm0⟩:=Rd.sl hqp
  obtain ⟨oad,ocap,rfl,hoc,hom⟩:=Rd.sl hqo
  refine fn_start (N:=117) Tryz.func8 rfl rfl rfl fun ac hk=>?_
  have hs:=St.start hk w
  refine wp_seq (wp_reg ?_)
  refine s_box hs rfl rfl rfl fun ac ww g6 hs=>?_
  refine s_box hs rfl rfl rfl fun ac ww g7 hs=>?_
  refine s_box hs rfl rfl rfl fun ac ww g9 hs=>?_
  refine s_box hs rfl rfl rfl fun ac ww g10 hs=>?_
  refine s_q hs (c_assign (hs.ev rfl)) rfl fun ac hs=>?_
  refine s_end ?_
  replace hs:=hs.sub (F':=[(2,_),(5,_),(6,_),(7,_),(9,_),(10,_),(12,_)]) ⟨rfl,rfl,rfl,rfl,rfl,rfl,rfl,trivial⟩
  refine then_n (wp_seq (wp_seq (wp_reg ?_)))
  refine s_q hs (c_loadW ty23 ag23 (hs.ev rfl) (hs.seg (i:=3) rfl) (by rfl)) rfl fun ac hs=>?_
  refine s_call hs fu11 (.cons (hs.ev rfl) .nil) (law08_Light W S H _) rfl fun ac ww v21 hf hp hs=>?_
  obtain rfl:=hp
  replace hs:=hs [] (.nil _ _)
  refine s_q hs (c_not (hs.ev rfl)) rfl fun ac hs=>?_
  refine s_q hs (c_move (hs.ev rfl)) rfl fun ac hs=>?_
  refine s_g hs rfl rfl (fun hg=>c_loadW ty66 ag66 (hs.ev rfl) (hs.seg (i:=0) rfl) (by simp [hlf])) rfl fun ac hs=>?_
  refine s_gcall hs rfl rfl fu32 (fun hg=>(.cons (gev (hs.ev rfl) hg) .nil)) (fun hg=>law09_Light lf ws ps nw np _ _ hlf _ (hqw.fr0 hs.fr) (hqp.fr0 hs.fr)) rfl fun ac ww hf hs=>?_
  refine s_g hs rfl rfl (fun hg=>c_not (gev (hs.ev rfl) hg)) rfl fun ac hs=>?_
  refine s_q hs (c_or (hs.ev rfl) (hs.ev rfl)) rfl fun ac hs=>?_
  refine s_end ?_
  replace hs:=hs.sub (F':=[(2,_),(5,_),(6,_),(7,_),(9,_),(10,_),(12,_),(27,_)]) ⟨rfl,rfl,rfl,rfl,rfl,rfl,rfl,rfl,trivial⟩
  refine then_n ?_
  refine s_cond hs rfl (fun hc=>?_) (fun hc=>?_)
  · skip
    refine wp_seq (wp_reg ?_)
    refine s_call hs fu48 .nil (tr_awake _) rfl fun ac ww v28 hf hp hs=>?_
    obtain rfl:=hp
    replace hs:=hs [] (.nil _ _)
    refine s_q hs (c_assign (hs.ev rfl)) rfl fun ac hs=>?_
    refine s_end ?_
    replace hs:=hs.sub (F':=[(2,_),(5,_),(6,_),(7,_),(9,_),(10,_),(12,_)]) ⟨rfl,rfl,rfl,rfl,rfl,rfl,rfl,trivial⟩
    refine then_n (wp_ret (then_r ?_))
    refine s_ret hs rfl (.tmp (hs.tmp rfl) .nil) rfl ⟨_,rfl,hs.fr,?_⟩
    rfl
  · skip
    have hc2:spLight W S H=true∧nw≤20∧np≤20:=by
      simp at hc
      exact hc
    obtain ⟨hlight,hnw20,hnp20⟩:=hc2
    have hright:spRight W S H=true:=by
      simp only [spLight,Bool.and_eq_true] at hlight
      exact hlight.1.1
    obtain ⟨hlv,hS1,hS16,hH0,hH6⟩:=spRight_iff.1 hright
    obtain ⟨n,rfl⟩:=int_of (show 0≤W by have:=levels_cases W; omega)
    obtain ⟨Sn,rfl⟩:=int_of (show 0≤S by omega)
    obtain ⟨Hn,rfl⟩:=int_of hH0
    have hn8:n≤8:=by have:=levels_cases (n:Int); omega
    have hn0:0 < n:=by have:=levels_cases (n:Int); omega
    have hyN:(spRight (n:Int) Sn Hn && decide ((n:Int)=(n:Int)))=true:=by rw [hright]; simp
    refine wp_skip (then_n (wp_seq (wp_reg ?_)))
    refine s_q hs (c_loadW ty23 ag23 (hs.ev rfl) (hs.seg (i:=3) rfl) (by rfl)) rfl fun ac hs=>?_
    refine s_q hs (c_loadW ty24 rfl (hs.ev rfl) (hs.seg (i:=2) rfl) (by rw [List.length_map,hsd])) rfl fun ac hs=>?_
    refine s_call hs fu49 (.cons (hs.ev rfl) (.cons (hs.ev rfl) .nil)) (tr_made n Sn Hn sd0 hsd (by omega) _) rfl fun ac ww v31 hf hp hs=>?_
    obtain ⟨L9,rfl,hh⟩:=hp
    replace hs:=hs _ hh
    refine s_q hs (c_assign (hs.ev rfl)) rfl fun ac hs=>?_
    refine s_end ?_
    replace hs:=hs.sub (F':=[(2,_),(5,_),(6,_),(9,_),(10,_),(12,_),(13,_)]) ⟨rfl,rfl,rfl,rfl,rfl,rfl,rfl,trivial⟩
    refine then_n (wp_seq (wp_reg ?_))
    refine s_q hs (c_loadW ty23 ag23 (hs.ev rfl) (hs.seg (i:=4) rfl) (by rfl)) rfl fun ac hs=>?_
    refine s_call hs fu15 (.cons (hs.ev rfl) .nil) (law08_To n Sn Hn _) rfl fun ac ww v34 hf hp hs=>?_
    obtain rfl:=hp
    replace hs:=hs [] (.nil _ _)
    refine s_q hs (c_move (hs.ev rfl)) rfl fun ac hs=>?_
    refine s_call hs fu51 (.cons (hs.ev rfl) .nil) (tr_digests n (sdR sd0 n) _ (sdR_length hsd n) (by omega) _ (Rd.of_row (hs.get (i:=0) rfl))) rfl fun ac ww v36 hf hp hs=>?_
    obtain ⟨L9,rfl,hh⟩:=hp
    replace hs:=hs _ hh
    have hszN:=hs.fr.size
    refine s_call hs fu50 (.cons (hs.ev rfl) (.cons (hs.ev rfl) .nil)) (tr_New n Sn Hn n (sdR sd0 n) _ (sdR_length hsd n) (by omega) _ (Rd.of_row (hs.get (i:=0) rfl))) rfl fun ac ww v37 hf hp hs=>?_
    obtain ⟨o,hoW,hoS,hoH,hosd,hon,hor,hmb1,rfl⟩:=(hp.elim (fun h=>absurd (hyN.symm.trans h.1) (by decide)) fun h=>h.2)
    have hmb:w.heap.size≤o.mb:=Nat.le_trans hszN hmb1
    replace hs:=hs [] (.nil _ _)
    refine s_q hs (c_move (hs.ev rfl)) rfl fun ac hs=>?_
    refine s_q hs (c_extract (hs.ev rfl) rfl) rfl fun ac hs=>?_
    refine s_q hs (c_extract (hs.ev rfl) rfl) rfl fun ac hs=>?_
    refine s_q hs (c_assign (hs.ev rfl)) rfl fun ac hs=>?_
    refine s_q hs (c_assign (hs.ev rfl)) rfl fun ac hs=>?_
    refine s_end ?_
    have hb6:=hs.seg (i:=5) rfl
    have hb9:=hs.seg (i:=3) rfl
    have hb10:=hs.seg (i:=2) rfl
    have hg10:=(hs.own _ (List.mem_of_getElem? (i:=2) rfl) g10 rfl).resolve_right id
    have hR13:RdT ww _ n 32 ((sdR sd0 n).map B) 24:=RdT.row (hs.get (i:=1) rfl) hn0
    obtain ⟨rb,rcap,hv31⟩:=hR13.is
    subst hv31
    have ne6:=kinds_ne hb6 hb10 rfl
    have ne9:=kinds_ne hb9 hb10 rfl
    have hfr0:=hs.fr
    have hqo1:=hqo.fr0 hs.fr
    have hbase:=hb10
    have hpr:o.pr d ep=(pr n Sn Hn (sdAt (sdR sd0 n) d) d ep):=by
      show pr o.W o.S.toNat o.H.toNat (sdAt o.sd d) d ep=_
      rw [hoW,hoS,hoH,hosd]
      rfl
    have hmblt:o.mb < ww.heap.size:=by
      obtain ⟨es,cl,h8⟩:=hor.mp.blk
      exact heap_lt h8
    obtain ⟨wq,hwq⟩:∃ z,z=ww:=⟨_,rfl⟩
    replace hs:=St.own1 hs.know hb10
    replace hs:=hs.sub (F':=[(2,_),(5,_),(6,_),(9,_),(10,_),(12,_),(13,_),(14,_)]) ⟨rfl,rfl,rfl,rfl,rfl,rfl,rfl,rfl,trivial⟩
    refine then_n (wp_seq (wp_reg ?_))
    have hszO:=hs.fr.size
    refine s_call hs fu52 .nil (tr_Open _) rfl fun ac ww v40 hf hp hs=>?_
    obtain ⟨gl,mb,rfl,hh⟩:=hp
    have hmne:mb ≠ o.mb:=by
      have h8:=hh.ge _ (List.mem_of_getElem? (i:=2) rfl) mb rfl
      omega
    replace hs:=hs _ (Has.grp' hh)
    refine s_q hs (c_buildS (zc:=ledC (.slice none 0 0) (fun _=>false)) ty112 bp112 .nil trivial (by simp [flatCells,Value.cells]) rfl) rfl fun ac hs=>?_
    refine s_alloc hs ty112 rfl fun ac ww g17 hs=>?_
    refine s_q hs (c_assign (hs.ev rfl)) rfl fun ac hs=>?_
    refine s_storeW (i:=0) hs ty112 rfl rfl rfl (by rfl) (by rfl) rfl fun ww hs=>?_
    refine s_end ?_
    replace hs:=hs.nilrow 54 5
    replace hs:=hs.sub (F':=[(2,_),(5,_),(6,_),(9,_),(10,_),(12,_),(13,_),(14,_),(16,_),(17,_)]) ⟨rfl,rfl,rfl,rfl,rfl,rfl,rfl,rfl,rfl,rfl,trivial⟩
    refine then_n (wp_seq (wp_seq (wp_reg ?_)))
    refine s_q hs (c_move (hs.ev rfl)) rfl fun ac hs=>?_
    refine s_q hs (c_lenS un99 (hs.ev rfl)) rfl fun ac hs=>?_
    refine s_q hs (c_move (hs.ev rfl)) rfl fun ac hs=>?_
    refine s_end ?_
    replace hs:=hs.sub (F':=[(5,_),(6,_),(9,_),(10,_),(12,_),(13,_),(14,_),(16,_),(17,_),(42,_),(43,_),(44,_)]) ⟨rfl,rfl,rfl,rfl,rfl,rfl,rfl,rfl,rfl,rfl,rfl,rfl,trivial⟩
    refine then_n (wp_block ?_)
    refine s_loop hs (X:=Nat × LS) (fun z=>[(44,I z.1)]) [(5,_),(6,_),(9,_),(10,_),(12,_),(13,_),(14,_),(16,_),(17,_),(42,_),(43,_)] (fun z=>[.row z.2.rv z.2.l.length (clsC z.2.l) 54 5,.seg g17 (ledC z.2.rv z.2.wh) 112,Ent.grp (led gl mb z.2.nb z.2.gv z.2.l z.2.wh),.seg g10 (lf.map B++[.slice wad nw wcap,.slice pad np pcap]) 66]) (fun n z=>z.1≤ops.length∧z.1≤20∧LS.Ok z.1 z.2∧n=ops.length - z.1) (_) ((0,⟨.slice none 0 0,.slice none 0 0,[],fun _=>false,0⟩)) (⟨Nat.zero_le _,Nat.zero_le _,⟨Nat.le_refl _,Nat.le_refl _,fun _ h=>(by cases h),fun _ h=>(by cases h)⟩,rfl⟩) ⟨rfl,rfl,rfl,rfl,rfl,rfl,rfl,rfl,rfl,rfl,rfl,rfl,trivial⟩ rfl ?_
    rintro n ⟨k,rv,gv,l,wh,nb⟩ ac ww hok hs
    simp only [List.cons_append,List.nil_append] at hs
    obtain ⟨hk,hk40,hok,rfl⟩:=hok
    refine wp_seq (wp_reg ?_)
    refine s_q hs (c_lssI (hs.ev rfl) (hs.ev rfl)) rfl fun ac hs=>?_
    refine s_end (then_n (wp_seq ?_))
    refine s_cond hs rfl (fun hc=>?_) (fun hc=>?_)
    · try simp only [decide_eq_true_eq,decide_eq_false_iff_not,Bool.not_eq_true',Bool.not_eq_false',Bool.and_eq_true,Bool.or_eq_true,Bool.or_eq_false_iff] at hc
      have hkn:k < ops.length:=by omega
      obtain ⟨pb,po,pT,pf,pall,rfl,hpb,hps⟩:=Rd.opr_at hqo1 (by omega)
      have hpn:¬ pb=g10:=by
        have h8:=Rd.lt hqo (by intro e; have h9:=congrArg List.length e; rw [opr_length] at h9; simp only [List.length_nil] at h9; omega) pb rfl
        omega
      replace hps:=hps k hkn
      obtain ⟨⟨kd,x⟩,hx⟩:∃ x,ops.getD k default=x:=⟨_,rfl⟩
      rw [hx] at hps
      refine wp_skip (then_n (wp_seq (wp_block (wp_seq (wp_reg ?_)))))
      refine s_q hs (c_move (hs.ev rfl)) rfl fun ac hs=>?_
      refine s_q hs (c_idxS (j:=k) un99 ty114 (hs.ev rfl) (hs.ev rfl) (by omega) (by omega)) rfl fun ac hs=>?_
      refine s_q hs (c_loadA ty114 ag114 (hs.ev rfl) (hs.old hpb hpn) hps (by rfl)) rfl fun ac hs=>?_
      refine s_alloc hs ty114 rfl fun ac ww g19 hs=>?_
      refine s_q hs (c_assign (hs.ev rfl)) rfl fun ac hs=>?_
      refine s_storeW (i:=0) hs ty114 rfl rfl rfl (by rfl) (by rfl) rfl fun ww hs=>?_
      refine s_end (then_n (wp_seq (wp_seq (wp_reg ?_))))
      refine s_q hs (c_move (hs.ev rfl)) rfl fun ac hs=>?_
      refine s_q hs (c_geqI (hs.ev rfl) (hs.ev rfl)) rfl fun ac hs=>?_
      refine s_end (then_n ?_)
      refine s_cond hs rfl (fun hc=>?_) (fun hc=>?_)
      · skip
        replace hs:=hs.pick (L':=[_,_,_,_]) (.cons _ (.refl _))
        refine wp_exit (then_e (blk_miss rfl (then_e (then_e (blk_hit (then_n (wp_seq (wp_seq (wp_reg ?_)))))))))
        refine s_q hs (c_move (hs.ev rfl)) rfl fun ac hs=>?_
        refine s_q hs (c_move (hs.ev rfl)) rfl fun ac hs=>?_
        refine s_g hs rfl rfl (fun hg=>c_loadW ty23 ag23 (hs.ev rfl) (hs.old hb6 ne6) (by rfl)) rfl fun ac hs=>?_
        refine s_g hs rfl rfl (fun hg=>c_loadW ty54 ag54 (hs.ev rfl) (hs.old hb9 ne9) (by rfl)) rfl fun ac hs=>?_
        refine s_gcall hs rfl rfl fu28 (fun hg=>(.cons (gev (hs.ev rfl) hg) (.cons (gev (hs.ev rfl) hg) .nil))) (fun hg=>ref09_Right n Sn Hn d mt sn ep sq _) rfl fun ac ww hf hs=>?_
        refine s_q hs (c_and (hs.ev rfl) (hs.ev rfl)) rfl fun ac hs=>?_
        refine s_end ?_
        replace hs:=hs.sub (F':=[(6,_),(9,_),(10,_),(12,_),(13,_),(14,_),(16,_),(17,_),(91,_)]) ⟨rfl,rfl,rfl,rfl,rfl,rfl,rfl,rfl,rfl,trivial⟩
        refine then_n ?_
        refine s_cond hs rfl (fun hc=>?_) (fun hc=>?_)
        · skip
          have hcr:clRight n Sn Hn d mt sn ep sq=true:=by
            simp at hc
            exact hc.2
          obtain ⟨hR,hd0,hdW,hsn0,hsnW,hep,hsq,hmt0,hmtS⟩:=clRight_iff.1 hcr
          obtain ⟨m,rfl⟩:=int_of hmt0
          have hdn:d.toNat < n:=by omega
          obtain ⟨rcur,hrb,hpc⟩:=hR13.piece hdn
          have ner:=kinds_ne hrb hbase rfl
          have hsl:(sdAt (sdR sd0 n) d).length=32:=by
            have h2:=Nat.mul_le_mul_right 32 (show d.toNat + 1≤n from hdn)
            have h3:=sdR_length hsd n
            rw [Nat.succ_mul] at h2
            rw [sdAt,List.length_take,List.length_drop]
            omega
          have hko:((pr n Sn Hn (sdAt (sdR sd0 n) d) d ep)).Ok:=pr_ok (by omega) (by omega) hsl
          have hpl2:(hPs ((pr n Sn Hn (sdAt (sdR sd0 n) d) d ep)) sq).length=Hn * 16:=hPs_length (p:=(pr n Sn Hn (sdAt (sdR sd0 n) d) d ep)) (m:=m) (sn:=sn) hcr
          have hnwk:=shN_le (m:Int) n sn
          refine wp_region_rg pmix 7 (by kernel_rfl) rfl hs ?_
          simp only [List.take_succ_cons,List.take_zero]
          refine rg_q (fun ac ww h=>c_loadW ty23 ag23 (h.ev rfl) (h.blk (hs.old hb6 ne6)) (by rfl)) rfl ?_
          refine rg_q (fun ac ww h=>c_move (h.ev rfl)) rfl ?_
          refine rg_q (fun ac ww h=>c_fld fl54_0 (h.ev rfl)) rfl ?_
          refine rg_q (fun ac ww h=>c_loadS un3 rfl (h.ev rfl) (h.blk (hs.old hb9 ne9)) rfl) rfl ?_
          refine rg_q (fun ac ww h=>c_idxS (j:=d.toNat) un100 ty24 (h.ev rfl) (h.ev rfl) (by omega) hdn) rfl ?_
          refine rg_q (fun ac ww h=>c_loadA ty24 rfl (h.ev rfl) (h.blk (hs.old hrb ner)) hpc (show (List.map B (sdAt (sdR sd0 n) d)).length=32 by rw [List.length_map,hsl])) rfl ?_
          refine rg_q (fun ac ww h=>c_loadW ty54 ag54 (h.ev rfl) (h.blk (hs.old hb9 ne9)) (by rfl)) rfl ?_
          refine rg_nil fun ac ww L' hf hfe hs=>?_
          simp only [List.drop_succ_cons,List.drop_zero]
          obtain rfl:L'=[]:=hfe
          replace hs:=hs.toL (List.nil_append _)
          refine s_call hs fu31 (.cons (hs.ev rfl) (.cons (hs.ev rfl) (.cons (hs.ev rfl) .nil))) (ref09_Issue (pr n Sn Hn (sdAt (sdR sd0 n) d) d ep) hko m sn sq hcr _) rfl fun ac ww v99 hf hp hs=>?_
          obtain ⟨L9,⟨wv2,pv2,rfl,rfl⟩,hh⟩:=hp
          replace hs:=hs _ hh
          have hwo2:=(Rd.of_row (hs.get (i:=1) rfl)).one
          have hpo2:=(Rd.of_row (hs.get (i:=0) rfl)).one
          refine s_storeW (i:=5) hs ty66 rfl rfl rfl (by simp [shL_length]) (by simp [hwo2,hpo2]; exact fun x _=>rfl) (by simp [hlf]) fun ww hs=>?_
          refine s_end ?_
          have hor2:OrAt ww o none:=hor.frX hs.fr (fun k e=>⟨_,_,_,e ▸ hbase,rfl⟩) (fun _ h=>by cases h)
          replace hR13:=hR13.frM hs.fr (fun k e cs fr h9=>by have e:k=g10:=e; rw [e,hbase] at h9; cases h9)
          obtain ⟨lfc,wsc,psc,nwc,npc,wvc,pvc,hlfc,hwlc,hplc,hnwc,hnpc,hb10c,hnw,hnp⟩:∃ (lfc wsc psc:List UInt8) (nwc npc:Nat) (wvc pvc:Value),lfc.length=16∧wsc.length=nwc * 16∧psc.length=npc * 16∧nwc≤1000∧npc≤1000∧ww.heap[g10]?=some (.cells (lfc.map B++[wvc,pvc]).toArray 66 (0,0))∧(∀ w9,Fr (OrM o none) ww w9→Rd w9 wvc nwc (wsc.map B))∧(∀ w9,Fr (OrM o none) ww w9→Rd w9 pvc npc (psc.map B)):=⟨hLf (pr n Sn Hn (sdAt (sdR sd0 n) d) d ep) m sn sq,hWs (pr n Sn Hn (sdAt (sdR sd0 n) d) d ep) m sn sq,hPs (pr n Sn Hn (sdAt (sdR sd0 n) d) d ep) sq,shN (m:Int) n sn,Hn,_,_,shL_length _ _ _ _ _ _ _,shW_length _ _ _ _ _ _ _,hpl2,by omega,by omega,hs.seg (i:=5) rfl,fun w9 hf9=>(Rd.of_row (hs.get (i:=1) rfl)).fr hf9 fun k hk hm=>orM_kp hor2 hm (row_kp (hs.get (i:=1) rfl) rfl k hk),fun w9 hf9=>(Rd.of_row (hs.get (i:=0) rfl)).fr hf9 fun k hk hm=>orM_kp hor2 hm (row_kp (hs.get (i:=0) rfl) rfl k hk)⟩
          replace hb6:=hs.old hb6 ne6
          replace hb9:=hs.old hb9 ne9
          have hfrQ:Fr0 w ww:=hfr0.over hs.fr (fun i e=>by have e:i=g10:=e; rw [e]; exact hg10)
          have hhl:Has 0 ww (led gl mb nb gv l wh):=hs.get (i:=4) rfl
          have hrw:Rd ww rv l.length (clsC l):=Rd.of_row (hs.get (i:=2) rfl)
          have hrwk:=row_kp (T:=54) (hs.get (i:=2) rfl) rfl
          have hrwM:∀ w9,Fr (OrM o none) ww w9→Rd w9 rv l.length (clsC l):=fun w9 hf9=>hrw.fr hf9 fun k hk hm=>orM_kp hor2 hm (hrwk k hk)
          have hb17:=hs.seg (i:=3) rfl
          replace hs:=St.start hs.know ww
          replace hs:=hs.sub (F':=[(6,_),(9,_),(10,_),(12,_),(13,_),(14,_),(16,_),(17,_)]) ⟨rfl,rfl,rfl,rfl,rfl,rfl,rfl,rfl,trivial⟩
          refine then_n (wp_seq ?_)
          have hK:=FwO.frKO (M:=OrM o none) (kp:=kpO) (R:=fun _ _=>True) (B1:=ww.heap.size) (fun k hm=>by
            rcases hm with e | ⟨_,e,_⟩
            · obtain ⟨es,cl,h8⟩:=hor2.mp.blk
              rw [e]
              exact heap_lt h8
            · cases e) (fun _ _=>trivial) (fun _=>trivial)
          have hszB:=hfrQ.size
          refine FwO.wp_region_rgO (cc:=108) pmix hK 17 (by kernel_rfl) rfl hs.know ?_
          simp only [List.take_succ_cons,List.take_zero]
          refine FwO.rg_call hK fu48 (fun ac ww h=>.nil) (fun ww hf=>tr_awake ww) rfl ?_
          refine FwO.rg_q hK (fun ac ww h=>c_move (h.ev rfl)) rfl ?_
          refine FwO.rg_yes hK rfl rfl (fun ac ww h=>c_move (h.ev rfl)) rfl ?_
          refine FwO.rg_yes hK rfl rfl (fun ac ww h=>c_move (h.ev rfl)) rfl ?_
          refine FwO.rg_yes hK rfl rfl (fun ac ww h=>c_loadW ty54 ag54 (h.ev rfl) (h.blk hb9) (by rfl)) rfl ?_
          refine FwO.rg_strip rfl rfl ?_
          refine FwO.rg_call hK fu27 (fun ac ww h=>(.cons (h.ev rfl) .nil)) (fun ww hf=>law09_To d (m:Int) sn ep sq ww) rfl ?_
          refine FwO.rg_yes hK rfl rfl (fun ac ww h=>c_loadW ty66 ag66 (h.ev rfl) (h.blk hb10c) (by simp [hlfc])) rfl ?_
          refine FwO.rg_strip rfl rfl ?_
          refine FwO.rg_callE hK (crE 36 lfc nwc wsc npc psc) (fun _ _ _ _ _ h=>h) fu34 (fun ac ww h=>?_) rfl ?_
          · exact ⟨_,.cons (h.ev rfl) (.nil),law09_ToCred lfc wsc psc nwc npc _ _ hlfc hwlc hplc (by omega) (by omega) _ (hnw _ h.fr.1) (hnp _ h.fr.1)⟩
          refine FwO.rg_strip rfl rfl ?_
          refine FwO.rg_callOneE hK fu55 (c:=I (judV (ownV o d (m:Int) sn ep sq lfc wsc psc) (mayP wh l ⟨d,ep,sq,(m:Int),sn⟩))) (fun ac w8 h hf0=>?_) rfl ?_
          · obtain ⟨v80,L80,he80,⟨wv8,pv8,rfl,rfl⟩,hh80⟩:=h.ent (n:=107) rfl rfl
            refine ⟨_,.cons (h.ev rfl) (.cons (h.ev rfl) (.cons (h.ev rfl) (.cons he80 .nil))),Calls.mono (tr_Judge o none d (m:Int) sn ep sq w.heap.size lfc wsc psc nwc npc wv8 pv8 gl mb nb gv l wh hmb (fun _ e=>by cases e) hlfc hwlc hplc hdb w8 (Nat.le_trans hszB hf0.size) (hor2.fr0 hf0) (Rd.of_row (hh80.holds _ (List.mem_of_getElem? (i:=1) rfl))) (Rd.of_row (hh80.holds _ (List.mem_of_getElem? (i:=0) rfl))) (row_kp (hh80.holds _ (List.mem_of_getElem? (i:=1) rfl))) (row_kp (hh80.holds _ (List.mem_of_getElem? (i:=0) rfl))) fun w9 hf9=>led_M (hhl.fr0 hf0) (hor2.fr0 hf0) hmne hf9) ?_⟩
            rintro e9 w9 ⟨v9,he9,hf9,hv9,hz9⟩
            exact ⟨by rw [he9,hv9],hf9,keepKB (hor2.fr0 hf0) hf9,trivial⟩
          refine FwO.rg_yes hK rfl rfl (fun ac ww h=>c_loadW ty23 ag23 (h.ev rfl) (h.blk hb6) (by rfl)) rfl ?_
          refine FwO.rg_yes hK rfl rfl (fun ac ww h=>c_move (h.ev rfl)) rfl ?_
          refine FwO.rg_yes hK rfl rfl (fun ac ww h=>c_loadW ty112 ag112 (h.ev rfl) (h.blk hb17) (by rfl)) rfl ?_
          refine FwO.rg_yes hK rfl rfl (fun ac ww h=>c_loadW ty54 ag54 (h.ev rfl) (h.blk hb9) (by rfl)) rfl ?_
          refine FwO.rg_yes hK rfl rfl (fun ac ww h=>c_loadW ty66 ag66 (h.ev rfl) (h.blk hb10c) (by simp [hlfc])) rfl ?_
          refine FwO.rg_strip rfl rfl ?_
          refine FwO.rg_call hK fu56 (fun ac ww h=>(.cons (h.ev rfl) (.cons (h.ev rfl) (.cons (h.ev rfl) (.cons (h.ev rfl) (.cons (h.ev rfl) .nil)))))) (fun ww hf=>ref28_Judge n Sn Hn n (sdR sd0 n) _ (sdR_length hsd n) rfl d (m:Int) sn ep sq lfc wsc psc nwc npc _ _ rv l wh hlfc hwlc hplc ww (hR13.kb hf.2.1).rd (hnw _ hf.1) (hnp _ hf.1) (hrwM _ hf.1)) rfl ?_
          refine FwO.rg_yes hK rfl rfl (fun ac ww h=>c_tt (c_eqlI (h.ev rfl) (h.ev rfl)) ((by rw [may_eq _ hok.h3 hok.h4,ownV,hpr,hoW,hoS,hoH]; simp))) rfl ?_
          refine FwO.rg_q hK (fun ac ww h=>c_pick (h.ev rfl) (h.ev rfl) (h.ev rfl)) rfl ?_
          refine FwO.rg_nil fun ac ww L' hfk hfe hkn hhas hlk=>?_
          simp only [List.drop_succ_cons,List.drop_zero]
          replace hfrQ:=hfrQ.over hfk.1 (fun k hk=>by
            rcases hk with e | ⟨_,e,_⟩
            · rw [e]; exact hmb
            · cases e)
          replace hs:=St.start hkn ww
          refine s_q hs (c_assign (hs.ev rfl)) rfl fun ac hs=>?_
          refine s_end ?_
          replace hs:=hs.sub (F':=[(12,_)]) ⟨rfl,trivial⟩
          refine then_n (wp_ret ?_)
          refine s_ret hs rfl (.tmp (hs.tmp rfl) .nil) rfl ⟨_,rfl,(hfrQ.trans0 hs.fr),?_⟩
          rfl
        · skip
          have hor2:OrAt ww o none:=hor.frX hs.fr (fun k e=>⟨_,_,_,e ▸ hbase,rfl⟩) (fun _ h=>by cases h)
          replace hR13:=hR13.frM hs.fr (fun k e cs fr h9=>by have e:k=g10:=e; rw [e,hbase] at h9; cases h9)
          obtain ⟨lfc,wsc,psc,nwc,npc,wvc,pvc,hlfc,hwlc,hplc,hnwc,hnpc,hb10c,hnw,hnp⟩:∃ (lfc wsc psc:List UInt8) (nwc npc:Nat) (wvc pvc:Value),lfc.length=16∧wsc.length=nwc * 16∧psc.length=npc * 16∧nwc≤1000∧npc≤1000∧ww.heap[g10]?=some (.cells (lfc.map B++[wvc,pvc]).toArray 66 (0,0))∧(∀ w9,Fr (OrM o none) ww w9→Rd w9 wvc nwc (wsc.map B))∧(∀ w9,Fr (OrM o none) ww w9→Rd w9 pvc npc (psc.map B)):=⟨lf,ws,ps,nw,np,_,_,hlf,hwl,hpl,by omega,by omega,hs.seg (i:=3) rfl,fun w9 hf9=>Rd.frL hqw (hqw.fr0 (hfr0.over hs.fr (fun i e=>by have e:i=g10:=e; rw [e]; exact hg10))) hf9 (fun k hk=>by
            rcases hk with e | ⟨_,e,_⟩
            · rw [e]; exact hmb
            · cases e),fun w9 hf9=>Rd.frL hqp (hqp.fr0 (hfr0.over hs.fr (fun i e=>by have e:i=g10:=e; rw [e]; exact hg10))) hf9 (fun k hk=>by
            rcases hk with e | ⟨_,e,_⟩
            · rw [e]; exact hmb
            · cases e)⟩
          replace hb6:=hs.old hb6 ne6
          replace hb9:=hs.old hb9 ne9
          have hfrQ:Fr0 w ww:=hfr0.over hs.fr (fun i e=>by have e:i=g10:=e; rw [e]; exact hg10)
          have hhl:Has 0 ww (led gl mb nb gv l wh):=hs.get (i:=2) rfl
          have hrw:Rd ww rv l.length (clsC l):=Rd.of_row (hs.get (i:=0) rfl)
          have hrwk:=row_kp (T:=54) (hs.get (i:=0) rfl) rfl
          have hrwM:∀ w9,Fr (OrM o none) ww w9→Rd w9 rv l.length (clsC l):=fun w9 hf9=>hrw.fr hf9 fun k hk hm=>orM_kp hor2 hm (hrwk k hk)
          have hb17:=hs.seg (i:=1) rfl
          replace hs:=St.start hs.know ww
          refine wp_skip (then_n (wp_seq ?_))
          have hK:=FwO.frKO (M:=OrM o none) (kp:=kpO) (R:=fun _ _=>True) (B1:=ww.heap.size) (fun k hm=>by
            rcases hm with e | ⟨_,e,_⟩
            · obtain ⟨es,cl,h8⟩:=hor2.mp.blk
              rw [e]
              exact heap_lt h8
            · cases e) (fun _ _=>trivial) (fun _=>trivial)
          have hszB:=hfrQ.size
          refine FwO.wp_region_rgO (cc:=108) pmix hK 17 (by kernel_rfl) rfl hs.know ?_
          simp only [List.take_succ_cons,List.take_zero]
          refine FwO.rg_call hK fu48 (fun ac ww h=>.nil) (fun ww hf=>tr_awake ww) rfl ?_
          refine FwO.rg_q hK (fun ac ww h=>c_move (h.ev rfl)) rfl ?_
          refine FwO.rg_yes hK rfl rfl (fun ac ww h=>c_move (h.ev rfl)) rfl ?_
          refine FwO.rg_yes hK rfl rfl (fun ac ww h=>c_move (h.ev rfl)) rfl ?_
          refine FwO.rg_yes hK rfl rfl (fun ac ww h=>c_loadW ty54 ag54 (h.ev rfl) (h.blk hb9) (by rfl)) rfl ?_
          refine FwO.rg_strip rfl rfl ?_
          refine FwO.rg_call hK fu27 (fun ac ww h=>(.cons (h.ev rfl) .nil)) (fun ww hf=>law09_To d mt sn ep sq ww) rfl ?_
          refine FwO.rg_yes hK rfl rfl (fun ac ww h=>c_loadW ty66 ag66 (h.ev rfl) (h.blk hb10c) (by simp [hlfc])) rfl ?_
          refine FwO.rg_strip rfl rfl ?_
          refine FwO.rg_callE hK (crE 36 lfc nwc wsc npc psc) (fun _ _ _ _ _ h=>h) fu34 (fun ac ww h=>?_) rfl ?_
          · exact ⟨_,.cons (h.ev rfl) (.nil),law09_ToCred lfc wsc psc nwc npc _ _ hlfc hwlc hplc (by omega) (by omega) _ (hnw _ h.fr.1) (hnp _ h.fr.1)⟩
          refine FwO.rg_strip rfl rfl ?_
          refine FwO.rg_callOneE hK fu55 (c:=I (judV (ownV o d mt sn ep sq lfc wsc psc) (mayP wh l ⟨d,ep,sq,mt,sn⟩))) (fun ac w8 h hf0=>?_) rfl ?_
          · obtain ⟨v80,L80,he80,⟨wv8,pv8,rfl,rfl⟩,hh80⟩:=h.ent (n:=107) rfl rfl
            refine ⟨_,.cons (h.ev rfl) (.cons (h.ev rfl) (.cons (h.ev rfl) (.cons he80 .nil))),Calls.mono (tr_Judge o none d mt sn ep sq w.heap.size lfc wsc psc nwc npc wv8 pv8 gl mb nb gv l wh hmb (fun _ e=>by cases e) hlfc hwlc hplc hdb w8 (Nat.le_trans hszB hf0.size) (hor2.fr0 hf0) (Rd.of_row (hh80.holds _ (List.mem_of_getElem? (i:=1) rfl))) (Rd.of_row (hh80.holds _ (List.mem_of_getElem? (i:=0) rfl))) (row_kp (hh80.holds _ (List.mem_of_getElem? (i:=1) rfl))) (row_kp (hh80.holds _ (List.mem_of_getElem? (i:=0) rfl))) fun w9 hf9=>led_M (hhl.fr0 hf0) (hor2.fr0 hf0) hmne hf9) ?_⟩
            rintro e9 w9 ⟨v9,he9,hf9,hv9,hz9⟩
            exact ⟨by rw [he9,hv9],hf9,keepKB (hor2.fr0 hf0) hf9,trivial⟩
          refine FwO.rg_yes hK rfl rfl (fun ac ww h=>c_loadW ty23 ag23 (h.ev rfl) (h.blk hb6) (by rfl)) rfl ?_
          refine FwO.rg_yes hK rfl rfl (fun ac ww h=>c_move (h.ev rfl)) rfl ?_
          refine FwO.rg_yes hK rfl rfl (fun ac ww h=>c_loadW ty112 ag112 (h.ev rfl) (h.blk hb17) (by rfl)) rfl ?_
          refine FwO.rg_yes hK rfl rfl (fun ac ww h=>c_loadW ty54 ag54 (h.ev rfl) (h.blk hb9) (by rfl)) rfl ?_
          refine FwO.rg_yes hK rfl rfl (fun ac ww h=>c_loadW ty66 ag66 (h.ev rfl) (h.blk hb10c) (by simp [hlfc])) rfl ?_
          refine FwO.rg_strip rfl rfl ?_
          refine FwO.rg_call hK fu56 (fun ac ww h=>(.cons (h.ev rfl) (.cons (h.ev rfl) (.cons (h.ev rfl) (.cons (h.ev rfl) (.cons (h.ev rfl) .nil)))))) (fun ww hf=>ref28_Judge n Sn Hn n (sdR sd0 n) _ (sdR_length hsd n) rfl d mt sn ep sq lfc wsc psc nwc npc _ _ rv l wh hlfc hwlc hplc ww (hR13.kb hf.2.1).rd (hnw _ hf.1) (hnp _ hf.1) (hrwM _ hf.1)) rfl ?_
          refine FwO.rg_yes hK rfl rfl (fun ac ww h=>c_tt (c_eqlI (h.ev rfl) (h.ev rfl)) ((by rw [may_eq _ hok.h3 hok.h4,ownV,hpr,hoW,hoS,hoH]; simp))) rfl ?_
          refine FwO.rg_q hK (fun ac ww h=>c_pick (h.ev rfl) (h.ev rfl) (h.ev rfl)) rfl ?_
          refine FwO.rg_nil fun ac ww L' hfk hfe hkn hhas hlk=>?_
          simp only [List.drop_succ_cons,List.drop_zero]
          replace hfrQ:=hfrQ.over hfk.1 (fun k hk=>by
            rcases hk with e | ⟨_,e,_⟩
            · rw [e]; exact hmb
            · cases e)
          replace hs:=St.start hkn ww
          refine s_q hs (c_assign (hs.ev rfl)) rfl fun ac hs=>?_
          refine s_end ?_
          replace hs:=hs.sub (F':=[(12,_)]) ⟨rfl,trivial⟩
          refine then_n (wp_ret ?_)
          refine s_ret hs rfl (.tmp (hs.tmp rfl) .nil) rfl ⟨_,rfl,(hfrQ.trans0 hs.fr),?_⟩
          rfl
      · skip
        have hk39:k < 20:=by
          simp at hc
          omega
        have hnl:l.length≤40:=Nat.le_trans hok.h1 (by omega)
        have hnb:nb≤40:=Nat.le_trans hok.h2 (by omega)
        refine wp_skip (then_n (wp_seq (wp_seq (wp_reg ?_))))
        refine s_q hs (c_fld fl114_0 (hs.ev rfl)) rfl fun ac hs=>?_
        refine s_q hs (c_loadS un3 rfl (hs.ev rfl) (hs.seg (i:=0) rfl) rfl) rfl fun ac hs=>?_
        cases hkd:decide (kd=0)
        · refine s_q hs (c_to (c_eqlI (hs.ev rfl) (hs.ev rfl)) ((congrArg Value.bool hkd))) rfl fun ac hs=>?_
          refine s_q hs (c_move (hs.ev rfl)) rfl fun ac hs=>?_
          refine s_no hs rfl rfl rfl rfl fun ac hs=>?_
          refine s_no hs rfl rfl rfl rfl fun ac hs=>?_
          refine s_no hs rfl rfl rfl rfl fun ac hs=>?_
          refine s_no hs rfl rfl rfl rfl fun ac hs=>?_
          refine s_no hs rfl rfl rfl rfl fun ac hs=>?_
          refine s_no hs rfl rfl rfl rfl fun ac hs=>?_
          refine s_q hs (c_pick (hs.ev rfl) (hs.ev rfl) (hs.ev rfl)) rfl fun ac hs=>?_
          refine s_end (then_n ?_)
          refine wp_cond_false (hs.ev rfl) ?_
          refine wp_skip (then_n (wp_seq (wp_reg ?_)))
          refine s_q hs (c_fld fl114_0 (hs.ev rfl)) rfl fun ac hs=>?_
          refine s_q hs (c_loadS un3 rfl (hs.ev rfl) (hs.seg (i:=0) rfl) rfl) rfl fun ac hs=>?_
          refine s_q hs (c_tt (c_neqI (hs.ev rfl) (hs.ev rfl)) ((by rw [hkd]; rfl))) rfl fun ac hs=>?_
          refine s_q hs (c_move (hs.ev rfl)) rfl fun ac hs=>?_
          refine s_yes hs rfl rfl ?_
          refine s_q hs (c_move (hs.ev rfl)) rfl fun ac hs=>?_
          refine s_yes hs rfl rfl ?_
          refine s_q hs (c_fld fl114_1 (hs.ev rfl)) rfl fun ac hs=>?_
          refine s_yes hs rfl rfl ?_
          refine s_q hs (c_fld fl54_0 (hs.ev rfl)) rfl fun ac hs=>?_
          refine s_yes hs rfl rfl ?_
          refine s_q hs (c_loadS un3 rfl (hs.ev rfl) (hs.seg (i:=0) rfl) rfl) rfl fun ac hs=>?_
          refine s_yes hs rfl rfl ?_
          refine s_callM (i:=3) hs fu54 (.cons (hs.ev rfl) (.cons (hs.ev rfl) .nil)) rfl (tr_Whole gl mb nb gv l wh x.d (by omega) _ (hs.get (i:=3) rfl)) rfl fun ac ww v77 hf hp hs=>?_
          obtain ⟨rfl,nb',hnb',h1,h2⟩:=hp
          replace hs:=hs (Ent.grp (led gl mb nb' gv l (addW wh x.d))) h1 (fun k hk=>⟨h2 k hk,grp_lt h1 k hk⟩)
          refine s_yes hs rfl rfl ?_
          refine s_q hs (c_eqlI (hs.ev rfl) (hs.ev rfl)) rfl fun ac hs=>?_
          refine s_q hs (c_pick (hs.ev rfl) (hs.ev rfl) (hs.ev rfl)) rfl fun ac hs=>?_
          refine s_end (then_n ?_)
          refine s_cond hs rfl (fun hc=>?_) (fun hc=>?_)
          · skip
            have hyes:wOk x.d=true:=ec_yes hc
            refine wp_reg ?_
            refine s_q hs (c_fld fl114_1 (hs.ev rfl)) rfl fun ac hs=>?_
            refine s_q hs (c_fld fl54_0 (hs.ev rfl)) rfl fun ac hs=>?_
            refine s_q hs (c_loadS un3 rfl (hs.ev rfl) (hs.seg (i:=0) rfl) rfl) rfl fun ac hs=>?_
            refine s_q hs (c_fld fl112_1 (hs.ev rfl)) rfl fun ac hs=>?_
            refine s_q hs (c_idxA (j:=x.d.toNat) un110 ty4 (hs.ev rfl) (hs.ev rfl) (dlt hyes).1 (dlt hyes).2) rfl fun ac hs=>?_
            refine s_store (i:=2) hs ty4 rfl rfl rfl rfl rfl rfl (by have:=(dlt (d:=x.d) hyes).2; show 0 + 1 + x.d.toNat * 1 + 1≤9; omega) (ledC_set _ _ hyes) fun ww hs=>?_
            refine s_end ?_
            obtain ⟨s1,hs1⟩:∃ s1:LS,s1=⟨rv,gv,l,addW wh x.d,nb'⟩:=⟨_,rfl⟩
            have hI:s1.Ok (k + 1):=hs1 ▸ LS.okB x.d hok hnb'
            replace hs:=hs.toL (L':=.seg g19 (Opr.c ⟨kd,x⟩) 114::[.row s1.rv s1.l.length (clsC s1.l) 54 5,.seg g17 (ledC s1.rv s1.wh) 112,Ent.grp (led gl mb s1.nb s1.gv s1.l s1.wh),.seg g10 (lf.map B++[.slice wad nw wcap,.slice pad np pcap]) 66]) (by subst hs1; dsimp only; rw [show addW wh x.d=fun y=>decide (y=x.d) || wh y from if_pos hyes]; rfl)
            refine blk_n (then_n (wp_reg ?_))
            refine s_q hs (c_addI (hs.ev rfl) (hs.ev rfl) (by omega) (by omega)) rfl fun ac hs=>?_
            refine s_q hs (c_move (hs.ev rfl)) rfl fun ac hs=>?_
            refine s_end (then_n ?_)
            replace hs:=hs.pick (L':=[_,_,_,_]) (.cons _ (.refl _))
            exact ⟨ops.length - (k + 1),by omega,(k + 1,s1),⟨by omega,by omega,hI,rfl⟩,St.next hs ⟨rfl,rfl,rfl,rfl,rfl,rfl,rfl,rfl,rfl,rfl,rfl,rfl,trivial⟩ rfl⟩
          · skip
            have hno:wOk x.d=false:=ec_no hc
            obtain ⟨s1,hs1⟩:∃ s1:LS,s1=⟨rv,gv,l,addW wh x.d,nb'⟩:=⟨_,rfl⟩
            have hI:s1.Ok (k + 1):=hs1 ▸ LS.okB x.d hok hnb'
            replace hs:=hs.toL (L':=.seg g19 (Opr.c ⟨kd,x⟩) 114::[.row s1.rv s1.l.length (clsC s1.l) 54 5,.seg g17 (ledC s1.rv s1.wh) 112,Ent.grp (led gl mb s1.nb s1.gv s1.l s1.wh),.seg g10 (lf.map B++[.slice wad nw wcap,.slice pad np pcap]) 66]) (by subst hs1; dsimp only; rw [show addW wh x.d=wh from if_neg (by rw [hno]; simp)]; rfl)
            refine wp_skip (blk_n (then_n (wp_reg ?_)))
            refine s_q hs (c_addI (hs.ev rfl) (hs.ev rfl) (by omega) (by omega)) rfl fun ac hs=>?_
            refine s_q hs (c_move (hs.ev rfl)) rfl fun ac hs=>?_
            refine s_end (then_n ?_)
            replace hs:=hs.pick (L':=[_,_,_,_]) (.cons _ (.refl _))
            exact ⟨ops.length - (k + 1),by omega,(k + 1,s1),⟨by omega,by omega,hI,rfl⟩,St.next hs ⟨rfl,rfl,rfl,rfl,rfl,rfl,rfl,rfl,rfl,rfl,rfl,rfl,trivial⟩ rfl⟩
        · refine s_q hs (c_to (c_eqlI (hs.ev rfl) (hs.ev rfl)) ((congrArg Value.bool hkd))) rfl fun ac hs=>?_
          refine s_q hs (c_move (hs.ev rfl)) rfl fun ac hs=>?_
          refine s_yes hs rfl rfl ?_
          refine s_q hs (c_move (hs.ev rfl)) rfl fun ac hs=>?_
          refine s_yes hs rfl rfl ?_
          refine s_q hs (c_fld fl114_1 (hs.ev rfl)) rfl fun ac hs=>?_
          refine s_yes hs rfl rfl ?_
          refine s_q hs (c_loadA ty54 ag54 (hs.ev rfl) (hs.seg (i:=0) rfl) (show _=Cl.c x from rfl) (by rfl)) rfl fun ac hs=>?_
          refine s_yes hs rfl rfl ?_
          refine s_call hs fu27 (.cons (hs.ev rfl) .nil) (tr_To x _) rfl fun ac ww v58 hf hp hs=>?_
          obtain rfl:=hp
          replace hs:=hs [] (.nil _ _)
          refine s_yes hs rfl rfl ?_
          refine s_callM (i:=3) hs fu53 (.cons (hs.ev rfl) (.cons (hs.ev rfl) .nil)) rfl (tr_Show gl mb nb gv l wh x (by omega) _ (hs.get (i:=3) rfl)) rfl fun ac ww v59 hf hp hs=>?_
          obtain ⟨rfl,gv',h1,h2⟩:=hp
          replace hs:=hs (Ent.grp (led gl mb nb gv' (addC l x) wh)) h1 (fun k hk=>⟨h2 k hk,grp_lt h1 k hk⟩)
          refine s_yes hs rfl rfl ?_
          refine s_q hs (c_eqlI (hs.ev rfl) (hs.ev rfl)) rfl fun ac hs=>?_
          refine s_q hs (c_pick (hs.ev rfl) (hs.ev rfl) (hs.ev rfl)) rfl fun ac hs=>?_
          refine s_end (then_n ?_)
          refine s_cond hs rfl (fun hc=>?_) (fun hc=>?_)
          · skip
            have hyes:shOk x=true:=ec_yes hc
            refine wp_reg ?_
            refine s_q hs (c_fld fl112_0 (hs.ev rfl)) rfl fun ac hs=>?_
            refine s_q hs (c_loadS un109 rfl (hs.ev rfl) (hs.seg (i:=2) rfl) rfl) rfl fun ac hs=>?_
            refine s_q hs (c_fld fl114_1 (hs.ev rfl)) rfl fun ac hs=>?_
            refine s_q hs (c_loadA ty54 ag54 (hs.ev rfl) (hs.seg (i:=0) rfl) (show _=Cl.c x from rfl) (by rfl)) rfl fun ac hs=>?_
            refine s_bslice hs un109 ty54 (.cons (hs.ev rfl) .nil) rfl (by simp [Value.cells,Cl.c]) (by decide) rfl rfl fun ac ww g66 hs=>?_
            refine s_append (i:=2) hs un109 ty54 (by decide) rfl rfl rfl (Rd.of_seg (n:=1) (hs.seg (i:=0) rfl) (Nat.le_refl _) (by decide) (List.take_of_length_le (by simp [flatCells,Value.cells,Cl.c]))) (by simp [flatCells,Value.cells,Cl.c]) (by simp [flatCells,Value.cells,Value.oneCell',U,Cl.c]) (by unfold maxLen; omega) (by omega) rfl fun ac ww v67 hf hnil hs=>?_
            obtain ⟨ad67,cap67,rfl,_,_⟩:=Rd.sl (Rd.of_row (hs.get (i:=2) rfl))
            refine s_q hs (c_fld fl112_0 (hs.ev rfl)) rfl fun ac hs=>?_
            refine s_store (i:=3) hs ty109 rfl rfl rfl rfl rfl rfl (by simp [ledC]) rfl fun ww hs=>?_
            refine s_end ?_
            obtain ⟨s1,hs1⟩:∃ s1:LS,s1=⟨.slice ad67 (l.length + 1) cap67,gv',addC l x,wh,nb⟩:=⟨_,rfl⟩
            have hI:s1.Ok (k + 1):=hs1 ▸ LS.okA x hok
            replace hs:=(hs.pick (L':=[_,_,_,_,_]) (.cons _ (.refl _))).toL (L':=.seg g19 (Opr.c ⟨kd,x⟩) 114::[.row s1.rv s1.l.length (clsC s1.l) 54 5,.seg g17 (ledC s1.rv s1.wh) 112,Ent.grp (led gl mb s1.nb s1.gv s1.l s1.wh),.seg g10 (lf.map B++[.slice wad nw wcap,.slice pad np pcap]) 66]) (by subst hs1; dsimp only; rw [show addC l x=l++[x] from if_pos hyes,clsC_append,clsC_one,List.length_append]; rfl)
            refine then_n (wp_seq (wp_reg ?_))
            refine s_q hs (c_fld fl114_0 (hs.ev rfl)) rfl fun ac hs=>?_
            refine s_q hs (c_loadS un3 rfl (hs.ev rfl) (hs.seg (i:=0) rfl) rfl) rfl fun ac hs=>?_
            refine s_q hs (c_ff (c_neqI (hs.ev rfl) (hs.ev rfl)) ((by rw [hkd]; rfl))) rfl fun ac hs=>?_
            refine s_q hs (c_move (hs.ev rfl)) rfl fun ac hs=>?_
            refine s_no hs rfl rfl rfl rfl fun ac hs=>?_
            refine s_no hs rfl rfl rfl rfl fun ac hs=>?_
            refine s_no hs rfl rfl rfl rfl fun ac hs=>?_
            refine s_no hs rfl rfl rfl rfl fun ac hs=>?_
            refine s_no hs rfl rfl rfl rfl fun ac hs=>?_
            refine s_no hs rfl rfl rfl rfl fun ac hs=>?_
            refine s_q hs (c_pick (hs.ev rfl) (hs.ev rfl) (hs.ev rfl)) rfl fun ac hs=>?_
            refine s_end (then_n ?_)
            refine wp_cond_false (hs.ev rfl) ?_
            refine wp_skip (blk_n (then_n (wp_reg ?_)))
            refine s_q hs (c_addI (hs.ev rfl) (hs.ev rfl) (by omega) (by omega)) rfl fun ac hs=>?_
            refine s_q hs (c_move (hs.ev rfl)) rfl fun ac hs=>?_
            refine s_end (then_n ?_)
            replace hs:=hs.pick (L':=[_,_,_,_]) (.cons _ (.refl _))
            exact ⟨ops.length - (k + 1),by omega,(k + 1,s1),⟨by omega,by omega,hI,rfl⟩,St.next hs ⟨rfl,rfl,rfl,rfl,rfl,rfl,rfl,rfl,rfl,rfl,rfl,rfl,trivial⟩ rfl⟩
          · skip
            have hno:shOk x=false:=ec_no hc
            obtain ⟨s1,hs1⟩:∃ s1:LS,s1=⟨rv,gv',addC l x,wh,nb⟩:=⟨_,rfl⟩
            have hI:s1.Ok (k + 1):=hs1 ▸ LS.okA x hok
            replace hs:=hs.toL (L':=.seg g19 (Opr.c ⟨kd,x⟩) 114::[.row s1.rv s1.l.length (clsC s1.l) 54 5,.seg g17 (ledC s1.rv s1.wh) 112,Ent.grp (led gl mb s1.nb s1.gv s1.l s1.wh),.seg g10 (lf.map B++[.slice wad nw wcap,.slice pad np pcap]) 66]) (by subst hs1; dsimp only; rw [show addC l x=l from if_neg (by rw [hno]; simp)]; rfl)
            refine wp_skip (then_n (wp_seq (wp_reg ?_)))
            refine s_q hs (c_fld fl114_0 (hs.ev rfl)) rfl fun ac hs=>?_
            refine s_q hs (c_loadS un3 rfl (hs.ev rfl) (hs.seg (i:=0) rfl) rfl) rfl fun ac hs=>?_
            refine s_q hs (c_ff (c_neqI (hs.ev rfl) (hs.ev rfl)) ((by rw [hkd]; rfl))) rfl fun ac hs=>?_
            refine s_q hs (c_move (hs.ev rfl)) rfl fun ac hs=>?_
            refine s_no hs rfl rfl rfl rfl fun ac hs=>?_
            refine s_no hs rfl rfl rfl rfl fun ac hs=>?_
            refine s_no hs rfl rfl rfl rfl fun ac hs=>?_
            refine s_no hs rfl rfl rfl rfl fun ac hs=>?_
            refine s_no hs rfl rfl rfl rfl fun ac hs=>?_
            refine s_no hs rfl rfl rfl rfl fun ac hs=>?_
            refine s_q hs (c_pick (hs.ev rfl) (hs.ev rfl) (hs.ev rfl)) rfl fun ac hs=>?_
            refine s_end (then_n ?_)
            refine wp_cond_false (hs.ev rfl) ?_
            refine wp_skip (blk_n (then_n (wp_reg ?_)))
            refine s_q hs (c_addI (hs.ev rfl) (hs.ev rfl) (by omega) (by omega)) rfl fun ac hs=>?_
            refine s_q hs (c_move (hs.ev rfl)) rfl fun ac hs=>?_
            refine s_end (then_n ?_)
            replace hs:=hs.pick (L':=[_,_,_,_]) (.cons _ (.refl _))
            exact ⟨ops.length - (k + 1),by omega,(k + 1,s1),⟨by omega,by omega,hI,rfl⟩,St.next hs ⟨rfl,rfl,rfl,rfl,rfl,rfl,rfl,rfl,rfl,rfl,rfl,rfl,trivial⟩ rfl⟩
    · try simp only [decide_eq_true_eq,decide_eq_false_iff_not,Bool.not_eq_true',Bool.not_eq_false',Bool.and_eq_true,Bool.or_eq_true,Bool.or_eq_false_iff] at hc
      skip
      refine wp_exit (then_e (then_e (blk_hit (then_n (wp_seq (wp_seq (wp_reg ?_)))))))
      refine s_q hs (c_move (hs.ev rfl)) rfl fun ac hs=>?_
      refine s_q hs (c_move (hs.ev rfl)) rfl fun ac hs=>?_
      refine s_g hs rfl rfl (fun hg=>c_loadW ty23 ag23 (hs.ev rfl) (hs.old hb6 ne6) (by rfl)) rfl fun ac hs=>?_
      refine s_g hs rfl rfl (fun hg=>c_loadW ty54 ag54 (hs.ev rfl) (hs.old hb9 ne9) (by rfl)) rfl fun ac hs=>?_
      refine s_gcall hs rfl rfl fu28 (fun hg=>(.cons (gev (hs.ev rfl) hg) (.cons (gev (hs.ev rfl) hg) .nil))) (fun hg=>ref09_Right n Sn Hn d mt sn ep sq _) rfl fun ac ww hf hs=>?_
      refine s_q hs (c_and (hs.ev rfl) (hs.ev rfl)) rfl fun ac hs=>?_
      refine s_end ?_
      replace hs:=hs.sub (F':=[(6,_),(9,_),(10,_),(12,_),(13,_),(14,_),(16,_),(17,_),(91,_)]) ⟨rfl,rfl,rfl,rfl,rfl,rfl,rfl,rfl,rfl,trivial⟩
      refine then_n ?_
      refine s_cond hs rfl (fun hc=>?_) (fun hc=>?_)
      · skip
        have hcr:clRight n Sn Hn d mt sn ep sq=true:=by
          simp at hc
          exact hc.2
        obtain ⟨hR,hd0,hdW,hsn0,hsnW,hep,hsq,hmt0,hmtS⟩:=clRight_iff.1 hcr
        obtain ⟨m,rfl⟩:=int_of hmt0
        have hdn:d.toNat < n:=by omega
        obtain ⟨rcur,hrb,hpc⟩:=hR13.piece hdn
        have ner:=kinds_ne hrb hbase rfl
        have hsl:(sdAt (sdR sd0 n) d).length=32:=by
          have h2:=Nat.mul_le_mul_right 32 (show d.toNat + 1≤n from hdn)
          have h3:=sdR_length hsd n
          rw [Nat.succ_mul] at h2
          rw [sdAt,List.length_take,List.length_drop]
          omega
        have hko:((pr n Sn Hn (sdAt (sdR sd0 n) d) d ep)).Ok:=pr_ok (by omega) (by omega) hsl
        have hpl2:(hPs ((pr n Sn Hn (sdAt (sdR sd0 n) d) d ep)) sq).length=Hn * 16:=hPs_length (p:=(pr n Sn Hn (sdAt (sdR sd0 n) d) d ep)) (m:=m) (sn:=sn) hcr
        have hnwk:=shN_le (m:Int) n sn
        refine wp_region_rg pmix 7 (by kernel_rfl) rfl hs ?_
        simp only [List.take_succ_cons,List.take_zero]
        refine rg_q (fun ac ww h=>c_loadW ty23 ag23 (h.ev rfl) (h.blk (hs.old hb6 ne6)) (by rfl)) rfl ?_
        refine rg_q (fun ac ww h=>c_move (h.ev rfl)) rfl ?_
        refine rg_q (fun ac ww h=>c_fld fl54_0 (h.ev rfl)) rfl ?_
        refine rg_q (fun ac ww h=>c_loadS un3 rfl (h.ev rfl) (h.blk (hs.old hb9 ne9)) rfl) rfl ?_
        refine rg_q (fun ac ww h=>c_idxS (j:=d.toNat) un100 ty24 (h.ev rfl) (h.ev rfl) (by omega) hdn) rfl ?_
        refine rg_q (fun ac ww h=>c_loadA ty24 rfl (h.ev rfl) (h.blk (hs.old hrb ner)) hpc (show (List.map B (sdAt (sdR sd0 n) d)).length=32 by rw [List.length_map,hsl])) rfl ?_
        refine rg_q (fun ac ww h=>c_loadW ty54 ag54 (h.ev rfl) (h.blk (hs.old hb9 ne9)) (by rfl)) rfl ?_
        refine rg_nil fun ac ww L' hf hfe hs=>?_
        simp only [List.drop_succ_cons,List.drop_zero]
        obtain rfl:L'=[]:=hfe
        replace hs:=hs.toL (List.nil_append _)
        refine s_call hs fu31 (.cons (hs.ev rfl) (.cons (hs.ev rfl) (.cons (hs.ev rfl) .nil))) (ref09_Issue (pr n Sn Hn (sdAt (sdR sd0 n) d) d ep) hko m sn sq hcr _) rfl fun ac ww v99 hf hp hs=>?_
        obtain ⟨L9,⟨wv2,pv2,rfl,rfl⟩,hh⟩:=hp
        replace hs:=hs _ hh
        have hwo2:=(Rd.of_row (hs.get (i:=1) rfl)).one
        have hpo2:=(Rd.of_row (hs.get (i:=0) rfl)).one
        refine s_storeW (i:=5) hs ty66 rfl rfl rfl (by simp [shL_length]) (by simp [hwo2,hpo2]; exact fun x _=>rfl) (by simp [hlf]) fun ww hs=>?_
        refine s_end ?_
        have hor2:OrAt ww o none:=hor.frX hs.fr (fun k e=>⟨_,_,_,e ▸ hbase,rfl⟩) (fun _ h=>by cases h)
        replace hR13:=hR13.frM hs.fr (fun k e cs fr h9=>by have e:k=g10:=e; rw [e,hbase] at h9; cases h9)
        obtain ⟨lfc,wsc,psc,nwc,npc,wvc,pvc,hlfc,hwlc,hplc,hnwc,hnpc,hb10c,hnw,hnp⟩:∃ (lfc wsc psc:List UInt8) (nwc npc:Nat) (wvc pvc:Value),lfc.length=16∧wsc.length=nwc * 16∧psc.length=npc * 16∧nwc≤1000∧npc≤1000∧ww.heap[g10]?=some (.cells (lfc.map B++[wvc,pvc]).toArray 66 (0,0))∧(∀ w9,Fr (OrM o none) ww w9→Rd w9 wvc nwc (wsc.map B))∧(∀ w9,Fr (OrM o none) ww w9→Rd w9 pvc npc (psc.map B)):=⟨hLf (pr n Sn Hn (sdAt (sdR sd0 n) d) d ep) m sn sq,hWs (pr n Sn Hn (sdAt (sdR sd0 n) d) d ep) m sn sq,hPs (pr n Sn Hn (sdAt (sdR sd0 n) d) d ep) sq,shN (m:Int) n sn,Hn,_,_,shL_length _ _ _ _ _ _ _,shW_length _ _ _ _ _ _ _,hpl2,by omega,by omega,hs.seg (i:=5) rfl,fun w9 hf9=>(Rd.of_row (hs.get (i:=1) rfl)).fr hf9 fun k hk hm=>orM_kp hor2 hm (row_kp (hs.get (i:=1) rfl) rfl k hk),fun w9 hf9=>(Rd.of_row (hs.get (i:=0) rfl)).fr hf9 fun k hk hm=>orM_kp hor2 hm (row_kp (hs.get (i:=0) rfl) rfl k hk)⟩
        replace hb6:=hs.old hb6 ne6
        replace hb9:=hs.old hb9 ne9
        have hfrQ:Fr0 w ww:=hfr0.over hs.fr (fun i e=>by have e:i=g10:=e; rw [e]; exact hg10)
        have hhl:Has 0 ww (led gl mb nb gv l wh):=hs.get (i:=4) rfl
        have hrw:Rd ww rv l.length (clsC l):=Rd.of_row (hs.get (i:=2) rfl)
        have hrwk:=row_kp (T:=54) (hs.get (i:=2) rfl) rfl
        have hrwM:∀ w9,Fr (OrM o none) ww w9→Rd w9 rv l.length (clsC l):=fun w9 hf9=>hrw.fr hf9 fun k hk hm=>orM_kp hor2 hm (hrwk k hk)
        have hb17:=hs.seg (i:=3) rfl
        replace hs:=St.start hs.know ww
        replace hs:=hs.sub (F':=[(6,_),(9,_),(10,_),(12,_),(13,_),(14,_),(16,_),(17,_)]) ⟨rfl,rfl,rfl,rfl,rfl,rfl,rfl,rfl,trivial⟩
        refine then_n (wp_seq ?_)
        have hK:=FwO.frKO (M:=OrM o none) (kp:=kpO) (R:=fun _ _=>True) (B1:=ww.heap.size) (fun k hm=>by
          rcases hm with e | ⟨_,e,_⟩
          · obtain ⟨es,cl,h8⟩:=hor2.mp.blk
            rw [e]
            exact heap_lt h8
          · cases e) (fun _ _=>trivial) (fun _=>trivial)
        have hszB:=hfrQ.size
        refine FwO.wp_region_rgO (cc:=108) pmix hK 17 (by kernel_rfl) rfl hs.know ?_
        simp only [List.take_succ_cons,List.take_zero]
        refine FwO.rg_call hK fu48 (fun ac ww h=>.nil) (fun ww hf=>tr_awake ww) rfl ?_
        refine FwO.rg_q hK (fun ac ww h=>c_move (h.ev rfl)) rfl ?_
        refine FwO.rg_yes hK rfl rfl (fun ac ww h=>c_move (h.ev rfl)) rfl ?_
        refine FwO.rg_yes hK rfl rfl (fun ac ww h=>c_move (h.ev rfl)) rfl ?_
        refine FwO.rg_yes hK rfl rfl (fun ac ww h=>c_loadW ty54 ag54 (h.ev rfl) (h.blk hb9) (by rfl)) rfl ?_
        refine FwO.rg_strip rfl rfl ?_
        refine FwO.rg_call hK fu27 (fun ac ww h=>(.cons (h.ev rfl) .nil)) (fun ww hf=>law09_To d (m:Int) sn ep sq ww) rfl ?_
        refine FwO.rg_yes hK rfl rfl (fun ac ww h=>c_loadW ty66 ag66 (h.ev rfl) (h.blk hb10c) (by simp [hlfc])) rfl ?_
        refine FwO.rg_strip rfl rfl ?_
        refine FwO.rg_callE hK (crE 36 lfc nwc wsc npc psc) (fun _ _ _ _ _ h=>h) fu34 (fun ac ww h=>?_) rfl ?_
        · exact ⟨_,.cons (h.ev rfl) (.nil),law09_ToCred lfc wsc psc nwc npc _ _ hlfc hwlc hplc (by omega) (by omega) _ (hnw _ h.fr.1) (hnp _ h.fr.1)⟩
        refine FwO.rg_strip rfl rfl ?_
        refine FwO.rg_callOneE hK fu55 (c:=I (judV (ownV o d (m:Int) sn ep sq lfc wsc psc) (mayP wh l ⟨d,ep,sq,(m:Int),sn⟩))) (fun ac w8 h hf0=>?_) rfl ?_
        · obtain ⟨v80,L80,he80,⟨wv8,pv8,rfl,rfl⟩,hh80⟩:=h.ent (n:=107) rfl rfl
          refine ⟨_,.cons (h.ev rfl) (.cons (h.ev rfl) (.cons (h.ev rfl) (.cons he80 .nil))),Calls.mono (tr_Judge o none d (m:Int) sn ep sq w.heap.size lfc wsc psc nwc npc wv8 pv8 gl mb nb gv l wh hmb (fun _ e=>by cases e) hlfc hwlc hplc hdb w8 (Nat.le_trans hszB hf0.size) (hor2.fr0 hf0) (Rd.of_row (hh80.holds _ (List.mem_of_getElem? (i:=1) rfl))) (Rd.of_row (hh80.holds _ (List.mem_of_getElem? (i:=0) rfl))) (row_kp (hh80.holds _ (List.mem_of_getElem? (i:=1) rfl))) (row_kp (hh80.holds _ (List.mem_of_getElem? (i:=0) rfl))) fun w9 hf9=>led_M (hhl.fr0 hf0) (hor2.fr0 hf0) hmne hf9) ?_⟩
          rintro e9 w9 ⟨v9,he9,hf9,hv9,hz9⟩
          exact ⟨by rw [he9,hv9],hf9,keepKB (hor2.fr0 hf0) hf9,trivial⟩
        refine FwO.rg_yes hK rfl rfl (fun ac ww h=>c_loadW ty23 ag23 (h.ev rfl) (h.blk hb6) (by rfl)) rfl ?_
        refine FwO.rg_yes hK rfl rfl (fun ac ww h=>c_move (h.ev rfl)) rfl ?_
        refine FwO.rg_yes hK rfl rfl (fun ac ww h=>c_loadW ty112 ag112 (h.ev rfl) (h.blk hb17) (by rfl)) rfl ?_
        refine FwO.rg_yes hK rfl rfl (fun ac ww h=>c_loadW ty54 ag54 (h.ev rfl) (h.blk hb9) (by rfl)) rfl ?_
        refine FwO.rg_yes hK rfl rfl (fun ac ww h=>c_loadW ty66 ag66 (h.ev rfl) (h.blk hb10c) (by simp [hlfc])) rfl ?_
        refine FwO.rg_strip rfl rfl ?_
        refine FwO.rg_call hK fu56 (fun ac ww h=>(.cons (h.ev rfl) (.cons (h.ev rfl) (.cons (h.ev rfl) (.cons (h.ev rfl) (.cons (h.ev rfl) .nil)))))) (fun ww hf=>ref28_Judge n Sn Hn n (sdR sd0 n) _ (sdR_length hsd n) rfl d (m:Int) sn ep sq lfc wsc psc nwc npc _ _ rv l wh hlfc hwlc hplc ww (hR13.kb hf.2.1).rd (hnw _ hf.1) (hnp _ hf.1) (hrwM _ hf.1)) rfl ?_
        refine FwO.rg_yes hK rfl rfl (fun ac ww h=>c_tt (c_eqlI (h.ev rfl) (h.ev rfl)) ((by rw [may_eq _ hok.h3 hok.h4,ownV,hpr,hoW,hoS,hoH]; simp))) rfl ?_
        refine FwO.rg_q hK (fun ac ww h=>c_pick (h.ev rfl) (h.ev rfl) (h.ev rfl)) rfl ?_
        refine FwO.rg_nil fun ac ww L' hfk hfe hkn hhas hlk=>?_
        simp only [List.drop_succ_cons,List.drop_zero]
        replace hfrQ:=hfrQ.over hfk.1 (fun k hk=>by
          rcases hk with e | ⟨_,e,_⟩
          · rw [e]; exact hmb
          · cases e)
        replace hs:=St.start hkn ww
        refine s_q hs (c_assign (hs.ev rfl)) rfl fun ac hs=>?_
        refine s_end ?_
        replace hs:=hs.sub (F':=[(12,_)]) ⟨rfl,trivial⟩
        refine then_n (wp_ret ?_)
        refine s_ret hs rfl (.tmp (hs.tmp rfl) .nil) rfl ⟨_,rfl,(hfrQ.trans0 hs.fr),?_⟩
        rfl
      · skip
        have hor2:OrAt ww o none:=hor.frX hs.fr (fun k e=>⟨_,_,_,e ▸ hbase,rfl⟩) (fun _ h=>by cases h)
        replace hR13:=hR13.frM hs.fr (fun k e cs fr h9=>by have e:k=g10:=e; rw [e,hbase] at h9; cases h9)
        obtain ⟨lfc,wsc,psc,nwc,npc,wvc,pvc,hlfc,hwlc,hplc,hnwc,hnpc,hb10c,hnw,hnp⟩:∃ (lfc wsc psc:List UInt8) (nwc npc:Nat) (wvc pvc:Value),lfc.length=16∧wsc.length=nwc * 16∧psc.length=npc * 16∧nwc≤1000∧npc≤1000∧ww.heap[g10]?=some (.cells (lfc.map B++[wvc,pvc]).toArray 66 (0,0))∧(∀ w9,Fr (OrM o none) ww w9→Rd w9 wvc nwc (wsc.map B))∧(∀ w9,Fr (OrM o none) ww w9→Rd w9 pvc npc (psc.map B)):=⟨lf,ws,ps,nw,np,_,_,hlf,hwl,hpl,by omega,by omega,hs.seg (i:=3) rfl,fun w9 hf9=>Rd.frL hqw (hqw.fr0 (hfr0.over hs.fr (fun i e=>by have e:i=g10:=e; rw [e]; exact hg10))) hf9 (fun k hk=>by
          rcases hk with e | ⟨_,e,_⟩
          · rw [e]; exact hmb
          · cases e),fun w9 hf9=>Rd.frL hqp (hqp.fr0 (hfr0.over hs.fr (fun i e=>by have e:i=g10:=e; rw [e]; exact hg10))) hf9 (fun k hk=>by
          rcases hk with e | ⟨_,e,_⟩
          · rw [e]; exact hmb
          · cases e)⟩
        replace hb6:=hs.old hb6 ne6
        replace hb9:=hs.old hb9 ne9
        have hfrQ:Fr0 w ww:=hfr0.over hs.fr (fun i e=>by have e:i=g10:=e; rw [e]; exact hg10)
        have hhl:Has 0 ww (led gl mb nb gv l wh):=hs.get (i:=2) rfl
        have hrw:Rd ww rv l.length (clsC l):=Rd.of_row (hs.get (i:=0) rfl)
        have hrwk:=row_kp (T:=54) (hs.get (i:=0) rfl) rfl
        have hrwM:∀ w9,Fr (OrM o none) ww w9→Rd w9 rv l.length (clsC l):=fun w9 hf9=>hrw.fr hf9 fun k hk hm=>orM_kp hor2 hm (hrwk k hk)
        have hb17:=hs.seg (i:=1) rfl
        replace hs:=St.start hs.know ww
        refine wp_skip (then_n (wp_seq ?_))
        have hK:=FwO.frKO (M:=OrM o none) (kp:=kpO) (R:=fun _ _=>True) (B1:=ww.heap.size) (fun k hm=>by
          rcases hm with e | ⟨_,e,_⟩
          · obtain ⟨es,cl,h8⟩:=hor2.mp.blk
            rw [e]
            exact heap_lt h8
          · cases e) (fun _ _=>trivial) (fun _=>trivial)
        have hszB:=hfrQ.size
        refine FwO.wp_region_rgO (cc:=108) pmix hK 17 (by kernel_rfl) rfl hs.know ?_
        simp only [List.take_succ_cons,List.take_zero]
        refine FwO.rg_call hK fu48 (fun ac ww h=>.nil) (fun ww hf=>tr_awake ww) rfl ?_
        refine FwO.rg_q hK (fun ac ww h=>c_move (h.ev rfl)) rfl ?_
        refine FwO.rg_yes hK rfl rfl (fun ac ww h=>c_move (h.ev rfl)) rfl ?_
        refine FwO.rg_yes hK rfl rfl (fun ac ww h=>c_move (h.ev rfl)) rfl ?_
        refine FwO.rg_yes hK rfl rfl (fun ac ww h=>c_loadW ty54 ag54 (h.ev rfl) (h.blk hb9) (by rfl)) rfl ?_
        refine FwO.rg_strip rfl rfl ?_
        refine FwO.rg_call hK fu27 (fun ac ww h=>(.cons (h.ev rfl) .nil)) (fun ww hf=>law09_To d mt sn ep sq ww) rfl ?_
        refine FwO.rg_yes hK rfl rfl (fun ac ww h=>c_loadW ty66 ag66 (h.ev rfl) (h.blk hb10c) (by simp [hlfc])) rfl ?_
        refine FwO.rg_strip rfl rfl ?_
        refine FwO.rg_callE hK (crE 36 lfc nwc wsc npc psc) (fun _ _ _ _ _ h=>h) fu34 (fun ac ww h=>?_) rfl ?_
        · exact ⟨_,.cons (h.ev rfl) (.nil),law09_ToCred lfc wsc psc nwc npc _ _ hlfc hwlc hplc (by omega) (by omega) _ (hnw _ h.fr.1) (hnp _ h.fr.1)⟩
        refine FwO.rg_strip rfl rfl ?_
        refine FwO.rg_callOneE hK fu55 (c:=I (judV (ownV o d mt sn ep sq lfc wsc psc) (mayP wh l ⟨d,ep,sq,mt,sn⟩))) (fun ac w8 h hf0=>?_) rfl ?_
        · obtain ⟨v80,L80,he80,⟨wv8,pv8,rfl,rfl⟩,hh80⟩:=h.ent (n:=107) rfl rfl
          refine ⟨_,.cons (h.ev rfl) (.cons (h.ev rfl) (.cons (h.ev rfl) (.cons he80 .nil))),Calls.mono (tr_Judge o none d mt sn ep sq w.heap.size lfc wsc psc nwc npc wv8 pv8 gl mb nb gv l wh hmb (fun _ e=>by cases e) hlfc hwlc hplc hdb w8 (Nat.le_trans hszB hf0.size) (hor2.fr0 hf0) (Rd.of_row (hh80.holds _ (List.mem_of_getElem? (i:=1) rfl))) (Rd.of_row (hh80.holds _ (List.mem_of_getElem? (i:=0) rfl))) (row_kp (hh80.holds _ (List.mem_of_getElem? (i:=1) rfl))) (row_kp (hh80.holds _ (List.mem_of_getElem? (i:=0) rfl))) fun w9 hf9=>led_M (hhl.fr0 hf0) (hor2.fr0 hf0) hmne hf9) ?_⟩
          rintro e9 w9 ⟨v9,he9,hf9,hv9,hz9⟩
          exact ⟨by rw [he9,hv9],hf9,keepKB (hor2.fr0 hf0) hf9,trivial⟩
        refine FwO.rg_yes hK rfl rfl (fun ac ww h=>c_loadW ty23 ag23 (h.ev rfl) (h.blk hb6) (by rfl)) rfl ?_
        refine FwO.rg_yes hK rfl rfl (fun ac ww h=>c_move (h.ev rfl)) rfl ?_
        refine FwO.rg_yes hK rfl rfl (fun ac ww h=>c_loadW ty112 ag112 (h.ev rfl) (h.blk hb17) (by rfl)) rfl ?_
        refine FwO.rg_yes hK rfl rfl (fun ac ww h=>c_loadW ty54 ag54 (h.ev rfl) (h.blk hb9) (by rfl)) rfl ?_
        refine FwO.rg_yes hK rfl rfl (fun ac ww h=>c_loadW ty66 ag66 (h.ev rfl) (h.blk hb10c) (by simp [hlfc])) rfl ?_
        refine FwO.rg_strip rfl rfl ?_
        refine FwO.rg_call hK fu56 (fun ac ww h=>(.cons (h.ev rfl) (.cons (h.ev rfl) (.cons (h.ev rfl) (.cons (h.ev rfl) (.cons (h.ev rfl) .nil)))))) (fun ww hf=>ref28_Judge n Sn Hn n (sdR sd0 n) _ (sdR_length hsd n) rfl d mt sn ep sq lfc wsc psc nwc npc _ _ rv l wh hlfc hwlc hplc ww (hR13.kb hf.2.1).rd (hnw _ hf.1) (hnp _ hf.1) (hrwM _ hf.1)) rfl ?_
        refine FwO.rg_yes hK rfl rfl (fun ac ww h=>c_tt (c_eqlI (h.ev rfl) (h.ev rfl)) ((by rw [may_eq _ hok.h3 hok.h4,ownV,hpr,hoW,hoS,hoH]; simp))) rfl ?_
        refine FwO.rg_q hK (fun ac ww h=>c_pick (h.ev rfl) (h.ev rfl) (h.ev rfl)) rfl ?_
        refine FwO.rg_nil fun ac ww L' hfk hfe hkn hhas hlk=>?_
        simp only [List.drop_succ_cons,List.drop_zero]
        replace hfrQ:=hfrQ.over hfk.1 (fun k hk=>by
          rcases hk with e | ⟨_,e,_⟩
          · rw [e]; exact hmb
          · cases e)
        replace hs:=St.start hkn ww
        refine s_q hs (c_assign (hs.ev rfl)) rfl fun ac hs=>?_
        refine s_end ?_
        replace hs:=hs.sub (F':=[(12,_)]) ⟨rfl,trivial⟩
        refine then_n (wp_ret ?_)
        refine s_ret hs rfl (.tmp (hs.tmp rfl) .nil) rfl ⟨_,rfl,(hfrQ.trans0 hs.fr),?_⟩
        rfl
end Go.Proofs.YtklajbdbnnceiaaGreat
end
