/- Own texts of this seat, laid together: Fw25, Fw26, Fw27, Fw28, Fw29, Fw30, Fw31, RowsSpec, OtsC, OtsSnd. -/
import Derived.Test.YtmgnnclkjkbmdaaGa
import Derived.Test.YtmgnnclkjkbmdaaGb
import Derived.Test.YtmgnnclkjkbmdaaGc
import Derived.Test.YtmgnnclkjkbmdaaGd
import Derived.Test.YtmgnnclkjkbmdaaGe
import Derived.Test.YtmgnnclkjkbmdaaGf
import Derived.ChangeMaps5
/- Stores into the elements of a slice that may grow. -/
section
set_option linter.unusedSimpArgs false
set_option linter.unusedVariables false
namespace Go.Fw
open Go
section
variable {P : Program} {ops : Array Oper} {Q : Exit → Act → World → Prop} {rest : List Oper} {N : Nat} {F F' : List (Nat × Value)} {L L' : List Ent} {M : Nat → Prop} {w0 w : World} {a : Act}
variable {d : Tmp} {op : Op} {ty : TypeId} {pos : String} {aft : Array Edge} {x y z : Operand} {t u : TypeId}
theorem St.apart_of {i j : Nat} {e e' : Ent} (hs : St N F L M w0 a w) (hi : L[i]? = some e) (hj : L[j]? = some e') (hij : i < j) : ∀ k, e.keys k → ¬ e'.keys k := fun k hk => pairwise_at hs.has.apart hi hj hij k hk
theorem St.apart_of' {i j : Nat} {e e' : Ent} (hs : St N F L M w0 a w) (hi : L[i]? = some e) (hj : L[j]? = some e') (hij : i < j) : ∀ k, e'.keys k → ¬ e.keys k := fun k hk he => pairwise_at hs.has.apart hi hj hij k he hk
/-- A slice that is owned, and not empty, leads to the head of its block. -/
theorem St.row_at {i n sz : Nat} {v : Value} {xs : List Value} {T : TypeId} (hs : St N F L M w0 a w) (hi : L[i]? = some (.row v n xs T sz)) (hn : 0 < n) :
    ∃ g cap cur, v = .slice (some ⟨g, 0, none⟩) n cap ∧ w.heap[g]? = some (.cells cur T (0, 0)) ∧ n ≤ cap ∧ cap ≤ maxLen ∧ cur.size = cap * sz ∧ cur.toList.take (n * sz) = xs := by
  have h : w.ownsRow 0 T sz v n xs := hs.get hi
  obtain ⟨h1, h2⟩ := h
  rcases h2 with ⟨_, h3⟩ | ⟨g, cap, cur, h3, _, h4, h5, h6, h7, h8⟩
  · omega
  · exact ⟨g, cap, cur, h3, h4, h5, h6, h7, h8⟩
/-- A byte is stored into a slice of bytes. -/
theorem s_storeR {i g j cap : Nat} {l : List UInt8} {T' : TypeId} {td : TypeDesc} {zz : List Value} {b : UInt8} (hs : St N F L M w0 a w) (hT : Ty P t td 1 1 zz) (hag : aggD td = false)
    (hx : ev F x = some (.pointer (some ⟨g, j, none⟩))) (hy : ev F y = some (B b)) (hi : L[i]? = some (.row (.slice (some ⟨g, 0, none⟩) l.length cap) l.length (l.map B) T' 1)) (hj : j < l.length)
    (k : ∀ w, St N F (L.set i (.row (.slice (some ⟨g, 0, none⟩) (l.set j b).length cap) (l.set j b).length ((l.set j b).map B) T' 1)) M w0 a w → wpList P ops Q rest a w) :
    wpList P ops Q (⟨none, .store t x y, ty, pos, aft, none⟩ :: rest) a w := by
  have h : w.ownsRow 0 T' 1 (.slice (some ⟨g, 0, none⟩) l.length cap) l.length (l.map B) := hs.get hi
  obtain ⟨h1, h2⟩ := h
  rcases h2 with ⟨h3, _⟩ | ⟨g', cap', cur, h3, h0, hg, hnc, hcm, hcs, htk⟩
  · cases h3
  · cases h3
    have hcl : cur.toList.length = cap := by simpa using hcs
    have hg' : w.heap[g]? = some (.cells cur.toList.toArray T' (0, 0)) := by simpa using hg
    have hr := c_store (P := P) (w := w) (d := none) (ty := ty) (pos := pos) (aft := aft) (g := none) hT (hs.ev hx) (hs.ev hy) (c := [B b]) rfl rfl rfl hg' (by omega)
    have hset : cur.toList.take j ++ [B b] ++ cur.toList.drop (j + 1) = cur.toList.set j (B b) := by
      rw [List.set_eq_take_append_cons_drop, if_pos (by omega)]; simp
    rw [hset] at hr
    refine wpList_plain rfl fun K hK => upon_skip hr (hK _ _ (k _ ?_))
    have hh := setRow_heap w g _ (cur.toList.set j (B b)).toArray _ _ hg'
    refine hs.mod (e' := .row (.slice (some ⟨g, 0, none⟩) (l.set j b).length cap) (l.set j b).length ((l.set j b).map B) T' 1) hi (Fr.mono (.setRow w g _) fun k _ hk => by subst hk; rfl) ⟨by simp, .inr ⟨g, cap, _, rfl, Nat.zero_le _, hh, by simpa using hnc, hcm, by simpa using hcl, ?_⟩⟩ fun k hk => ⟨.inl (by simpa [Ent.keys, Value.ownBlock] using hk), ?_⟩
    · simp only [List.length_set, Nat.mul_one]
      rw [List.take_set, show cur.toList.take l.length = l.map B from by simpa using htk, List.map_set]
    · simp [Ent.keys, Value.ownBlock] at hk
      subst hk
      exact heap_lt hh
end
end Go.Fw
end

/- Things joined; slices of slices of bytes that grow, with all that they own. -/
section
set_option linter.unusedSimpArgs false
set_option linter.unusedVariables false
namespace Go.Fw
open Go
/-- Nothing. -/
def Ent.none : Ent := .pr (fun _ => False) (fun _ => True) fun _ _ _ _ => trivial

theorem apart_at {L : List Ent} (h : L.Pairwise Ent.apart) {i j : Nat} {a b : Ent} (hi : L[i]? = some a) (hj : L[j]? = some b) (hij : i ≠ j) : a.apart b := by
  rcases Nat.lt_or_gt_of_ne hij with h1 | h1
  · exact pairwise_at h hi hj h1
  · exact Ent.apart_symm (pairwise_at h hj hi h1)
theorem set2_at {L : List Ent} {i j p : Nat} {e x : Ent} (hi : i < L.length) (hj : j < L.length) (h : ((L.set i e).set j .none)[p]? = some x) : x = .none ∨ (p = i ∧ x = e) ∨ (p ≠ i ∧ p ≠ j ∧ L[p]? = some x) := by
  by_cases h1 : p = j
  · subst h1; left
    rw [List.getElem?_set_self (by simpa using hj)] at h
    exact (Option.some.inj h).symm
  · rw [List.getElem?_set_ne (Ne.symm h1)] at h
    by_cases h2 : p = i
    · subst h2; right; left
      rw [List.getElem?_set_self hi] at h
      exact ⟨rfl, (Option.some.inj h).symm⟩
    · rw [List.getElem?_set_ne (Ne.symm h2)] at h
      exact .inr (.inr ⟨h2, h1, h⟩)

/-- Two things, made one. -/
theorem Has.join {B : Nat} {w : World} {L : List Ent} {i j : Nat} {a b e : Ent} (h : Has B w L) (hi : L[i]? = some a) (hj : L[j]? = some b) (hij : i ≠ j) (he : e.holds w) (hk : ∀ k, e.keys k → a.keys k ∨ b.keys k) : Has B w ((L.set i e).set j .none) := by
  have li := (List.getElem?_eq_some_iff.1 hi).1
  have lj := (List.getElem?_eq_some_iff.1 hj).1
  have mem : ∀ x ∈ (L.set i e).set j .none, ∃ p, ((L.set i e).set j .none)[p]? = some x := fun x hx => by
    obtain ⟨p, hp, rfl⟩ := List.getElem_of_mem hx
    exact ⟨p, List.getElem?_eq_getElem hp⟩
  have key : ∀ (p q : Nat) (x y : Ent), ((L.set i e).set j .none)[p]? = some x → ((L.set i e).set j .none)[q]? = some y → p ≠ q → Ent.apart x y := by
    intro p q x y hp hq hpq
    rcases set2_at li lj hp with rfl | ⟨h1, rfl⟩ | ⟨h1, h2, h3⟩
    · exact fun k hk _ => hk
    · rcases set2_at li lj hq with rfl | ⟨h4, _⟩ | ⟨h4, h5, h6⟩
      · exact fun k _ hk => hk
      · exact absurd (h1.trans h4.symm) hpq
      · exact fun k hxk hyk => (hk k hxk).elim (fun r => apart_at h.apart hi h6 (Ne.symm h4) k r hyk) (fun r => apart_at h.apart hj h6 (Ne.symm h5) k r hyk)
    · rcases set2_at li lj hq with rfl | ⟨h4, rfl⟩ | ⟨h4, h5, h6⟩
      · exact fun k _ hk => hk
      · exact fun k hxk hyk => (hk k hyk).elim (fun r => apart_at h.apart hi h3 (Ne.symm h1) k r hxk) (fun r => apart_at h.apart hj h3 (Ne.symm h2) k r hxk)
      · exact apart_at h.apart h3 h6 hpq
  refine ⟨fun x hx => ?_, ?_, fun x hx k hxk => ?_, fun x hx k hxk => ?_⟩
  · obtain ⟨p, hp⟩ := mem x hx
    rcases set2_at li lj hp with rfl | ⟨_, rfl⟩ | ⟨_, _, h1⟩
    · trivial
    · exact he
    · exact h.holds x (List.mem_of_getElem? h1)
  · exact List.pairwise_iff_getElem.2 fun p q hp hq hpq => key p q _ _ (List.getElem?_eq_getElem hp) (List.getElem?_eq_getElem hq) (by omega)
  · obtain ⟨p, hp⟩ := mem x hx
    rcases set2_at li lj hp with rfl | ⟨_, rfl⟩ | ⟨_, _, h1⟩
    · exact hxk.elim
    · exact (hk k hxk).elim (h.lt a (List.mem_of_getElem? hi) k) (h.lt b (List.mem_of_getElem? hj) k)
    · exact h.lt x (List.mem_of_getElem? h1) k hxk
  · obtain ⟨p, hp⟩ := mem x hx
    rcases set2_at li lj hp with rfl | ⟨_, rfl⟩ | ⟨_, _, h1⟩
    · exact hxk.elim
    · exact (hk k hxk).elim (h.ge a (List.mem_of_getElem? hi) k) (h.ge b (List.mem_of_getElem? hj) k)
    · exact h.ge x (List.mem_of_getElem? h1) k hxk

theorem Has.cons {B : Nat} {w : World} {L : List Ent} {e : Ent} (h : Has B w L) (he : e.holds w) (hlt : ∀ k, e.keys k → k < w.heap.size) (hge : ∀ k, e.keys k → B ≤ k) (hap : ∀ x ∈ L, e.apart x) : Has B w (e :: L) :=
  ⟨fun x hx => (List.mem_cons.1 hx).elim (fun r => r ▸ he) (h.holds x), List.pairwise_cons.2 ⟨hap, h.apart⟩, fun x hx => (List.mem_cons.1 hx).elim (fun r => r ▸ hlt) (h.lt x), fun x hx => (List.mem_cons.1 hx).elim (fun r => r ▸ hge) (h.ge x)⟩

/-- The row of a part: bytes; rows of sz cells. -/
def Ent.part (T : TypeId) (q : Value × List UInt8) : Ent := .row q.1 q.2.length (q.2.map B) T 1
def Ent.partS (T : TypeId) (sz : Nat) (q : Value × Nat × List UInt8) : Ent := .row q.1 q.2.1 (q.2.2.map B) T sz
/-- Slices of bytes behind a slice that may grow, all of them owned. E: their type; T: that of their elements. -/
def textsL {α : Type} (E : TypeId) (pt : Value × α → Ent) (v : Value) (ps : List (Value × α)) : List Ent := .row v ps.length (ps.map (·.1)) E 1 :: ps.map pt
def Ent.texts {α : Type} (E : TypeId) (pt : Value × α → Ent) (v : Value) (ps : List (Value × α)) : Ent := .grp (textsL E pt v ps)

theorem RdP.texts {E T : TypeId} {v : Value} {ps : List (Value × List UInt8)} {w : World} (h : (Ent.texts E (Ent.part T) v ps).holds w) : RdP w v ps := by
  have h : Has 0 w (textsL E (Ent.part T) v ps) := h
  have h0 : w.ownsRow 0 E 1 v ps.length (ps.map (fun q => q.1)) := h.holds (.row v ps.length (ps.map (fun q : Value × List UInt8 => q.1)) E 1) (by simp [textsL])
  refine ⟨Rd.of_row h0, fun q hq => RdB.row (T := T) (h.holds (Ent.part T q) (by simp only [textsL, List.mem_cons, List.mem_map]; exact .inr ⟨q, hq, rfl⟩))⟩
/-- The parts alone. -/
theorem Has.parts {α : Type} {B : Nat} {E : TypeId} {pt : Value × α → Ent} {v : Value} {ps : List (Value × α)} {w : World} (h : Has B w (textsL E pt v ps)) : Has B w (ps.map pt) := h.pick (List.sublist_cons_self _ _)

section
variable {P : Program} {ops : Array Oper} {Q : Exit → Act → World → Prop} {rest : List Oper} {N : Nat} {F F' : List (Nat × Value)} {L L' : List Ent} {M : Nat → Prop} {w0 w : World} {a : Act}
variable {d : Tmp} {op : Op} {ty : TypeId} {pos : String} {aft : Array Edge} {x y z : Operand} {t u : TypeId}
theorem St.join {i j : Nat} {b c e : Ent} (hs : St N F L M w0 a w) (hi : L[i]? = some b) (hj : L[j]? = some c) (hij : i ≠ j) (he : e.holds w) (hk : ∀ k, e.keys k → b.keys k ∨ c.keys k) : St N F ((L.set i e).set j .none) M w0 a w := by
  refine ⟨hs.know, hs.has.join hi hj hij he hk, fun x hx k hxk => ?_, hs.fr⟩
  obtain ⟨p, hp, rfl⟩ := List.getElem_of_mem hx
  rcases set2_at (List.getElem?_eq_some_iff.1 hi).1 (List.getElem?_eq_some_iff.1 hj).1 (List.getElem?_eq_getElem hp) with h | ⟨_, h⟩ | ⟨_, _, h⟩
  · rw [h] at hxk; exact hxk.elim
  · rw [h] at hxk
    exact (hk k hxk).elim (hs.own b (List.mem_of_getElem? hi) k) (hs.own c (List.mem_of_getElem? hj) k)
  · exact hs.own _ (List.mem_of_getElem? h) k hxk
/-- The first things, made one. -/
theorem St.grpn {A : List Ent} (hs : St N F (A ++ L) M w0 a w) : St N F (.grp A :: L) M w0 a w := by
  obtain ⟨h1, h2⟩ := hs.has.cons_app
  refine ⟨hs.know, h2.cons h1 (grp_lt h1) (fun _ _ => Nat.zero_le _) fun x hx k ⟨e, he, hk⟩ hxk => (List.pairwise_append.1 hs.has.apart).2.2 e he x hx k hk hxk, fun x hx k hxk => ?_, hs.fr⟩
  rcases List.mem_cons.1 hx with rfl | hx
  · obtain ⟨e, he, hk⟩ := hxk
    exact hs.own e (List.mem_append.2 (.inl he)) k hk
  · exact hs.own x (List.mem_append.2 (.inr hx)) k hxk
/-- No texts yet. -/
theorem St.texts0 {α : Type} (hs : St N F L M w0 a w) (E : TypeId) (pt : Value × α → Ent) : St N F (.texts E pt (.slice none 0 0) [] :: L) M w0 a w := St.grpn (A := textsL E pt (.slice none 0 0) []) (hs.nilrow E 1)

/-- Texts, put behind texts. -/
theorem s_appG {α : Type} {pt : Value × α → Ent} {i j bytes : Nat} {s0 x0 : Operand} {E : TypeId} {ed : TypeDesc} {zs : List Value} {ps qs : List (Value × α)} {v u : Value} {b : Ent} (hs : St N F L M w0 a w) (hu : P.underlying t = some (.slice E)) (hE : Ty P E ed 1 bytes zs)
    (hv : ev F s0 = some v) (hx : ev F x0 = some u) (hi : L[i]? = some (.texts E pt v ps)) (hj : L[j]? = some b) (hij : Nat.beq i j = false) (hb : Has 0 w (qs.map pt)) (hbk : ∀ q ∈ qs, ∀ k, (pt q).keys k → b.keys k)
    (hr : Rd w u qs.length (qs.map (·.1))) (h1 : (qs.map (·.1)).all (·.oneCell') = true) (hml : ps.length + qs.length ≤ maxLen) (hby : (ps.length + qs.length) * bytes ≤ 140737488355328) (hd : Nat.blt d N = true)
    (k : ∀ a w' v', St N ((d, v') :: F) ((L.set i (.texts E pt v' (ps ++ qs))).set j .none) M w0 a w' → wpList P ops Q rest a w') :
    wpList P ops Q (⟨some d, .call { callee := .builtin .append, args := #[s0, x0], argTypes := #[t, t] }, ty, pos, aft, none⟩ :: rest) a w := by
  have hij : i ≠ j := fun e => by simp [e] at hij
  have hA : Has 0 w (textsL E pt v ps) := hs.get hi
  have hown : w.ownsRow 0 E 1 v ps.length (ps.map (·.1)) := hA.holds (.row v ps.length (ps.map (fun q : Value × α => q.1)) E 1) (by simp [textsL])
  obtain ⟨v', w', hrun, ho, hg, _, hblk⟩ := run_append2 (P := P) (w := w) (ty := ty) hu hE (by decide) hown hr (by simp) h1 hml hby
  have hrun' : (execOp a.eval ⟨some d, .call { callee := .builtin .append, args := #[s0, x0], argTypes := #[t, t] }, ty, pos, aft, none⟩).run P w = .ok (.value v') w' := by
    simp [execOp, resolve, invoke, builtin, hs.ev hv, hs.ev hx, hrun]
  have hap : (Ent.texts E pt v ps).apart b := apart_at hs.has.apart hi hj hij
  have hfr := Fr.grown hg
  have hrow : ∀ k, v.ownBlock = some k → (Ent.texts E pt v ps).keys k := fun k hk => ⟨.row v ps.length (ps.map (fun q : Value × α => q.1)) E 1, by simp [textsL], hk⟩
  have hpk : ∀ q ∈ ps, ∀ k, (pt q).keys k → (Ent.texts E pt v ps).keys k := fun q hq k hk => ⟨pt q, by simp only [textsL, List.mem_cons, List.mem_map]; exact .inr ⟨q, hq, rfl⟩, hk⟩
  have hne : ∀ e ∈ ps.map pt ++ qs.map pt, ∀ k, e.keys k → ¬ v.ownBlock = some k := by
    intro e he k hk hvk
    rcases List.mem_append.1 he with he | he
    · exact (List.pairwise_cons.1 hA.apart).1 e he k hvk hk
    · obtain ⟨q, hq, rfl⟩ := List.mem_map.1 he
      exact hap k (hrow k hvk) (hbk q hq k hk)
  have hmid : Has 0 w (ps.map pt ++ qs.map pt) := by
    have h2 := hA.parts
    refine ⟨fun e he => ?_, List.pairwise_append.2 ⟨h2.apart, hb.apart, fun x hx y hy k hxk hyk => ?_⟩, fun e he k hk => ?_, fun _ _ _ _ => Nat.zero_le _⟩
    · exact (List.mem_append.1 he).elim (h2.holds e) (hb.holds e)
    · obtain ⟨p, hp, rfl⟩ := List.mem_map.1 hx
      obtain ⟨q, hq, rfl⟩ := List.mem_map.1 hy
      exact hap k (hpk p hp k hxk) (hbk q hq k hyk)
    · exact (List.mem_append.1 he).elim (fun r => h2.lt e r k hk) (fun r => hb.lt e r k hk)
  have hmid' : Has 0 w' (ps.map pt ++ qs.map pt) := hmid.same hfr.size fun e he k hk => hfr.block k (hmid.lt e he k hk) fun hm => hne e he k hk hm
  have hnew : Has 0 w' (textsL E pt v' (ps ++ qs)) := by
    have ho2 : w'.ownsRow 0 E 1 v' (ps ++ qs).length ((ps ++ qs).map (·.1)) := by rw [List.length_append, List.map_append]; exact ho
    have := hmid'.cons (e := .row v' (ps ++ qs).length ((ps ++ qs).map (fun q : Value × α => q.1)) E 1) ho2 (fun k hk => ownBlock_row ho2 k hk) (fun _ _ => Nat.zero_le _) fun e he k hk hek => by
      rcases hblk k hk with h3 | h3
      · exact hne e he k hek h3
      · have := hmid.lt e he k hek; omega
    rw [← List.map_append] at this
    exact this
  refine wpList_plain rfl fun K hK => upon_value hrun' (hK _ _ (k _ _ v' (St.put ?_ (lt_of_blt hd) v')))
  have hL : Has 0 w [Ent.texts E pt v ps, b] := ((Has.nil 0 w).cons (hs.get hj) (hs.has.lt b (List.mem_of_getElem? hj)) (fun _ _ => Nat.zero_le _) (by simp)).cons (hs.get hi) (hs.has.lt _ (List.mem_of_getElem? hi)) (fun _ _ => Nat.zero_le _) (by intro x hx; simp at hx; subst hx; exact hap)
  have hs1 := hs.join (e := .grp [Ent.texts E pt v ps, b]) hi hj hij hL (fun k ⟨e, he, hk⟩ => by
    rcases List.mem_cons.1 he with rfl | he
    · exact .inl hk
    · rcases List.mem_cons.1 he with rfl | he
      · exact .inr hk
      · cases he)
  have li := (List.getElem?_eq_some_iff.1 hi).1
  have hi1 : ((L.set i (.grp [Ent.texts E pt v ps, b])).set j .none)[i]? = some (.grp [Ent.texts E pt v ps, b]) := by
    rw [List.getElem?_set_ne (Ne.symm hij), List.getElem?_set_self li]
  have hs2 := hs1.mod (w' := w') (e' := .texts E pt v' (ps ++ qs)) hi1 (hfr.mono fun k _ hk => ⟨_, List.mem_cons_self, hrow k hk⟩) hnew fun k hk => by
    refine ⟨?_, grp_lt hnew k hk⟩
    obtain ⟨e, he, hek⟩ := hk
    simp only [textsL, List.mem_cons, List.mem_map] at he
    rcases he with rfl | ⟨q, hq, rfl⟩
    · exact (hblk k hek).imp (fun r => ⟨_, List.mem_cons_self, hrow k r⟩) id
    · rcases List.mem_append.1 hq with hq | hq
      · exact .inl ⟨_, List.mem_cons_self, hpk q hq k hek⟩
      · exact .inl ⟨b, by simp, hbk q hq k hek⟩
  refine hs2.toL ?_
  rw [List.set_comm _ _ hij, List.set_set, List.set_comm _ _ hij.symm]

/-- One text, put behind texts. -/
theorem s_appT {i j g : Nat} {s0 x0 : Operand} {E T T' : TypeId} {ed : TypeDesc} {zs : List Value} {ps : List (Value × List UInt8)} {v tv : Value} {l : List UInt8} (hs : St N F L M w0 a w) (hu : P.underlying t = some (.slice E)) (hE : Ty P E ed 1 24 zs)
    (hv : ev F s0 = some v) (hx : ev F x0 = some (.slice (some ⟨g, 0, none⟩) 1 1)) (hi : L[i]? = some (.texts E (Ent.part T) v ps)) (hj : L[j]? = some (.row tv l.length (l.map B) T 1)) (hij : Nat.beq i j = false)
    (hg : w.heap[g]? = some (.cells #[tv] T' (0, 0))) (h1 : tv.oneCell' = true) (hml : ps.length ≤ 1000000) (hd : Nat.blt d N = true)
    (k : ∀ a w' v', St N ((d, v') :: F) ((L.set i (.texts E (Ent.part T) v' (ps ++ [(tv, l)]))).set j .none) M w0 a w' → wpList P ops Q rest a w') :
    wpList P ops Q (⟨some d, .call { callee := .builtin .append, args := #[s0, x0], argTypes := #[t, t] }, ty, pos, aft, none⟩ :: rest) a w :=
  s_appG (qs := [(tv, l)]) (b := .row tv l.length (l.map B) T 1) hs hu hE hv hx hi hj hij
    (by
      have := hs.has.lt _ (List.mem_of_getElem? hj)
      exact (Has.nil 0 w).cons (hs.get hj) this (fun _ _ => Nat.zero_le _) (by simp))
    (fun q hq k hk => by simp only [List.mem_singleton] at hq; subst hq; exact hk)
    (Rd.of_seg (all := [tv]) hg (Nat.le_refl _) (by decide) rfl) (by simpa using h1) (by simp only [List.length_cons, List.length_nil, maxLen]; omega) (by simp only [List.length_cons, List.length_nil]; omega) hd k
/-- Texts, put behind texts. -/
theorem s_appTT {i j : Nat} {s0 x0 : Operand} {E T : TypeId} {ed : TypeDesc} {zs : List Value} {ps qs : List (Value × List UInt8)} {v u : Value} (hs : St N F L M w0 a w) (hu : P.underlying t = some (.slice E)) (hE : Ty P E ed 1 24 zs)
    (hv : ev F s0 = some v) (hx : ev F x0 = some u) (hi : L[i]? = some (.texts E (Ent.part T) v ps)) (hj : L[j]? = some (.texts E (Ent.part T) u qs)) (hij : Nat.beq i j = false) (h1 : (qs.map (·.1)).all (·.oneCell') = true) (hml : ps.length + qs.length ≤ 1000000) (hd : Nat.blt d N = true)
    (k : ∀ a w' v', St N ((d, v') :: F) ((L.set i (.texts E (Ent.part T) v' (ps ++ qs))).set j .none) M w0 a w' → wpList P ops Q rest a w') :
    wpList P ops Q (⟨some d, .call { callee := .builtin .append, args := #[s0, x0], argTypes := #[t, t] }, ty, pos, aft, none⟩ :: rest) a w :=
  s_appG (qs := qs) (b := .texts E (Ent.part T) u qs) hs hu hE hv hx hi hj hij (Has.parts (E := E) (pt := Ent.part T) (v := u) (hs.get hj))
    (fun q hq k hk => ⟨Ent.part T q, by simp only [textsL, List.mem_cons, List.mem_map]; exact .inr ⟨q, hq, rfl⟩, hk⟩)
    (RdP.texts (hs.get hj)).1 h1 (by simp only [maxLen]; omega) (by omega) hd k
/-- Slices are one cell each. -/
theorem Rd.one {w : World} {v : Value} {n : Nat} {cs : List Value} (h : Rd w v n cs) : v.oneCell' = true := by
  obtain ⟨ad, cap, rfl, _⟩ := h
  rfl
theorem RdP.ones {w : World} {v : Value} {ps : List (Value × List UInt8)} (h : RdP w v ps) : (ps.map (·.1)).all (·.oneCell') = true := by
  rw [List.all_eq_true]
  intro x hx
  obtain ⟨q, hq, rfl⟩ := List.mem_map.1 hx
  exact (h.2 q hq).one
end
/-- What a call gives that tells texts: v the slice, T, E as above, ls their bytes. -/
def textsE (E T : TypeId) (ls : List (List UInt8)) : Value → List Ent → World → Prop := fun v L _ => ∃ ps : List (Value × List UInt8), ps.map (·.2) = ls ∧ L = [.texts E (Ent.part T) v ps]
end Go.Fw
end

/- Openings: arrays of arrays of bytes; strings. -/
section
set_option linter.unusedSimpArgs false
set_option linter.unusedVariables false
namespace Go.Fw
open Go Go.ChangeShapes Go.WideShapes Go.ChangeAt Go.RowKit
section
variable {H : Type} {enc : TypeId × Value → H} {P : Program} {w : World} {base : Nat} {spare : Nat → Bool} {held : Bool} {fuel : Nat} {t e u : TypeId} {cs : List Value} {x : DataW H × List MemPlace} {v : Value} {d : DataW H} {ps : List MemPlace} {r : Reach} {b0 : Nat}
/-- The cells of an array of arrays of bytes. -/
theorem trodBBs {n m : Nat} (ht : P.underlying t = some (.array n e)) (he : P.underlying e = some (.array m u)) (hu : P.underlying u = some (.int .u8)) (hcu : P.cellsOf u = 1) (hce : P.cellsOf e = m) (hn : P.cellsOf t = n * m)
    (h : DataW.trod enc P w base spare held fuel t cs = some x) : ∃ l : List UInt8, l.length = n * m ∧ cs = l.map B := by
  obtain ⟨xs, q, _, _, hl, hxl, hx⟩ := DataW.trod_array ht h
  obtain ⟨l, rfl⟩ := ofBs (cs := cs) fun v hv => by
    obtain ⟨j, hj, rfl⟩ := List.getElem_of_mem hv
    have hj' : j < n * m := by rw [← hn]; omega
    have hm : 0 < m := by rcases Nat.eq_zero_or_pos m with h0 | h0; · subst h0; simp at hj'
                          · exact h0
    have hi : j / m < n := Nat.div_lt_of_lt_mul (by rw [Nat.mul_comm]; exact hj')
    have h1 := hx (j / m) (by omega)
    rw [hce] at h1
    rw [List.getElem?_eq_getElem (by omega)] at h1
    obtain ⟨l, hl2, hcs⟩ := trodBs he hu hcu hce h1
    have h2 : ((cs.drop (j / m * m)).take m)[j % m]? = some cs[j] := by
      rw [List.getElem?_take_of_lt (Nat.mod_lt _ hm), List.getElem?_drop, Nat.div_add_mod', List.getElem?_eq_getElem hj]
    rw [hcs, List.getElem?_map] at h2
    obtain ⟨b, _, hb⟩ := Option.map_eq_some_iff.1 h2
    exact ⟨b, hb.symm⟩
  exact ⟨l, by simpa [hn] using hl, rfl⟩
theorem opAA {n m : Nat} (ht : P.underlying t = some (.array n e)) (he : P.underlying e = some (.array m u)) (hu : P.underlying u = some (.int .u8)) (hcu : P.cellsOf u = 1) (hce : P.cellsOf e = m) (hn : P.cellsOf t = n * m)
    (hval : Value.okWide P w r b0 t v) (hd : DataW.Trod enc P w base spare held t v d ps) : ∃ l : List UInt8, l.length = n * m ∧ v = .agg (l.map B).toArray := by
  obtain ⟨cs, rfl, _⟩ := okWide_array ht hval
  obtain ⟨f, hf⟩ := hd
  obtain ⟨l, hl, hcs⟩ := trodBBs ht he hu hcu hce hn hf
  refine ⟨l, hl, ?_⟩
  simp only [Value.cells] at hcs
  rw [← hcs]
theorem opStr (ht : P.underlying t = some .string) (hval : Value.okWide P w r b0 t v) (hd : DataW.Trod enc P w base spare held t v d ps) : ∃ l : List UInt8, v = .string ⟨l.toArray⟩ ∧ d = .lit (.string l) := by
  obtain ⟨s, rfl, rfl, _, _⟩ := Go.ChangeMaps.open_string ht hval hd
  exact ⟨s.data.toList, by simp, rfl⟩
end
end Go.Fw
end

/- Slices made with room. -/
section
set_option linter.unusedSimpArgs false
set_option linter.unusedVariables false
namespace Go.Fw
open Go
section
variable {P : Program} {ops : Array Oper} {Q : Exit → Act → World → Prop} {rest : List Oper} {N : Nat} {F F' : List (Nat × Value)} {L L' : List Ent} {M : Nat → Prop} {w0 w : World} {a : Act}
variable {d : Tmp} {op : Op} {ty : TypeId} {pos : String} {aft : Array Edge} {x y z : Operand} {t u : TypeId}
/-- 'make([]T, 0, m)' -/
theorem s_makeC {E : TypeId} {ed : TypeDesc} {sz bytes m : Nat} {zs : List Value} {k1 k2 : IntKind} {i1 i2 : Int} (hs : St N F L M w0 a w) (hu : P.underlying t = some (.slice E)) (hE : Ty P E ed sz bytes zs) (h1 : ev F x = some (.int k1 i1)) (h2 : ev F y = some (.int k2 i2))
    (hi1 : i1 = 0) (hi2 : i2 = (m : Int)) (hby : bytes * m ≤ 281474976710656) (h63 : m ≤ maxLen) (hd : Nat.blt d N = true)
    (k : ∀ a w gb, St N ((d, .slice (some ⟨gb, 0, none⟩) 0 m) :: F) (.row (.slice (some ⟨gb, 0, none⟩) 0 m) 0 [] E sz :: L) M w0 a w → wpList P ops Q rest a w) :
    wpList P ops Q (⟨some d, .makeSlice t x y, ty, pos, aft, none⟩ :: rest) a w := by
  subst hi1; subst hi2
  obtain ⟨inf, hi1, hi2, hi3, zv, hi4, hi5⟩ := hE.info
  have h63' : (m : Int) ≤ 9223372036854775807 := by simp only [maxLen] at h63; omega
  have hb' : (inf.bytes : Int) * (m : Int) ≤ 281474976710656 := by
    have h : ((bytes * m : Nat) : Int) ≤ 281474976710656 := by omega
    rwa [Int.natCast_mul, ← hi3] at h
  have hr := run_make (P := P) w t E inf zv hu hi1 hi4 k1 k2 0 m (Int.le_refl _) (by omega) hb' h63'
  simp only [Int.toNat_natCast, Int.toNat_zero] at hr
  refine s_new hs (L' := [.row (.slice (some ⟨w.heap.size, 0, none⟩) 0 m) 0 [] E sz]) (w' := w.alloc (.cells (madeCells zv.cells (m * inf.size)) E)) ?_ hd (.alloc _ _) ?_ fun a hs => k a _ _ hs
  · simp [execOp, hs.ev h1, hs.ev h2, hr]
  · refine ⟨?_, List.pairwise_singleton _ _, ?_, ?_⟩
    · intro e he; simp at he; subst he
      exact ⟨by simp, .inr ⟨_, m, _, rfl, Nat.zero_le _, heap_alloc_new w _, Nat.zero_le _, h63, by simp [madeCells, hi2], by simp⟩⟩
    · intro e he k hk; simp at he; subst he
      simp [Ent.keys, Value.ownBlock] at hk
      subst hk; simp
    · intro e he k hk; simp at he; subst he
      simp [Ent.keys, Value.ownBlock] at hk
      subst hk; simp
end
end Go.Fw
end

/- Two results, the first one known. -/
section
set_option linter.unusedSimpArgs false
set_option linter.unusedVariables false
namespace Go.Fw
open Go
def tupE (c : Value) (E : Value → List Ent → World → Prop) : Value → List Ent → World → Prop := fun v L w => ∃ tv, v = .tuple #[c, tv] ∧ E tv L w
def isTup (c : Value) (v : Value) : Prop := ∃ tv, v = .tuple #[c, tv]
section
variable {P : Program} {ops : Array Oper} {N B1 : Nat} {w1 : World} {K : List (Nat × Value) → Fes → Prop} {Fc : List (Nat × Value)} {Fe : Fes} {rest : List Oper}
variable {d : Tmp} {op : Op} {ty : TypeId} {pos : String} {aft : Array Edge} {x y z : Operand} {t u : TypeId}
theorem rg_moveT {s : Nat} {c : Value} {E : Value → List Ent → World → Prop} (hn : lookE Fe s = some (tupE c E)) (hu : (tmpsOf ⟨some d, .move (.tmp s), ty, pos, aft, none⟩).any (Nat.beq s) = true) (hCd : look Fc d = none)
    (k : RG P ops N B1 w1 K Fc ((d, fun v L _ => isTup c v ∧ L = []) :: Fe) rest) : RG P ops N B1 w1 K Fc Fe (⟨some d, .move (.tmp s), ty, pos, aft, none⟩ :: rest) :=
  rg_moveE (isTup c) hn hu (fun v L w ⟨tv, h, _⟩ => ⟨tv, h⟩) hCd k
theorem rg_ext0 {s : Nat} {c : Value} (hn : lookE Fe s = some (fun v L _ => isTup c v ∧ L = [])) (hu : (tmpsOf ⟨some d, .extract (.tmp s) 0, ty, pos, aft, none⟩).any (Nat.beq s) = true) (hE : lookE Fe d = none)
    (k : RG P ops N B1 w1 K ((d, c) :: Fc) Fe rest) : RG P ops N B1 w1 K Fc Fe (⟨some d, .extract (.tmp s) 0, ty, pos, aft, none⟩ :: rest) :=
  rg_extC hn hu (fun v L w ⟨⟨tv, h⟩, _⟩ => ⟨_, h, rfl⟩) hE k
theorem rg_ext1 {s : Nat} {c : Value} (hn : lookE Fe s = some (fun v L _ => isTup c v ∧ L = [])) (hu : (tmpsOf ⟨some d, .extract (.tmp s) 1, ty, pos, aft, none⟩).any (Nat.beq s) = true) (hCd : look Fc d = none)
    (k : RG P ops N B1 w1 K Fc ((d, fun v L _ => True ∧ L = []) :: Fe) rest) : RG P ops N B1 w1 K Fc Fe (⟨some d, .extract (.tmp s) 1, ty, pos, aft, none⟩ :: rest) :=
  rg_extE (fun _ => True) hn hu (fun v L w ⟨⟨tv, h⟩, _⟩ => ⟨_, tv, h, rfl, trivial⟩) hCd k
end
section
variable {P : Program} {ops : Array Oper} {Q : Exit → Act → World → Prop} {rest : List Oper} {N : Nat} {F F' : List (Nat × Value)} {L L' : List Ent} {M : Nat → Prop} {w0 w : World} {a : Act}
variable {d : Tmp} {op : Op} {ty : TypeId} {pos : String} {aft : Array Edge} {x y z : Operand} {t u : TypeId}
/-- Stores that are the first operation of a tail. -/
theorem sk_store {i : Nat} {T' : TypeId} {td : TypeDesc} {sz bytes : Nat} {zz : List Value} {gb o : Nat} {cs cs' c : List Value} {v : Value} (hs : St N F L M w0 a w) (hT : Ty P t td sz bytes zz)
    (hx : ev F x = some (.pointer (some ⟨gb, o, none⟩))) (hy : ev F y = some v) (hi : L[i]? = some (.seg gb cs T')) (hv : v.cells.toList = c) (hl : c.length = sz) (h1 : c.all (·.oneCell') = true) (hfit : o + sz ≤ cs.length)
    (hcs : cs.take o ++ c ++ cs.drop (o + sz) = cs') (k : ∀ w, St N F (L.set i (.seg gb cs' T')) M w0 a w → wpList P ops Q rest a w) :
    ∃ w2, (execOp a.eval ⟨none, .store t x y, ty, pos, aft, none⟩).run P w = .ok .skip w2 ∧ wpList P ops Q rest a w2 := by
  have hr := c_store (P := P) (w := w) (d := none) (ty := ty) (pos := pos) (aft := aft) (g := none) hT (hs.ev hx) (hs.ev hy) hv hl h1 (hs.seg hi) hfit
  rw [hcs] at hr
  refine ⟨_, hr, k _ ?_⟩
  exact hs.mod hi (.setRow w gb _) (setRow_heap w gb _ _ _ _ (hs.seg hi)) (fun j hj => ⟨.inl hj, by
    have h2 : gb < w.heap.size := hs.has.lt _ (List.mem_of_getElem? hi) gb rfl
    cases hj
    simpa using h2⟩)
theorem sk_storeW {i : Nat} {T' : TypeId} {td : TypeDesc} {sz bytes : Nat} {zz : List Value} {gb : Nat} {cs c : List Value} (hs : St N F L M w0 a w) (hT : Ty P t td sz bytes zz)
    (hx : ev F x = some (.pointer (some ⟨gb, 0, none⟩))) (hy : ev F y = some (.agg c.toArray)) (hi : L[i]? = some (.seg gb cs T')) (hl : c.length = sz) (h1 : c.all (·.oneCell') = true) (hcs : cs.length = sz)
    (k : ∀ w, St N F (L.set i (.seg gb c T')) M w0 a w → wpList P ops Q rest a w) :
    ∃ w2, (execOp a.eval ⟨none, .store t x y, ty, pos, aft, none⟩).run P w = .ok .skip w2 ∧ wpList P ops Q rest a w2 :=
  sk_store hs hT hx hy hi (by simp [Value.cells]) hl h1 (by omega) (by simp [hcs]) k
end
end Go.Fw
end

/- Elements of many cells of an array that is a value. -/
section
set_option linter.unusedSimpArgs false
set_option linter.unusedVariables false
namespace Go.Fw
open Go
section
variable {P : Program} {a : Act} {w : World} {d : Option Tmp} {ty : TypeId} {pos : String} {aft : Array Edge} {g : Option (Nat × Bool)} {x y z : Operand} {t u : TypeId}
theorem c_idxSA {n : Nat} {E : TypeId} {ed : TypeDesc} {sz bytes : Nat} {z : List Value} {cs : Array Value} {c : List Value} {j : Nat} {k : IntKind} {i : Int} (hu : P.underlying t = some (.array n E)) (hE : Ty P E ed sz bytes z) (hd : aggD ed = true)
    (hx : a.eval x = .agg cs) (hy : a.eval y = .int k i) (hj : i = (j : Int)) (hlt : j < n) (hc : (cs.toList.drop (0 + j * sz)).take sz = c) :
    (execOp a.eval ⟨d, .index t x y, ty, pos, aft, g⟩).run P w = .ok (.value (.agg c.toArray)) w := by
  subst hj
  have hagg : (isAgg E).run P w = .ok true w := by
    unfold isAgg
    rw [Sem.run_bind, run_underlying hE.und w]
    cases ed <;> simp_all [aggD]
  have e : cs.extract (j * sz) (j * sz + sz) = c.toArray := by
    apply Array.ext'
    rw [Array.toList_extract, ← hc, Nat.zero_add]
    simp [List.extract_eq_take_drop]
  simp [execOp, Instr.index, hx, hy, asIntOf, run_underlying hu, hlt, hE.size, part, hagg, e]
end
end Go.Fw
end

/- Comparisons of arrays of arrays of bytes; literals of numbers. -/
section
set_option linter.unusedSimpArgs false
set_option linter.unusedVariables false
namespace Go.Fw
open Go
section
variable {P : Program} {a : Act} {w : World} {d : Option Tmp} {ty : TypeId} {pos : String} {aft : Array Edge} {g : Option (Nat × Bool)} {x y z : Operand} {t u : TypeId}
theorem run_partA {E : TypeId} {ed : TypeDesc} {sz bytes : Nat} {ze : List Value} {cs c : List Value} {o : Nat} (hE : Ty P E ed sz bytes ze) (hd : aggD ed = true) (hc : (cs.drop o).take sz = c) : (part E cs.toArray o).run P w = .ok (.agg c.toArray) w := by
  have hagg : (isAgg E).run P w = .ok true w := by
    unfold isAgg
    rw [Sem.run_bind, run_underlying hE.und w]
    cases ed <;> simp_all [aggD]
  have e : cs.toArray.extract o (o + sz) = c.toArray := by
    apply Array.ext'
    rw [Array.toList_extract, ← hc]
    simp [List.extract_eq_take_drop]
  simp [part, hagg, hE.size]
  exact hc
def piece (l : List UInt8) (m i : Nat) : List UInt8 := (l.drop (i * m)).take m
theorem pieces_eq {n m : Nat} (hm : 0 < m) {xs ys : List UInt8} (hx : xs.length = n * m) (hy : ys.length = n * m) : (∀ i, i < n → piece xs m i = piece ys m i) ↔ xs = ys := by
  constructor
  · intro h
    apply List.ext_getElem (by omega)
    intro j h1 h2
    have hj : j / m < n := Nat.div_lt_of_lt_mul (by rw [Nat.mul_comm]; omega)
    have e2 := congrArg (fun l : List UInt8 => l[j % m]?) (h (j / m) hj)
    simp only [piece] at e2
    have hmod := Nat.mod_lt j hm
    rw [List.getElem?_take_of_lt hmod, List.getElem?_take_of_lt hmod, List.getElem?_drop, List.getElem?_drop, Nat.div_add_mod', List.getElem?_eq_getElem h1, List.getElem?_eq_getElem h2] at e2
    exact Option.some.inj e2
  · rintro rfl i _
    rfl
theorem eq_arr2 {n m bytes bytes2 : Nat} {E U T : TypeId} {ze zu : List Value} (hu : P.underlying T = some (.array n E)) (hE : Ty P E (.array m U) m bytes ze) (hU : Ty P U (.int .u8) 1 bytes2 zu) (hm : 0 < m) (xs ys : List UInt8) (hx : xs.length = n * m) (hy : ys.length = n * m) :
    (Op.equal T (.agg (xs.map B).toArray) (.agg (ys.map B).toArray)).run P w = .ok (decide (xs = ys)) w := by
  have hpl : ∀ (l : List UInt8), l.length = n * m → ∀ i, i < n → (piece l m i).length = m := fun l hl i hi => by
    have : (i + 1) * m ≤ n * m := Nat.mul_le_mul_right _ (by omega)
    rw [Nat.succ_mul] at this
    rw [piece, List.length_take, List.length_drop]; omega
  have inner : ∀ i, i < n → (Op.equalIn 9999 E (.agg ((piece xs m i).map B).toArray) (.agg ((piece ys m i).map B).toArray)).run P w = .ok (decide (piece xs m i = piece ys m i)) w := fun i hi => by
    have := eq_arr (P := P) (w := w) hE.und hU ((piece xs m i).map fun b => (b.toNat : Int)) ((piece ys m i).map fun b => (b.toNat : Int)) (by simpa using hpl xs hx i hi) (by simpa using hpl ys hy i hi) 9997
    rw [← map_B, ← map_B] at this
    have e : decide (((piece xs m i).map fun b => (b.toNat : Int)) = ((piece ys m i).map fun b => (b.toNat : Int))) = decide (piece xs m i = piece ys m i) := by
      rw [Bool.eq_iff_iff, decide_eq_true_iff, decide_eq_true_iff]
      exact map_B_inj _ _
    rw [e] at this
    exact this
  have hpt : ∀ (l : List UInt8) i, (part E (l.map B).toArray (i * m)).run P w = .ok (.agg ((piece l m i).map B).toArray) w := fun l i =>
    run_partA hE rfl (by rw [piece, List.map_take, List.map_drop])
  show (Op.equalIn (9999 + 1) T _ _).run P w = _
  rw [Op.equalIn]
  simp only [Sem.run_bind, run_underlying hu, Result.andThen_ok, hE.size, Std.Legacy.Range.forIn_eq_forIn_range', Std.Legacy.Range.size, Nat.sub_zero, Nat.add_one_sub_one, Nat.div_one]
  have hl := run_eq_loop (P := P) (w := w) (fun i s => do
            let a ← part E (List.map B xs).toArray (i * m)
            let b ← part E (List.map B ys).toArray (i * m)
            let c ← Op.equalIn 9999 E a b
            if (!c) = true then pure (ForInStep.done (some false, ())) else pure (ForInStep.yield (none, ()))) (fun i => decide (piece xs m i = piece ys m i)) (List.range' 0 n) (fun i hi => by
    have hi' : i < n := by simpa using hi
    simp only [Sem.run_bind, hpt, Result.andThen_ok, inner i hi']
    cases decide (piece xs m i = piece ys m i) <;> simp)
  rw [hl]
  have hall : (List.range' 0 n).all (fun i => decide (piece xs m i = piece ys m i)) = decide (xs = ys) := by
    rw [Bool.eq_iff_iff, List.all_eq_true, decide_eq_true_iff, ← pieces_eq hm hx hy]
    constructor
    · intro h i hi
      simpa using h i (by simpa using hi)
    · intro h i hi
      simpa using h i (by simpa using hi)
  rw [hall]
  by_cases e : xs = ys <;> simp [e]
theorem c_eqlABB {n m bytes bytes2 : Nat} {E U : TypeId} {ze zu : List Value} {xs ys : List UInt8} (hu : P.underlying t = some (.array n E)) (hE : Ty P E (.array m U) m bytes ze) (hU : Ty P U (.int .u8) 1 bytes2 zu) (hm : 0 < m) (hg : P.eqGuardType P.depth t = false)
    (hx : a.eval x = .agg (xs.map B).toArray) (hy : a.eval y = .agg (ys.map B).toArray) (lx : xs.length = n * m) (ly : ys.length = n * m) :
    (execOp a.eval ⟨d, .binOp .eql t x y u, ty, pos, aft, g⟩).run P w = .ok (.value (.bool (decide (xs = ys)))) w := by
  simp [execOp, hx, hy, eqGuard, binOp, hg, eq_arr2 hu hE hU hm xs ys lx ly]
end
theorem RdV.seg {w : World} {g : Nat} {T : TypeId} {l : List UInt64} (h : w.heap[g]? = some (.cells (l.map V).toArray T (0, 0))) (hn : l.length ≤ maxLen) : RdV w (.slice (some ⟨g, 0, none⟩) l.length l.length) l :=
  Rd.of_seg h (Nat.le_refl _) hn (List.take_of_length_le (by simp))
end Go.Fw
end

/- Rows of short sums; texts that have one short sum. -/
section
set_option linter.unusedSimpArgs false
set_option linter.unusedVariables false
set_option maxRecDepth 100000
namespace Go.Proofs.Ytmgnnclkjkbmdaa


open Sha
/-- The short sum of a text with its kind. -/
def ofT (t : List UInt8) : List UInt8 := short (t.getD 0 0) t.tail
@[simp] theorem ofT_length (t : List UInt8) : (ofT t).length = 16 := rfl
def clash (a b : List (List UInt8)) : Bool := a.any fun x => b.any fun y => decide (ofT x = ofT y) && decide (x ≠ y)
theorem clash_not {a b : List (List UInt8)} (h : clash a b = false) {x y : List UInt8} (hx : x ∈ a) (hy : y ∈ b) (e : ofT x = ofT y) : x = y := by
  apply Classical.byContradiction
  intro hne
  have : clash a b = true := List.any_eq_true.2 ⟨x, hx, List.any_eq_true.2 ⟨y, hy, by simp [e, hne]⟩⟩
  rw [h] at this
  cases this
/-- One of some rows of 16 bytes. -/
def chunk (s : List UInt8) (c : Nat) : List UInt8 := (s.drop (16 * c)).take 16
theorem chunk_len {s : List UInt8} {c : Nat} (h : 16 * c + 16 ≤ s.length) : (chunk s c).length = 16 := by rw [chunk, List.length_take, List.length_drop]; omega
/-- Rows of 16 bytes each, one behind the other. -/
def rows (f : Nat → List UInt8) (n : Nat) : List UInt8 := (List.range n).flatMap f
theorem rows_succ (f : Nat → List UInt8) (n : Nat) : rows f (n + 1) = rows f n ++ f n := by simp [rows, List.range_succ]
theorem rows_length {f : Nat → List UInt8} {N : Nat} (hf : ∀ c, c < N → (f c).length = 16) : ∀ n, n ≤ N → (rows f n).length = 16 * n
  | 0, _ => rfl
  | n + 1, h => by rw [rows_succ, List.length_append, rows_length hf n (by omega), hf n (by omega)]; omega
theorem rows_chunk {f : Nat → List UInt8} {N : Nat} (hf : ∀ c, c < N → (f c).length = 16) : ∀ n, n ≤ N → ∀ c, c < n → chunk (rows f n) c = f c
  | 0, _, c, hc => by omega
  | n + 1, h, c, hc => by
    have hl := rows_length hf n (by omega)
    rw [rows_succ]
    by_cases e : c = n
    · subst e
      rw [chunk, List.drop_append_of_le_length (by omega), List.drop_of_length_le (by omega), List.nil_append, List.take_of_length_le (by rw [hf c (by omega)]; omega)]
    · rw [chunk, List.drop_append_of_le_length (by omega), List.take_append_of_le_length (by rw [List.length_drop]; omega)]
      exact rows_chunk hf n (by omega) c (by omega)
theorem rows_congr {f g : Nat → List UInt8} : ∀ n, (∀ c, c < n → f c = g c) → rows f n = rows g n
  | 0, _ => rfl
  | n + 1, h => by rw [rows_succ, rows_succ, rows_congr n (fun c hc => h c (by omega)), h n (by omega)]

end Go.Proofs.Ytmgnnclkjkbmdaa
end

/- Chains of links, what is summed for them, how many blocks that takes. -/
section
set_option linter.unusedSimpArgs false
set_option linter.unusedVariables false
set_option maxRecDepth 100000
namespace Go.Proofs.Ytmgnnclkjkbmdaa
open Go Go.Fw

open Sha Ots
/-- Along a chain: n links on from step st. -/
def linkN (d : Int) (i : UInt32) (ch : Int) (st : Nat) (s : List UInt8) : Nat → List UInt8
  | 0 => s
  | n + 1 => link d i ch ((st + n : Nat) : Int) (linkN d i ch st s n)
theorem linkN_length {d : Int} {i : UInt32} {ch : Int} {st : Nat} {s : List UInt8} (hs : s.length = 16) : ∀ n, (linkN d i ch st s n).length = 16
  | 0 => hs
  | n + 1 => rfl
theorem linkN_add (d : Int) (i : UInt32) (ch : Int) (st : Nat) (s : List UInt8) (m : Nat) : ∀ n, linkN d i ch st s (m + n) = linkN d i ch (st + m) (linkN d i ch st s m) n
  | 0 => rfl
  | n + 1 => by
    rw [← Nat.add_assoc]
    simp only [linkN, linkN_add d i ch st s m n, Nat.add_assoc]
/-- What is summed on the way. -/
def linkX (d : Int) (i : UInt32) (ch : Int) (st : Nat) (s : List UInt8) : List UInt8 := 87 :: linkT d i ch (st : Int) s
def linkTs (d : Int) (i : UInt32) (ch : Int) (st : Nat) (s : List UInt8) : Nat → List (List UInt8)
  | 0 => []
  | n + 1 => linkTs d i ch st s n ++ [linkX d i ch (st + n) (linkN d i ch st s n)]
theorem linkTs_length (d : Int) (i : UInt32) (ch : Int) (st : Nat) (s : List UInt8) : ∀ n, (linkTs d i ch st s n).length = n
  | 0 => rfl
  | n + 1 => by rw [linkTs, List.length_append, linkTs_length d i ch st s n]; rfl
theorem linkTs_mem {d : Int} {i : UInt32} {ch : Int} {st : Nat} {s : List UInt8} {t : List UInt8} : ∀ {n}, t ∈ linkTs d i ch st s n ↔ ∃ j, j < n ∧ t = linkX d i ch (st + j) (linkN d i ch st s j)
  | 0 => by simp [linkTs]
  | n + 1 => by
    rw [linkTs, List.mem_append, linkTs_mem (n := n)]
    constructor
    · rintro (⟨j, hj, rfl⟩ | h)
      · exact ⟨j, by omega, rfl⟩
      · simp only [List.mem_singleton] at h; exact ⟨n, by omega, h⟩
    · rintro ⟨j, hj, rfl⟩
      by_cases e : j = n
      · subst e; right; simp
      · left; exact ⟨j, by omega, rfl⟩
theorem linkX_length {d : Int} {i : UInt32} {ch : Int} {st : Nat} {s : List UInt8} (hs : s.length = 16) : (linkX d i ch st s).length = 24 := by simp [linkX, linkT, hs]
theorem chunk_length {s : List UInt8} (hs : s.length = 1088) {c : Nat} (hc : c < 68) : (chunk s c).length = 16 := by rw [chunk, List.length_take, List.length_drop]; omega
def rise (d : Int) (i : UInt32) (e : Nat → Nat) (s : List UInt8) (c : Nat) : List UInt8 := linkN d i (c : Int) (e c) (chunk s c) (3 - e c)
def rises (d : Int) (i : UInt32) (e : Nat → Nat) (s : List UInt8) (n : Nat) : List UInt8 := (List.range n).flatMap (rise d i e s)
theorem rises_succ (d : Int) (i : UInt32) (e : Nat → Nat) (s : List UInt8) (n : Nat) : rises d i e s (n + 1) = rises d i e s n ++ rise d i e s n := by simp [rises, List.range_succ]
theorem rise_length {d : Int} {i : UInt32} {e : Nat → Nat} {s : List UInt8} (hs : s.length = 1088) {c : Nat} (hc : c < 68) : (rise d i e s c).length = 16 := linkN_length (chunk_length hs hc) _
theorem rises_length {d : Int} {i : UInt32} {e : Nat → Nat} {s : List UInt8} (hs : s.length = 1088) : ∀ {n}, n ≤ 68 → (rises d i e s n).length = 16 * n
  | 0, _ => rfl
  | n + 1, h => by rw [rises_succ, List.length_append, rises_length hs (by omega), rise_length hs (by omega)]; omega
def recTs (d : Int) (i : UInt32) (e : Nat → Nat) (s : List UInt8) (n : Nat) : List (List UInt8) := (List.range n).flatMap fun c : Nat => linkTs d i (c : Int) (e c) (chunk s c) (3 - e c)
theorem recTs_succ (d : Int) (i : UInt32) (e : Nat → Nat) (s : List UInt8) (n : Nat) : recTs d i e s (n + 1) = recTs d i e s n ++ linkTs d i (n : Int) (e n) (chunk s n) (3 - e n) := by simp [recTs, List.range_succ]
theorem recTs_length (d : Int) (i : UInt32) (e : Nat → Nat) (s : List UInt8) : ∀ n, (recTs d i e s n).length ≤ 3 * n
  | 0 => by simp [recTs]
  | n + 1 => by have := recTs_length d i e s n; rw [recTs_succ, List.length_append, linkTs_length]; omega
/-- What stands for all last links. -/
def pressX (d : Int) (i : UInt32) (all : List UInt8) : List UInt8 := 80 :: (headB d i ++ all)
def press (d : Int) (i : UInt32) (all : List UInt8) : List UInt8 := short 80 (headB d i ++ all)
@[simp] theorem press_length (d : Int) (i : UInt32) (all : List UInt8) : (press d i all).length = 16 := rfl
theorem part_at {A s : List UInt8} {c : Nat} (hA : A.length = 16 * c) : (A ++ s.drop (16 * c)).drop (16 * c) = s.drop (16 * c) := by rw [List.drop_append_of_le_length (by omega), List.drop_of_length_le (by omega), List.nil_append]
theorem part_set {A s x : List UInt8} {c : Nat} (hA : A.length = 16 * c) : (A ++ s.drop (16 * c)).take (16 * c) ++ x ++ (A ++ s.drop (16 * c)).drop (16 * c + 16) = A ++ x ++ s.drop (16 * (c + 1)) := by
  rw [List.take_append_of_le_length (by omega), List.take_of_length_le (by omega), ← List.drop_drop, part_at hA, List.drop_drop]
  rfl
def dgN (m : List UInt8) (c : Nat) : Nat := (dgt m c).toNat
theorem dgN_le (m : List UInt8) (c : Nat) : dgN m c ≤ 3 := dgt_le m c
/-- How many blocks. -/
def costN (m : List UInt8) : Nat → Nat
  | 0 => 0
  | n + 1 => costN m n + (3 - dgN m n)
theorem costN_le (m : List UInt8) : ∀ n, costN m n ≤ 3 * n
  | 0 => Nat.le_refl _
  | n + 1 => by have := costN_le m n; simp only [costN]; omega
def blkS : List (List UInt8) → Nat
  | [] => 0
  | t :: r => blocks t.length + blkS r
theorem blkS_append : ∀ (a b : List (List UInt8)), blkS (a ++ b) = blkS a + blkS b
  | [], b => by simp [blkS]
  | t :: r, b => by rw [List.cons_append, blkS, blkS, blkS_append r b]; omega
theorem blkS_take (l : List (List UInt8)) (k : Nat) (h : k < l.length) : blkS (l.take (k + 1)) = blkS (l.take k) + blocks (l.getD k []).length := by
  rw [List.take_succ_eq_append_getElem h, blkS_append]
  simp [blkS, List.getD, h]
theorem blkS_take_le (l : List (List UInt8)) (k : Nat) : blkS (l.take k) ≤ blkS l := by
  conv => rhs; rw [← List.take_append_drop k l, blkS_append]
  omega
theorem snd_getD (ps : List (Value × List UInt8)) (k : Nat) (h : k < ps.length) : (ps.map (·.2)).getD k [] = (ps.getD k (.nilIface, [])).2 := by simp [List.getD, h]
theorem chunk_at (l : List UInt8) (c : Nat) : ((l.map B).toArray.toList.drop (0 + c * 16)).take 16 = (chunk l c).map B := by
  rw [chunk, List.map_take, List.map_drop, Nat.zero_add, Nat.mul_comm]
theorem chunk_at' {A s : List UInt8} {c : Nat} (hA : A.length = 16 * c) : (((A ++ s.drop (16 * c)).map B).toArray.toList.drop (0 + c * 16)).take 16 = (chunk s c).map B := by
  rw [chunk_at, chunk, chunk, part_at hA]
theorem chunk_set {A s x : List UInt8} {c : Nat} (hA : A.length = 16 * c) : ((A ++ s.drop (16 * c)).map B).take (0 + c * 16) ++ x.map B ++ ((A ++ s.drop (16 * c)).map B).drop (0 + c * 16 + 16) = (A ++ x ++ s.drop (16 * (c + 1))).map B := by
  rw [← part_set hA, Nat.zero_add, Nat.mul_comm c 16]
  simp only [List.map_append, List.map_take, List.map_drop]
theorem take_chunk (l : List UInt8) (k : Nat) : l.take (16 * (k + 1)) = l.take (16 * k) ++ chunk l k := by
  rw [chunk, show 16 * (k + 1) = 16 * k + 16 from by omega, List.take_add]
theorem blkS_links {d : Int} {i : UInt32} {ch : Int} {st : Nat} {s : List UInt8} (hs : s.length = 16) : ∀ n, blkS (linkTs d i ch st s n) = n
  | 0 => rfl
  | n + 1 => by
    rw [linkTs, blkS_append, blkS_links hs n]
    simp only [blkS, linkX_length (linkN_length hs n)]
    rfl
theorem blkS_rec {d : Int} {i : UInt32} {m s : List UInt8} (hs : s.length = 1088) : ∀ n, n ≤ 68 → blkS (recTs d i (dgN m) s n) = costN m n
  | 0, _ => rfl
  | n + 1, h => by rw [recTs_succ, blkS_append, blkS_rec hs n (by omega), blkS_links (chunk_length hs (by omega)), costN]
theorem blkS_all {d : Int} {i : UInt32} {m s : List UInt8} (hs : s.length = 1088) : blkS (recTs d i (dgN m) s 68 ++ [pressX d i (rises d i (dgN m) s 68)]) = costN m 68 + 18 := by
  rw [blkS_append, blkS_rec hs 68 (by omega)]
  have h : (pressX d i (rises d i (dgN m) s 68)).length = 1094 := by simp [pressX, rises_length hs (Nat.le_refl _)]
  simp only [blkS, h]
  rfl

end Go.Proofs.Ytmgnnclkjkbmdaa
end

/- Why whatever links lead to the public part are the own ones of the key, or two unlike texts have one short sum. -/
section
set_option linter.unusedSimpArgs false
set_option linter.unusedVariables false
set_option maxRecDepth 100000
namespace Go.Proofs.Ytmgnnclkjkbmdaa
open Go Go.Fw

open Sha Ots
theorem ofT_link (d : Int) (i : UInt32) (ch : Int) (st : Nat) (s : List UInt8) : ofT (linkX d i ch st s) = link d i ch (st : Int) s := rfl
theorem ofT_press (d : Int) (i : UInt32) (all : List UInt8) : ofT (pressX d i all) = press d i all := rfl
theorem linkX_inj {d : Int} {i : UInt32} {ch : Int} {st : Nat} {x y : List UInt8} (h : linkX d i ch st x = linkX d i ch st y) : x = y := by
  have h2 := (List.cons.inj h).2
  exact List.append_cancel_left h2
theorem pressX_inj {d : Int} {i : UInt32} {x y : List UInt8} (h : pressX d i x = pressX d i y) : x = y := List.append_cancel_left (List.cons.inj h).2
theorem chunks_eq {s t : List UInt8} (hs : s.length = 1088) (ht : t.length = 1088) (h : ∀ c, c < 68 → chunk s c = chunk t c) : s = t := by
  apply List.ext_getElem (by omega)
  intro j h1 h2
  have e := h (j / 16) (by omega)
  have e2 := congrArg (fun l : List UInt8 => l[j % 16]?) e
  simp only [chunk] at e2
  rw [List.getElem?_take_of_lt (by omega), List.getElem?_take_of_lt (by omega), List.getElem?_drop, List.getElem?_drop, show 16 * (j / 16) + j % 16 = j from by omega, List.getElem?_eq_getElem h1, List.getElem?_eq_getElem h2] at e2
  exact Option.some.inj e2
/-- Down a chain, from the last link on. -/
theorem chain_back {d : Int} {i : UInt32} {ch : Int} {x k : List UInt8} {e : Nat} (he : e ≤ 3) {A C : List (List UInt8)} (hnc : clash A C = false)
    (hA : ∀ j, j < 3 → linkX d i ch j (linkN d i ch 0 k j) ∈ A) (hC : ∀ j, j < 3 - e → linkX d i ch (e + j) (linkN d i ch e x j) ∈ C)
    (htop : linkN d i ch e x (3 - e) = linkN d i ch 0 k 3) : x = linkN d i ch 0 k e := by
  have key : ∀ j, j ≤ 3 - e → linkN d i ch e x (3 - e - j) = linkN d i ch 0 k (3 - j) := by
    intro j
    induction j with
    | zero => intro _; exact htop
    | succ j ih =>
      intro hj
      have h := ih (by omega)
      rw [show 3 - e - j = 3 - e - (j + 1) + 1 from by omega, show 3 - j = 3 - (j + 1) + 1 from by omega] at h
      simp only [linkN] at h
      have h1 := hA (3 - (j + 1)) (by omega)
      have h2 := hC (3 - e - (j + 1)) (by omega)
      have e3 : e + (3 - e - (j + 1)) = 3 - (j + 1) := by omega
      rw [e3] at h2 h
      rw [Nat.zero_add] at h
      exact linkX_inj (clash_not hnc h1 h2 (by rw [ofT_link, ofT_link]; exact h.symm)).symm
  have := key (3 - e) (Nat.le_refl _)
  rw [Nat.sub_self, show 3 - (3 - e) = e from by omega] at this
  exact this
/-- A key's last links, its public part's texts, its signatures. -/
def tops (d : Int) (i : UInt32) (k : Nat → List UInt8) : List UInt8 := rows (fun c : Nat => linkN d i (c : Int) 0 (k c) 3) 68
def pubTs (d : Int) (i : UInt32) (k : Nat → List UInt8) (n : Nat) : List (List UInt8) := (List.range n).flatMap fun c : Nat => linkTs d i (c : Int) 0 (k c) 3
def signs (d : Int) (i : UInt32) (k : Nat → List UInt8) (m : List UInt8) : List UInt8 := rows (fun c : Nat => linkN d i (c : Int) 0 (k c) (dgN m c)) 68
theorem pubTs_succ (d : Int) (i : UInt32) (k : Nat → List UInt8) (n : Nat) : pubTs d i k (n + 1) = pubTs d i k n ++ linkTs d i (n : Int) 0 (k n) 3 := by simp [pubTs, List.range_succ]
theorem rises_rows (d : Int) (i : UInt32) (e : Nat → Nat) (s : List UInt8) (n : Nat) : rises d i e s n = rows (rise d i e s) n := rfl
/-- Of no clash: the links are the key's own ones. -/
theorem own_links {d : Int} {i : UInt32} {k : Nat → List UInt8} (hk : ∀ c, (k c).length = 16) {m s : List UInt8} (hs : s.length = 1088)
    (hp : press d i (rises d i (dgN m) s 68) = press d i (tops d i k))
    (hnc : clash (pubTs d i k 68 ++ [pressX d i (tops d i k)]) (recTs d i (dgN m) s 68 ++ [pressX d i (rises d i (dgN m) s 68)]) = false) :
    ∀ c, c < 68 → chunk s c = linkN d i (c : Int) 0 (k c) (dgN m c) := by
  intro c hc
  have e1 : pressX d i (tops d i k) = pressX d i (rises d i (dgN m) s 68) := clash_not hnc (by simp) (by simp) (by rw [ofT_press, ofT_press]; exact hp.symm)
  have e2 := pressX_inj e1
  have e3 := congrArg (fun l => chunk l c) e2
  simp only [tops, rises_rows] at e3
  rw [rows_chunk (N := 68) (fun c _ => linkN_length (hk c) 3) 68 (Nat.le_refl _) c hc, rows_chunk (N := 68) (fun c h => rise_length hs h) 68 (Nat.le_refl _) c hc] at e3
  refine chain_back (A := pubTs d i k 68 ++ [pressX d i (tops d i k)]) (C := recTs d i (dgN m) s 68 ++ [pressX d i (rises d i (dgN m) s 68)]) (dgN_le m c) hnc (fun j hj => ?_) (fun j hj => ?_) e3.symm
  · refine List.mem_append.2 (.inl (List.mem_flatMap.2 ⟨c, List.mem_range.2 hc, linkTs_mem.2 ⟨j, hj, ?_⟩⟩))
    rw [Nat.zero_add]
  · exact List.mem_append.2 (.inl (List.mem_flatMap.2 ⟨c, List.mem_range.2 hc, linkTs_mem.2 ⟨j, hj, rfl⟩⟩))
/-- What a signature leads to. -/
theorem rise_own {d : Int} {i : UInt32} {k : Nat → List UInt8} (hk : ∀ c, (k c).length = 16) (m : List UInt8) : rises d i (dgN m) (signs d i k m) 68 = tops d i k := by
  rw [rises_rows, tops]
  refine rows_congr 68 fun c hc => ?_
  have e := rows_chunk (N := 68) (f := fun c : Nat => linkN d i (c : Int) 0 (k c) (dgN m c)) (fun c _ => linkN_length (hk c) _) 68 (Nat.le_refl _) c hc
  have h3 : dgN m c + (3 - dgN m c) = 3 := by have := dgN_le m c; omega
  show linkN d i (c : Int) (dgN m c) (chunk (signs d i k m) c) (3 - dgN m c) = linkN d i (c : Int) 0 (k c) 3
  rw [signs, e]
  have := linkN_add d i (c : Int) 0 (k c) (dgN m c) (3 - dgN m c)
  rw [h3, Nat.zero_add] at this
  exact this.symm
theorem signs_length {d : Int} {i : UInt32} {k : Nat → List UInt8} (hk : ∀ c, (k c).length = 16) (m : List UInt8) : (signs d i k m).length = 1088 := rows_length (N := 68) (fun c _ => linkN_length (hk c) _) 68 (Nat.le_refl _)
theorem tops_length {d : Int} {i : UInt32} {k : Nat → List UInt8} (hk : ∀ c, (k c).length = 16) : (tops d i k).length = 1088 := rows_length (N := 68) (fun c _ => linkN_length (hk c) _) 68 (Nat.le_refl _)
theorem signs_chunk {d : Int} {i : UInt32} {k : Nat → List UInt8} (hk : ∀ c, (k c).length = 16) (m : List UInt8) {c : Nat} (hc : c < 68) : chunk (signs d i k m) c = linkN d i (c : Int) 0 (k c) (dgN m c) :=
  rows_chunk (N := 68) (f := fun c : Nat => linkN d i (c : Int) 0 (k c) (dgN m c)) (fun c _ => linkN_length (hk c) _) 68 (Nat.le_refl _) c hc
/-- Is some link of s the key's own one, below where the other message's signature has that chain? (over the first n chains) -/
def belowN (d : Int) (i : UInt32) (k : Nat → List UInt8) (m signed s : List UInt8) (n : Nat) : Bool := (List.range n).any fun c : Nat => decide (dgN m c < dgN signed c) && decide (linkN d i (c : Int) 0 (k c) (dgN m c) = chunk s c)
theorem below_at {d : Int} {i : UInt32} {k : Nat → List UInt8} {m signed s : List UInt8} {c n : Nat} (hc : c < n) (h1 : dgN m c < dgN signed c) (h2 : linkN d i (c : Int) 0 (k c) (dgN m c) = chunk s c) : belowN d i k m signed s n = true :=
  List.any_eq_true.2 ⟨c, List.mem_range.2 hc, by simp [h1, h2]⟩
/-- THE LAW. -/
theorem sound {d : Int} {i : UInt32} {k : Nat → List UInt8} (hk : ∀ c, (k c).length = 16) {m signed s : List UInt8} (hm : m.length = 16) (hg : signed.length = 16) (hs : s.length = 1088)
    (hp : press d i (rises d i (dgN m) s 68) = press d i (tops d i k)) :
    (decide (m = signed) && decide (s = signs d i k m) || belowN d i k m signed s 68 || clash (pubTs d i k 68 ++ [pressX d i (tops d i k)]) (recTs d i (dgN m) s 68 ++ [pressX d i (rises d i (dgN m) s 68)])) = true := by
  cases hc : clash (pubTs d i k 68 ++ [pressX d i (tops d i k)]) (recTs d i (dgN m) s 68 ++ [pressX d i (rises d i (dgN m) s 68)]) with
  | true => simp
  | false =>
    have own := own_links hk hs hp hc
    by_cases e : m = signed
    · have : s = signs d i k m := chunks_eq hs (signs_length hk m) fun c hc => by rw [own c hc, signs_chunk hk m hc]
      simp [e, this]
    · obtain ⟨c, hc, hlt⟩ := lower m signed hm hg e
      have := below_at (d := d) (i := i) (k := k) (m := m) (signed := signed) (s := s) hc hlt (own c hc).symm
      simp [this]

end Go.Proofs.Ytmgnnclkjkbmdaa
end
