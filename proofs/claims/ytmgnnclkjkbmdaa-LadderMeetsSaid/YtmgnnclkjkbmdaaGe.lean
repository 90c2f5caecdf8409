/- Own texts of this seat, laid together: Fw24, Fw25, Fw26, Fw27, Fw28, Fw29, Fw30, Fw31, Fw32, Fw33, Fw34, Fw35, Fw36, Fw37, Fw38, Fw39, Fw40. -/
import Derived.Test.YtmgnnclkjkbmdaaGa
import Derived.Test.YtmgnnclkjkbmdaaGb
import Derived.ChangeMaps5
import Derived.Handed
import Derived.ChangeFn
import Derived.WideWitness
import Derived.KernelRfl
import Derived.DataReads
/- Appending to an empty literal in a region that draws; calls there with things as arguments; stores into a slice's elements. -/
section
set_option linter.unusedSimpArgs false
set_option linter.unusedVariables false
namespace Go.Fw
open Go
section
variable {P : Program} {w : World} {t : TypeId}
theorem run_app0 {ty E : TypeId} {ed : TypeDesc} {zs : List Value} {g : Nat} {u : Value} {p : List UInt8} (hu : P.underlying t = some (.slice E)) (hE : Ty P E ed 1 1 zs) (hg : w.heap[g]? = some (.cells #[] E (0, 0))) (hr : RdB w u p) (hle : p.length ≤ 140737488355328) :
    ∃ v' w', (Builtin.append_ #[t, t] ty #[.slice (some ⟨g, 0, none⟩) 0 0, u]).run P w = .ok v' w' ∧ Fr0 w w' ∧ RdB w' v' p := by
  obtain ⟨inf, hi1, hi2, hi3, zv, hi4, hi5⟩ := hE.info
  have hown : w.ownsRow 0 E 1 (.slice (some ⟨g, 0, none⟩) 0 0) 0 [] := ⟨rfl, .inr ⟨g, 0, #[], rfl, Nat.zero_le _, hg, Nat.le_refl _, Nat.zero_le _, rfl, rfl⟩⟩
  obtain ⟨v', w', hrun, ho, _, _, _⟩ := run_append2 (P := P) (ty := ty) hu hE (by decide) hown hr (by simp) (all_map_B p) (by unfold maxLen; omega) (by omega)
  refine ⟨v', w', hrun, ?_, ?_⟩
  · rcases hr.src with ⟨rfl, h2, h3⟩ | ⟨ad, cap, rfl, hnews⟩
    · have hr2 := run_append_owned_none (P := P) w 0 t ty E inf 1 hu hi1 _ 0 [] hown
      rw [hrun] at hr2
      rw [(Result.ok.inj hr2).2]
      exact .refl _ _
    · by_cases hm : p.length = 0
      · have hp : p = [] := List.eq_nil_of_length_eq_zero hm
        subst hp
        have hr2 := run_append_room (P := P) w t ty E inf hu hi1 g 0 0 #[] hg ad 0 cap [] (by simp) (by simp) (by simp) (Nat.le_refl _) (by simp)
        rw [show (([] : List UInt8).length) = 0 from rfl] at hrun
        rw [hrun] at hr2
        rw [(Result.ok.inj hr2).2]
        have h5 := setRow_self w g #[] E (0, 0) hg
        simp only [Nat.zero_mul, List.take_zero, List.nil_append, List.length_nil, Nat.add_zero, List.drop_zero]
        rw [h5]
        exact .refl _ _
      · have hr2 := run_append_grow (P := P) w t ty E inf zv hu hi1 hi4 ⟨g, 0, none⟩ 0 0 [] (by simp) (by simp) ad p.length cap (p.map B) (by rw [hi2]; simp) hnews (by omega) (by omega) (growslice_fits (by omega) (by rw [hi3]; omega))
        rw [hrun] at hr2
        rw [(Result.ok.inj hr2).2]
        exact (Fr.drew w).trans0 (Fr.alloc _ _)
  · have h6 : w'.ownsRow 0 E 1 v' p.length (p.map B) := by simpa using ho
    exact RdB.row h6
end
section
variable {P : Program} {ops : Array Oper} {N B1 : Nat} {w1 : World} {K : List (Nat × Value) → Fes → Prop} {Fc : List (Nat × Value)} {Fe : Fes} {rest : List Oper}
variable {d : Tmp} {op : Op} {ty t : TypeId} {pos : String} {aft : Array Edge}
/-- append([]byte literal, ..): what comes reads as the bytes. -/
theorem rg_app0 {n0 : Nat} {x0 : Operand} {E : TypeId} {ed : TypeDesc} {zs : List Value} {u : Value} {p : List UInt8} (hu : P.underlying t = some (.slice E)) (hE : Ty P E ed 1 1 zs)
    (hn : lookE Fe n0 = some (fun v L _ => ∃ g, v = .slice (some ⟨g, 0, none⟩) 0 0 ∧ L = [.seg g [] E]))
    (hx : ev Fc x0 = some u) (hr : ∀ w, Fr0 w1 w → RdB w u p) (hle : p.length ≤ 140737488355328)
    (hm : (tmpsOf ⟨some d, .call { callee := .builtin .append, args := #[.tmp n0, x0], argTypes := #[t, t] }, ty, pos, aft, none⟩).any (Nat.beq n0) = true) (hC : look Fc d = none)
    (k : RG P ops N B1 w1 K Fc ((d, fun v L w => RdB w v p ∧ L = []) :: Fe) rest) :
    RG P ops N B1 w1 K Fc Fe (⟨some d, .call { callee := .builtin .append, args := #[.tmp n0, x0], argTypes := #[t, t] }, ty, pos, aft, none⟩ :: rest) :=
  rg_e (fun v L w => RdB w v p ∧ L = []) (fun v L w w' hf h => ⟨h.1.fr0 hf, h.2⟩) (fun a w h => by
    obtain ⟨v, L', he, ⟨g, rfl, rfl⟩, hhas⟩ := h.ent hn hm
    have hg : w.heap[g]? = some (.cells #[] E (0, 0)) := hhas.holds _ (List.mem_singleton.2 rfl)
    obtain ⟨v', w', hrun, hf, hrd⟩ := run_app0 (P := P) (w := w) (ty := ty) hu hE hg (hr w h.fr) hle
    have hrun' : (execOp a.eval ⟨some d, .call { callee := .builtin .append, args := #[.tmp n0, x0], argTypes := #[t, t] }, ty, pos, aft, none⟩).run P w = .ok (.value v') w' := by
      simp [execOp, resolve, invoke, builtin, he, h.ev hx, hrun]
    rw [hrun']
    exact ⟨[], ⟨hrd, rfl⟩, hf, .nil _ _⟩) hC k
/-- A call that comes to a known value, whose arguments are things. -/
theorem rg_callV {f : FuncId} {args : Array Operand} {tys : Array TypeId} {c : Value} (hF : Fun P f)
    (hc : ∀ a w, RC N Fc Fe ⟨some d, .call { callee := .value (.func f), args := args, argTypes := tys }, ty, pos, aft, none⟩ B1 w1 a w → ∃ vs, Evs a args.toList vs ∧ Ctr P f vs w (fun _ => False) fun v _ => v = c) (hE : lookE Fe d = none)
    (k : RG P ops N B1 w1 K ((d, c) :: Fc) Fe rest) : RG P ops N B1 w1 K Fc Fe (⟨some d, .call { callee := .value (.func f), args := args, argTypes := tys }, ty, pos, aft, none⟩ :: rest) :=
  ⟨d, .c c, rfl, .inl ⟨rfl, fun a w h => by
    obtain ⟨vs, h1, h2⟩ := hc a w h
    rw [run_call hF h1]
    exact Calls.mono h2 fun e w' ⟨v, he, hf, hv⟩ => ⟨v, he, [], ⟨hv, rfl⟩, hf, .nil _ _⟩⟩, hE, k⟩
end
end Go.Fw
end

/- Stores into the elements of a slice that may grow. -/
section
set_option linter.unusedSimpArgs false
set_option linter.unusedVariables false
namespace Go.Fw
open Go
section
variable {P : Program} {ops : Array Oper} {Q : Exit → Act → World → Prop} {rest : List Oper} {N : Nat} {F F' : List (Nat × Value)} {L L' : List Ent} {M : Nat → Prop} {w0 w : World} {a : Act}
variable {d : Tmp} {op : Op} {ty : TypeId} {pos : String} {aft : Array Edge} {x y z : Operand} {t u : TypeId}
theorem St.apart_of {i j : Nat} {e e' : Ent} (hs : St N F L M w0 a w) (hi : L[i]? = some e) (hj : L[j]? = some e') (hij : i < j) : ∀ k, e.keys k → ¬ e'.keys k := fun k hk => pairwise_at hs.has.apart hi hj hij k hk
theorem St.apart_of' {i j : Nat} {e e' : Ent} (hs : St N F L M w0 a w) (hi : L[i]? = some e) (hj : L[j]? = some e') (hij : i < j) : ∀ k, e'.keys k → ¬ e.keys k := fun k hk he => pairwise_at hs.has.apart hi hj hij k he hk
/-- A slice that is owned, and not empty, leads to the head of its block. -/
theorem St.row_at {i n sz : Nat} {v : Value} {xs : List Value} {T : TypeId} (hs : St N F L M w0 a w) (hi : L[i]? = some (.row v n xs T sz)) (hn : 0 < n) :
    ∃ g cap cur, v = .slice (some ⟨g, 0, none⟩) n cap ∧ w.heap[g]? = some (.cells cur T (0, 0)) ∧ n ≤ cap ∧ cap ≤ maxLen ∧ cur.size = cap * sz ∧ cur.toList.take (n * sz) = xs := by
  have h : w.ownsRow 0 T sz v n xs := hs.get hi
  obtain ⟨h1, h2⟩ := h
  rcases h2 with ⟨_, h3⟩ | ⟨g, cap, cur, h3, _, h4, h5, h6, h7, h8⟩
  · omega
  · exact ⟨g, cap, cur, h3, h4, h5, h6, h7, h8⟩
/-- A byte is stored into a slice of bytes. -/
theorem s_storeR {i g j cap : Nat} {l : List UInt8} {T' : TypeId} {td : TypeDesc} {zz : List Value} {b : UInt8} (hs : St N F L M w0 a w) (hT : Ty P t td 1 1 zz) (hag : aggD td = false)
    (hx : ev F x = some (.pointer (some ⟨g, j, none⟩))) (hy : ev F y = some (B b)) (hi : L[i]? = some (.row (.slice (some ⟨g, 0, none⟩) l.length cap) l.length (l.map B) T' 1)) (hj : j < l.length)
    (k : ∀ w, St N F (L.set i (.row (.slice (some ⟨g, 0, none⟩) (l.set j b).length cap) (l.set j b).length ((l.set j b).map B) T' 1)) M w0 a w → wpList P ops Q rest a w) :
    wpList P ops Q (⟨none, .store t x y, ty, pos, aft, none⟩ :: rest) a w := by
  have h : w.ownsRow 0 T' 1 (.slice (some ⟨g, 0, none⟩) l.length cap) l.length (l.map B) := hs.get hi
  obtain ⟨h1, h2⟩ := h
  rcases h2 with ⟨h3, _⟩ | ⟨g', cap', cur, h3, h0, hg, hnc, hcm, hcs, htk⟩
  · cases h3
  · cases h3
    have hcl : cur.toList.length = cap := by simpa using hcs
    have hg' : w.heap[g]? = some (.cells cur.toList.toArray T' (0, 0)) := by simpa using hg
    have hr := c_store (P := P) (w := w) (d := none) (ty := ty) (pos := pos) (aft := aft) (g := none) hT (hs.ev hx) (hs.ev hy) (c := [B b]) rfl rfl rfl hg' (by omega)
    have hset : cur.toList.take j ++ [B b] ++ cur.toList.drop (j + 1) = cur.toList.set j (B b) := by
      rw [List.set_eq_take_append_cons_drop, if_pos (by omega)]; simp
    rw [hset] at hr
    refine wpList_plain rfl fun K hK => upon_skip hr (hK _ _ (k _ ?_))
    have hh := setRow_heap w g _ (cur.toList.set j (B b)).toArray _ _ hg'
    refine hs.mod (e' := .row (.slice (some ⟨g, 0, none⟩) (l.set j b).length cap) (l.set j b).length ((l.set j b).map B) T' 1) hi (Fr.mono (.setRow w g _) fun k _ hk => by subst hk; rfl) ⟨by simp, .inr ⟨g, cap, _, rfl, Nat.zero_le _, hh, by simpa using hnc, hcm, by simpa using hcl, ?_⟩⟩ fun k hk => ⟨.inl (by simpa [Ent.keys, Value.ownBlock] using hk), ?_⟩
    · simp only [List.length_set, Nat.mul_one]
      rw [List.take_set, show cur.toList.take l.length = l.map B from by simpa using htk, List.map_set]
    · simp [Ent.keys, Value.ownBlock] at hk
      subst hk
      exact heap_lt hh
end
end Go.Fw
end

/- Things joined; slices of slices of bytes that grow, with all that they own. -/
section
set_option linter.unusedSimpArgs false
set_option linter.unusedVariables false
namespace Go.Fw
open Go
/-- Nothing. -/
def Ent.none : Ent := .pr (fun _ => False) (fun _ => True) fun _ _ _ _ => trivial

theorem apart_at {L : List Ent} (h : L.Pairwise Ent.apart) {i j : Nat} {a b : Ent} (hi : L[i]? = some a) (hj : L[j]? = some b) (hij : i ≠ j) : a.apart b := by
  rcases Nat.lt_or_gt_of_ne hij with h1 | h1
  · exact pairwise_at h hi hj h1
  · exact Ent.apart_symm (pairwise_at h hj hi h1)
theorem set2_at {L : List Ent} {i j p : Nat} {e x : Ent} (hi : i < L.length) (hj : j < L.length) (h : ((L.set i e).set j .none)[p]? = some x) : x = .none ∨ (p = i ∧ x = e) ∨ (p ≠ i ∧ p ≠ j ∧ L[p]? = some x) := by
  by_cases h1 : p = j
  · subst h1; left
    rw [List.getElem?_set_self (by simpa using hj)] at h
    exact (Option.some.inj h).symm
  · rw [List.getElem?_set_ne (Ne.symm h1)] at h
    by_cases h2 : p = i
    · subst h2; right; left
      rw [List.getElem?_set_self hi] at h
      exact ⟨rfl, (Option.some.inj h).symm⟩
    · rw [List.getElem?_set_ne (Ne.symm h2)] at h
      exact .inr (.inr ⟨h2, h1, h⟩)

/-- Two things, made one. -/
theorem Has.join {B : Nat} {w : World} {L : List Ent} {i j : Nat} {a b e : Ent} (h : Has B w L) (hi : L[i]? = some a) (hj : L[j]? = some b) (hij : i ≠ j) (he : e.holds w) (hk : ∀ k, e.keys k → a.keys k ∨ b.keys k) : Has B w ((L.set i e).set j .none) := by
  have li := (List.getElem?_eq_some_iff.1 hi).1
  have lj := (List.getElem?_eq_some_iff.1 hj).1
  have mem : ∀ x ∈ (L.set i e).set j .none, ∃ p, ((L.set i e).set j .none)[p]? = some x := fun x hx => by
    obtain ⟨p, hp, rfl⟩ := List.getElem_of_mem hx
    exact ⟨p, List.getElem?_eq_getElem hp⟩
  have key : ∀ (p q : Nat) (x y : Ent), ((L.set i e).set j .none)[p]? = some x → ((L.set i e).set j .none)[q]? = some y → p ≠ q → Ent.apart x y := by
    intro p q x y hp hq hpq
    rcases set2_at li lj hp with rfl | ⟨h1, rfl⟩ | ⟨h1, h2, h3⟩
    · exact fun k hk _ => hk
    · rcases set2_at li lj hq with rfl | ⟨h4, _⟩ | ⟨h4, h5, h6⟩
      · exact fun k _ hk => hk
      · exact absurd (h1.trans h4.symm) hpq
      · exact fun k hxk hyk => (hk k hxk).elim (fun r => apart_at h.apart hi h6 (Ne.symm h4) k r hyk) (fun r => apart_at h.apart hj h6 (Ne.symm h5) k r hyk)
    · rcases set2_at li lj hq with rfl | ⟨h4, rfl⟩ | ⟨h4, h5, h6⟩
      · exact fun k _ hk => hk
      · exact fun k hxk hyk => (hk k hyk).elim (fun r => apart_at h.apart hi h3 (Ne.symm h1) k r hxk) (fun r => apart_at h.apart hj h3 (Ne.symm h2) k r hxk)
      · exact apart_at h.apart h3 h6 hpq
  refine ⟨fun x hx => ?_, ?_, fun x hx k hxk => ?_, fun x hx k hxk => ?_⟩
  · obtain ⟨p, hp⟩ := mem x hx
    rcases set2_at li lj hp with rfl | ⟨_, rfl⟩ | ⟨_, _, h1⟩
    · trivial
    · exact he
    · exact h.holds x (List.mem_of_getElem? h1)
  · exact List.pairwise_iff_getElem.2 fun p q hp hq hpq => key p q _ _ (List.getElem?_eq_getElem hp) (List.getElem?_eq_getElem hq) (by omega)
  · obtain ⟨p, hp⟩ := mem x hx
    rcases set2_at li lj hp with rfl | ⟨_, rfl⟩ | ⟨_, _, h1⟩
    · exact hxk.elim
    · exact (hk k hxk).elim (h.lt a (List.mem_of_getElem? hi) k) (h.lt b (List.mem_of_getElem? hj) k)
    · exact h.lt x (List.mem_of_getElem? h1) k hxk
  · obtain ⟨p, hp⟩ := mem x hx
    rcases set2_at li lj hp with rfl | ⟨_, rfl⟩ | ⟨_, _, h1⟩
    · exact hxk.elim
    · exact (hk k hxk).elim (h.ge a (List.mem_of_getElem? hi) k) (h.ge b (List.mem_of_getElem? hj) k)
    · exact h.ge x (List.mem_of_getElem? h1) k hxk

theorem Has.cons {B : Nat} {w : World} {L : List Ent} {e : Ent} (h : Has B w L) (he : e.holds w) (hlt : ∀ k, e.keys k → k < w.heap.size) (hge : ∀ k, e.keys k → B ≤ k) (hap : ∀ x ∈ L, e.apart x) : Has B w (e :: L) :=
  ⟨fun x hx => (List.mem_cons.1 hx).elim (fun r => r ▸ he) (h.holds x), List.pairwise_cons.2 ⟨hap, h.apart⟩, fun x hx => (List.mem_cons.1 hx).elim (fun r => r ▸ hlt) (h.lt x), fun x hx => (List.mem_cons.1 hx).elim (fun r => r ▸ hge) (h.ge x)⟩

/-- The row of a part: bytes; rows of sz cells. -/
def Ent.part (T : TypeId) (q : Value × List UInt8) : Ent := .row q.1 q.2.length (q.2.map B) T 1
def Ent.partS (T : TypeId) (sz : Nat) (q : Value × Nat × List UInt8) : Ent := .row q.1 q.2.1 (q.2.2.map B) T sz
/-- Slices of bytes behind a slice that may grow, all of them owned. E: their type; T: that of their elements. -/
def textsL {α : Type} (E : TypeId) (pt : Value × α → Ent) (v : Value) (ps : List (Value × α)) : List Ent := .row v ps.length (ps.map (·.1)) E 1 :: ps.map pt
def Ent.texts {α : Type} (E : TypeId) (pt : Value × α → Ent) (v : Value) (ps : List (Value × α)) : Ent := .grp (textsL E pt v ps)

theorem RdP.texts {E T : TypeId} {v : Value} {ps : List (Value × List UInt8)} {w : World} (h : (Ent.texts E (Ent.part T) v ps).holds w) : RdP w v ps := by
  have h : Has 0 w (textsL E (Ent.part T) v ps) := h
  have h0 : w.ownsRow 0 E 1 v ps.length (ps.map (fun q => q.1)) := h.holds (.row v ps.length (ps.map (fun q : Value × List UInt8 => q.1)) E 1) (by simp [textsL])
  refine ⟨Rd.of_row h0, fun q hq => RdB.row (T := T) (h.holds (Ent.part T q) (by simp only [textsL, List.mem_cons, List.mem_map]; exact .inr ⟨q, hq, rfl⟩))⟩
/-- The parts alone. -/
theorem Has.parts {α : Type} {B : Nat} {E : TypeId} {pt : Value × α → Ent} {v : Value} {ps : List (Value × α)} {w : World} (h : Has B w (textsL E pt v ps)) : Has B w (ps.map pt) := h.pick (List.sublist_cons_self _ _)

section
variable {P : Program} {ops : Array Oper} {Q : Exit → Act → World → Prop} {rest : List Oper} {N : Nat} {F F' : List (Nat × Value)} {L L' : List Ent} {M : Nat → Prop} {w0 w : World} {a : Act}
variable {d : Tmp} {op : Op} {ty : TypeId} {pos : String} {aft : Array Edge} {x y z : Operand} {t u : TypeId}
theorem St.join {i j : Nat} {b c e : Ent} (hs : St N F L M w0 a w) (hi : L[i]? = some b) (hj : L[j]? = some c) (hij : i ≠ j) (he : e.holds w) (hk : ∀ k, e.keys k → b.keys k ∨ c.keys k) : St N F ((L.set i e).set j .none) M w0 a w := by
  refine ⟨hs.know, hs.has.join hi hj hij he hk, fun x hx k hxk => ?_, hs.fr⟩
  obtain ⟨p, hp, rfl⟩ := List.getElem_of_mem hx
  rcases set2_at (List.getElem?_eq_some_iff.1 hi).1 (List.getElem?_eq_some_iff.1 hj).1 (List.getElem?_eq_getElem hp) with h | ⟨_, h⟩ | ⟨_, _, h⟩
  · rw [h] at hxk; exact hxk.elim
  · rw [h] at hxk
    exact (hk k hxk).elim (hs.own b (List.mem_of_getElem? hi) k) (hs.own c (List.mem_of_getElem? hj) k)
  · exact hs.own _ (List.mem_of_getElem? h) k hxk
/-- The first things, made one. -/
theorem St.grpn {A : List Ent} (hs : St N F (A ++ L) M w0 a w) : St N F (.grp A :: L) M w0 a w := by
  obtain ⟨h1, h2⟩ := hs.has.cons_app
  refine ⟨hs.know, h2.cons h1 (grp_lt h1) (fun _ _ => Nat.zero_le _) fun x hx k ⟨e, he, hk⟩ hxk => (List.pairwise_append.1 hs.has.apart).2.2 e he x hx k hk hxk, fun x hx k hxk => ?_, hs.fr⟩
  rcases List.mem_cons.1 hx with rfl | hx
  · obtain ⟨e, he, hk⟩ := hxk
    exact hs.own e (List.mem_append.2 (.inl he)) k hk
  · exact hs.own x (List.mem_append.2 (.inr hx)) k hxk
/-- No texts yet. -/
theorem St.texts0 {α : Type} (hs : St N F L M w0 a w) (E : TypeId) (pt : Value × α → Ent) : St N F (.texts E pt (.slice none 0 0) [] :: L) M w0 a w := St.grpn (A := textsL E pt (.slice none 0 0) []) (hs.nilrow E 1)

/-- Texts, put behind texts. -/
theorem s_appG {α : Type} {pt : Value × α → Ent} {i j bytes : Nat} {s0 x0 : Operand} {E : TypeId} {ed : TypeDesc} {zs : List Value} {ps qs : List (Value × α)} {v u : Value} {b : Ent} (hs : St N F L M w0 a w) (hu : P.underlying t = some (.slice E)) (hE : Ty P E ed 1 bytes zs)
    (hv : ev F s0 = some v) (hx : ev F x0 = some u) (hi : L[i]? = some (.texts E pt v ps)) (hj : L[j]? = some b) (hij : Nat.beq i j = false) (hb : Has 0 w (qs.map pt)) (hbk : ∀ q ∈ qs, ∀ k, (pt q).keys k → b.keys k)
    (hr : Rd w u qs.length (qs.map (·.1))) (h1 : (qs.map (·.1)).all (·.oneCell') = true) (hml : ps.length + qs.length ≤ maxLen) (hby : (ps.length + qs.length) * bytes ≤ 140737488355328) (hd : Nat.blt d N = true)
    (k : ∀ a w' v', St N ((d, v') :: F) ((L.set i (.texts E pt v' (ps ++ qs))).set j .none) M w0 a w' → wpList P ops Q rest a w') :
    wpList P ops Q (⟨some d, .call { callee := .builtin .append, args := #[s0, x0], argTypes := #[t, t] }, ty, pos, aft, none⟩ :: rest) a w := by
  have hij : i ≠ j := fun e => by simp [e] at hij
  have hA : Has 0 w (textsL E pt v ps) := hs.get hi
  have hown : w.ownsRow 0 E 1 v ps.length (ps.map (·.1)) := hA.holds (.row v ps.length (ps.map (fun q : Value × α => q.1)) E 1) (by simp [textsL])
  obtain ⟨v', w', hrun, ho, hg, _, hblk⟩ := run_append2 (P := P) (w := w) (ty := ty) hu hE (by decide) hown hr (by simp) h1 hml hby
  have hrun' : (execOp a.eval ⟨some d, .call { callee := .builtin .append, args := #[s0, x0], argTypes := #[t, t] }, ty, pos, aft, none⟩).run P w = .ok (.value v') w' := by
    simp [execOp, resolve, invoke, builtin, hs.ev hv, hs.ev hx, hrun]
  have hap : (Ent.texts E pt v ps).apart b := apart_at hs.has.apart hi hj hij
  have hfr := Fr.grown hg
  have hrow : ∀ k, v.ownBlock = some k → (Ent.texts E pt v ps).keys k := fun k hk => ⟨.row v ps.length (ps.map (fun q : Value × α => q.1)) E 1, by simp [textsL], hk⟩
  have hpk : ∀ q ∈ ps, ∀ k, (pt q).keys k → (Ent.texts E pt v ps).keys k := fun q hq k hk => ⟨pt q, by simp only [textsL, List.mem_cons, List.mem_map]; exact .inr ⟨q, hq, rfl⟩, hk⟩
  have hne : ∀ e ∈ ps.map pt ++ qs.map pt, ∀ k, e.keys k → ¬ v.ownBlock = some k := by
    intro e he k hk hvk
    rcases List.mem_append.1 he with he | he
    · exact (List.pairwise_cons.1 hA.apart).1 e he k hvk hk
    · obtain ⟨q, hq, rfl⟩ := List.mem_map.1 he
      exact hap k (hrow k hvk) (hbk q hq k hk)
  have hmid : Has 0 w (ps.map pt ++ qs.map pt) := by
    have h2 := hA.parts
    refine ⟨fun e he => ?_, List.pairwise_append.2 ⟨h2.apart, hb.apart, fun x hx y hy k hxk hyk => ?_⟩, fun e he k hk => ?_, fun _ _ _ _ => Nat.zero_le _⟩
    · exact (List.mem_append.1 he).elim (h2.holds e) (hb.holds e)
    · obtain ⟨p, hp, rfl⟩ := List.mem_map.1 hx
      obtain ⟨q, hq, rfl⟩ := List.mem_map.1 hy
      exact hap k (hpk p hp k hxk) (hbk q hq k hyk)
    · exact (List.mem_append.1 he).elim (fun r => h2.lt e r k hk) (fun r => hb.lt e r k hk)
  have hmid' : Has 0 w' (ps.map pt ++ qs.map pt) := hmid.same hfr.size fun e he k hk => hfr.block k (hmid.lt e he k hk) fun hm => hne e he k hk hm
  have hnew : Has 0 w' (textsL E pt v' (ps ++ qs)) := by
    have ho2 : w'.ownsRow 0 E 1 v' (ps ++ qs).length ((ps ++ qs).map (·.1)) := by rw [List.length_append, List.map_append]; exact ho
    have := hmid'.cons (e := .row v' (ps ++ qs).length ((ps ++ qs).map (fun q : Value × α => q.1)) E 1) ho2 (fun k hk => ownBlock_row ho2 k hk) (fun _ _ => Nat.zero_le _) fun e he k hk hek => by
      rcases hblk k hk with h3 | h3
      · exact hne e he k hek h3
      · have := hmid.lt e he k hek; omega
    rw [← List.map_append] at this
    exact this
  refine wpList_plain rfl fun K hK => upon_value hrun' (hK _ _ (k _ _ v' (St.put ?_ (lt_of_blt hd) v')))
  have hL : Has 0 w [Ent.texts E pt v ps, b] := ((Has.nil 0 w).cons (hs.get hj) (hs.has.lt b (List.mem_of_getElem? hj)) (fun _ _ => Nat.zero_le _) (by simp)).cons (hs.get hi) (hs.has.lt _ (List.mem_of_getElem? hi)) (fun _ _ => Nat.zero_le _) (by intro x hx; simp at hx; subst hx; exact hap)
  have hs1 := hs.join (e := .grp [Ent.texts E pt v ps, b]) hi hj hij hL (fun k ⟨e, he, hk⟩ => by
    rcases List.mem_cons.1 he with rfl | he
    · exact .inl hk
    · rcases List.mem_cons.1 he with rfl | he
      · exact .inr hk
      · cases he)
  have li := (List.getElem?_eq_some_iff.1 hi).1
  have hi1 : ((L.set i (.grp [Ent.texts E pt v ps, b])).set j .none)[i]? = some (.grp [Ent.texts E pt v ps, b]) := by
    rw [List.getElem?_set_ne (Ne.symm hij), List.getElem?_set_self li]
  have hs2 := hs1.mod (w' := w') (e' := .texts E pt v' (ps ++ qs)) hi1 (hfr.mono fun k _ hk => ⟨_, List.mem_cons_self, hrow k hk⟩) hnew fun k hk => by
    refine ⟨?_, grp_lt hnew k hk⟩
    obtain ⟨e, he, hek⟩ := hk
    simp only [textsL, List.mem_cons, List.mem_map] at he
    rcases he with rfl | ⟨q, hq, rfl⟩
    · exact (hblk k hek).imp (fun r => ⟨_, List.mem_cons_self, hrow k r⟩) id
    · rcases List.mem_append.1 hq with hq | hq
      · exact .inl ⟨_, List.mem_cons_self, hpk q hq k hek⟩
      · exact .inl ⟨b, by simp, hbk q hq k hek⟩
  refine hs2.toL ?_
  rw [List.set_comm _ _ hij, List.set_set, List.set_comm _ _ hij.symm]

/-- One text, put behind texts. -/
theorem s_appT {i j g : Nat} {s0 x0 : Operand} {E T T' : TypeId} {ed : TypeDesc} {zs : List Value} {ps : List (Value × List UInt8)} {v tv : Value} {l : List UInt8} (hs : St N F L M w0 a w) (hu : P.underlying t = some (.slice E)) (hE : Ty P E ed 1 24 zs)
    (hv : ev F s0 = some v) (hx : ev F x0 = some (.slice (some ⟨g, 0, none⟩) 1 1)) (hi : L[i]? = some (.texts E (Ent.part T) v ps)) (hj : L[j]? = some (.row tv l.length (l.map B) T 1)) (hij : Nat.beq i j = false)
    (hg : w.heap[g]? = some (.cells #[tv] T' (0, 0))) (h1 : tv.oneCell' = true) (hml : ps.length ≤ 1000000) (hd : Nat.blt d N = true)
    (k : ∀ a w' v', St N ((d, v') :: F) ((L.set i (.texts E (Ent.part T) v' (ps ++ [(tv, l)]))).set j .none) M w0 a w' → wpList P ops Q rest a w') :
    wpList P ops Q (⟨some d, .call { callee := .builtin .append, args := #[s0, x0], argTypes := #[t, t] }, ty, pos, aft, none⟩ :: rest) a w :=
  s_appG (qs := [(tv, l)]) (b := .row tv l.length (l.map B) T 1) hs hu hE hv hx hi hj hij
    (by
      have := hs.has.lt _ (List.mem_of_getElem? hj)
      exact (Has.nil 0 w).cons (hs.get hj) this (fun _ _ => Nat.zero_le _) (by simp))
    (fun q hq k hk => by simp only [List.mem_singleton] at hq; subst hq; exact hk)
    (Rd.of_seg (all := [tv]) hg (Nat.le_refl _) (by decide) rfl) (by simpa using h1) (by simp only [List.length_cons, List.length_nil, maxLen]; omega) (by simp only [List.length_cons, List.length_nil]; omega) hd k
/-- Texts, put behind texts. -/
theorem s_appTT {i j : Nat} {s0 x0 : Operand} {E T : TypeId} {ed : TypeDesc} {zs : List Value} {ps qs : List (Value × List UInt8)} {v u : Value} (hs : St N F L M w0 a w) (hu : P.underlying t = some (.slice E)) (hE : Ty P E ed 1 24 zs)
    (hv : ev F s0 = some v) (hx : ev F x0 = some u) (hi : L[i]? = some (.texts E (Ent.part T) v ps)) (hj : L[j]? = some (.texts E (Ent.part T) u qs)) (hij : Nat.beq i j = false) (h1 : (qs.map (·.1)).all (·.oneCell') = true) (hml : ps.length + qs.length ≤ 1000000) (hd : Nat.blt d N = true)
    (k : ∀ a w' v', St N ((d, v') :: F) ((L.set i (.texts E (Ent.part T) v' (ps ++ qs))).set j .none) M w0 a w' → wpList P ops Q rest a w') :
    wpList P ops Q (⟨some d, .call { callee := .builtin .append, args := #[s0, x0], argTypes := #[t, t] }, ty, pos, aft, none⟩ :: rest) a w :=
  s_appG (qs := qs) (b := .texts E (Ent.part T) u qs) hs hu hE hv hx hi hj hij (Has.parts (E := E) (pt := Ent.part T) (v := u) (hs.get hj))
    (fun q hq k hk => ⟨Ent.part T q, by simp only [textsL, List.mem_cons, List.mem_map]; exact .inr ⟨q, hq, rfl⟩, hk⟩)
    (RdP.texts (hs.get hj)).1 h1 (by simp only [maxLen]; omega) (by omega) hd k
/-- Slices are one cell each. -/
theorem Rd.one {w : World} {v : Value} {n : Nat} {cs : List Value} (h : Rd w v n cs) : v.oneCell' = true := by
  obtain ⟨ad, cap, rfl, _⟩ := h
  rfl
theorem RdP.ones {w : World} {v : Value} {ps : List (Value × List UInt8)} (h : RdP w v ps) : (ps.map (·.1)).all (·.oneCell') = true := by
  rw [List.all_eq_true]
  intro x hx
  obtain ⟨q, hq, rfl⟩ := List.mem_map.1 hx
  exact (h.2 q hq).one
end
/-- What a call gives that tells texts: v the slice, T, E as above, ls their bytes. -/
def textsE (E T : TypeId) (ls : List (List UInt8)) : Value → List Ent → World → Prop := fun v L _ => ∃ ps : List (Value × List UInt8), ps.map (·.2) = ls ∧ L = [.texts E (Ent.part T) v ps]
end Go.Fw
end

/- Openings: arrays of arrays of bytes; strings. -/
section
set_option linter.unusedSimpArgs false
set_option linter.unusedVariables false
namespace Go.Fw
open Go Go.ChangeShapes Go.WideShapes Go.ChangeAt Go.RowKit
section
variable {H : Type} {enc : TypeId × Value → H} {P : Program} {w : World} {base : Nat} {spare : Nat → Bool} {held : Bool} {fuel : Nat} {t e u : TypeId} {cs : List Value} {x : DataW H × List MemPlace} {v : Value} {d : DataW H} {ps : List MemPlace} {r : Reach} {b0 : Nat}
/-- The cells of an array of arrays of bytes. -/
theorem trodBBs {n m : Nat} (ht : P.underlying t = some (.array n e)) (he : P.underlying e = some (.array m u)) (hu : P.underlying u = some (.int .u8)) (hcu : P.cellsOf u = 1) (hce : P.cellsOf e = m) (hn : P.cellsOf t = n * m)
    (h : DataW.trod enc P w base spare held fuel t cs = some x) : ∃ l : List UInt8, l.length = n * m ∧ cs = l.map B := by
  obtain ⟨xs, q, _, _, hl, hxl, hx⟩ := DataW.trod_array ht h
  obtain ⟨l, rfl⟩ := ofBs (cs := cs) fun v hv => by
    obtain ⟨j, hj, rfl⟩ := List.getElem_of_mem hv
    have hj' : j < n * m := by rw [← hn]; omega
    have hm : 0 < m := by rcases Nat.eq_zero_or_pos m with h0 | h0; · subst h0; simp at hj'
                          · exact h0
    have hi : j / m < n := Nat.div_lt_of_lt_mul (by rw [Nat.mul_comm]; exact hj')
    have h1 := hx (j / m) (by omega)
    rw [hce] at h1
    rw [List.getElem?_eq_getElem (by omega)] at h1
    obtain ⟨l, hl2, hcs⟩ := trodBs he hu hcu hce h1
    have h2 : ((cs.drop (j / m * m)).take m)[j % m]? = some cs[j] := by
      rw [List.getElem?_take_of_lt (Nat.mod_lt _ hm), List.getElem?_drop, Nat.div_add_mod', List.getElem?_eq_getElem hj]
    rw [hcs, List.getElem?_map] at h2
    obtain ⟨b, _, hb⟩ := Option.map_eq_some_iff.1 h2
    exact ⟨b, hb.symm⟩
  exact ⟨l, by simpa [hn] using hl, rfl⟩
theorem opAA {n m : Nat} (ht : P.underlying t = some (.array n e)) (he : P.underlying e = some (.array m u)) (hu : P.underlying u = some (.int .u8)) (hcu : P.cellsOf u = 1) (hce : P.cellsOf e = m) (hn : P.cellsOf t = n * m)
    (hval : Value.okWide P w r b0 t v) (hd : DataW.Trod enc P w base spare held t v d ps) : ∃ l : List UInt8, l.length = n * m ∧ v = .agg (l.map B).toArray := by
  obtain ⟨cs, rfl, _⟩ := okWide_array ht hval
  obtain ⟨f, hf⟩ := hd
  obtain ⟨l, hl, hcs⟩ := trodBBs ht he hu hcu hce hn hf
  refine ⟨l, hl, ?_⟩
  simp only [Value.cells] at hcs
  rw [← hcs]
theorem opStr (ht : P.underlying t = some .string) (hval : Value.okWide P w r b0 t v) (hd : DataW.Trod enc P w base spare held t v d ps) : ∃ l : List UInt8, v = .string ⟨l.toArray⟩ ∧ d = .lit (.string l) := by
  obtain ⟨s, rfl, rfl, _, _⟩ := Go.ChangeMaps.open_string ht hval hd
  exact ⟨s.data.toList, by simp, rfl⟩
end
end Go.Fw
end

/- Slices made with room. -/
section
set_option linter.unusedSimpArgs false
set_option linter.unusedVariables false
namespace Go.Fw
open Go
section
variable {P : Program} {ops : Array Oper} {Q : Exit → Act → World → Prop} {rest : List Oper} {N : Nat} {F F' : List (Nat × Value)} {L L' : List Ent} {M : Nat → Prop} {w0 w : World} {a : Act}
variable {d : Tmp} {op : Op} {ty : TypeId} {pos : String} {aft : Array Edge} {x y z : Operand} {t u : TypeId}
/-- 'make([]T, 0, m)' -/
theorem s_makeC {E : TypeId} {ed : TypeDesc} {sz bytes m : Nat} {zs : List Value} {k1 k2 : IntKind} {i1 i2 : Int} (hs : St N F L M w0 a w) (hu : P.underlying t = some (.slice E)) (hE : Ty P E ed sz bytes zs) (h1 : ev F x = some (.int k1 i1)) (h2 : ev F y = some (.int k2 i2))
    (hi1 : i1 = 0) (hi2 : i2 = (m : Int)) (hby : bytes * m ≤ 281474976710656) (h63 : m ≤ maxLen) (hd : Nat.blt d N = true)
    (k : ∀ a w gb, St N ((d, .slice (some ⟨gb, 0, none⟩) 0 m) :: F) (.row (.slice (some ⟨gb, 0, none⟩) 0 m) 0 [] E sz :: L) M w0 a w → wpList P ops Q rest a w) :
    wpList P ops Q (⟨some d, .makeSlice t x y, ty, pos, aft, none⟩ :: rest) a w := by
  subst hi1; subst hi2
  obtain ⟨inf, hi1, hi2, hi3, zv, hi4, hi5⟩ := hE.info
  have h63' : (m : Int) ≤ 9223372036854775807 := by simp only [maxLen] at h63; omega
  have hb' : (inf.bytes : Int) * (m : Int) ≤ 281474976710656 := by
    have h : ((bytes * m : Nat) : Int) ≤ 281474976710656 := by omega
    rwa [Int.natCast_mul, ← hi3] at h
  have hr := run_make (P := P) w t E inf zv hu hi1 hi4 k1 k2 0 m (Int.le_refl _) (by omega) hb' h63'
  simp only [Int.toNat_natCast, Int.toNat_zero] at hr
  refine s_new hs (L' := [.row (.slice (some ⟨w.heap.size, 0, none⟩) 0 m) 0 [] E sz]) (w' := w.alloc (.cells (madeCells zv.cells (m * inf.size)) E)) ?_ hd (.alloc _ _) ?_ fun a hs => k a _ _ hs
  · simp [execOp, hs.ev h1, hs.ev h2, hr]
  · refine ⟨?_, List.pairwise_singleton _ _, ?_, ?_⟩
    · intro e he; simp at he; subst he
      exact ⟨by simp, .inr ⟨_, m, _, rfl, Nat.zero_le _, heap_alloc_new w _, Nat.zero_le _, h63, by simp [madeCells, hi2], by simp⟩⟩
    · intro e he k hk; simp at he; subst he
      simp [Ent.keys, Value.ownBlock] at hk
      subst hk; simp
    · intro e he k hk; simp at he; subst he
      simp [Ent.keys, Value.ownBlock] at hk
      subst hk; simp
end
end Go.Fw
end

/- Two results, the first one known. -/
section
set_option linter.unusedSimpArgs false
set_option linter.unusedVariables false
namespace Go.Fw
open Go
def tupE (c : Value) (E : Value → List Ent → World → Prop) : Value → List Ent → World → Prop := fun v L w => ∃ tv, v = .tuple #[c, tv] ∧ E tv L w
def isTup (c : Value) (v : Value) : Prop := ∃ tv, v = .tuple #[c, tv]
section
variable {P : Program} {ops : Array Oper} {N B1 : Nat} {w1 : World} {K : List (Nat × Value) → Fes → Prop} {Fc : List (Nat × Value)} {Fe : Fes} {rest : List Oper}
variable {d : Tmp} {op : Op} {ty : TypeId} {pos : String} {aft : Array Edge} {x y z : Operand} {t u : TypeId}
theorem rg_moveT {s : Nat} {c : Value} {E : Value → List Ent → World → Prop} (hn : lookE Fe s = some (tupE c E)) (hu : (tmpsOf ⟨some d, .move (.tmp s), ty, pos, aft, none⟩).any (Nat.beq s) = true) (hCd : look Fc d = none)
    (k : RG P ops N B1 w1 K Fc ((d, fun v L _ => isTup c v ∧ L = []) :: Fe) rest) : RG P ops N B1 w1 K Fc Fe (⟨some d, .move (.tmp s), ty, pos, aft, none⟩ :: rest) :=
  rg_moveE (isTup c) hn hu (fun v L w ⟨tv, h, _⟩ => ⟨tv, h⟩) hCd k
theorem rg_ext0 {s : Nat} {c : Value} (hn : lookE Fe s = some (fun v L _ => isTup c v ∧ L = [])) (hu : (tmpsOf ⟨some d, .extract (.tmp s) 0, ty, pos, aft, none⟩).any (Nat.beq s) = true) (hE : lookE Fe d = none)
    (k : RG P ops N B1 w1 K ((d, c) :: Fc) Fe rest) : RG P ops N B1 w1 K Fc Fe (⟨some d, .extract (.tmp s) 0, ty, pos, aft, none⟩ :: rest) :=
  rg_extC hn hu (fun v L w ⟨⟨tv, h⟩, _⟩ => ⟨_, h, rfl⟩) hE k
theorem rg_ext1 {s : Nat} {c : Value} (hn : lookE Fe s = some (fun v L _ => isTup c v ∧ L = [])) (hu : (tmpsOf ⟨some d, .extract (.tmp s) 1, ty, pos, aft, none⟩).any (Nat.beq s) = true) (hCd : look Fc d = none)
    (k : RG P ops N B1 w1 K Fc ((d, fun v L _ => True ∧ L = []) :: Fe) rest) : RG P ops N B1 w1 K Fc Fe (⟨some d, .extract (.tmp s) 1, ty, pos, aft, none⟩ :: rest) :=
  rg_extE (fun _ => True) hn hu (fun v L w ⟨⟨tv, h⟩, _⟩ => ⟨_, tv, h, rfl, trivial⟩) hCd k
end
section
variable {P : Program} {ops : Array Oper} {Q : Exit → Act → World → Prop} {rest : List Oper} {N : Nat} {F F' : List (Nat × Value)} {L L' : List Ent} {M : Nat → Prop} {w0 w : World} {a : Act}
variable {d : Tmp} {op : Op} {ty : TypeId} {pos : String} {aft : Array Edge} {x y z : Operand} {t u : TypeId}
/-- Stores that are the first operation of a tail. -/
theorem sk_store {i : Nat} {T' : TypeId} {td : TypeDesc} {sz bytes : Nat} {zz : List Value} {gb o : Nat} {cs cs' c : List Value} {v : Value} (hs : St N F L M w0 a w) (hT : Ty P t td sz bytes zz)
    (hx : ev F x = some (.pointer (some ⟨gb, o, none⟩))) (hy : ev F y = some v) (hi : L[i]? = some (.seg gb cs T')) (hv : v.cells.toList = c) (hl : c.length = sz) (h1 : c.all (·.oneCell') = true) (hfit : o + sz ≤ cs.length)
    (hcs : cs.take o ++ c ++ cs.drop (o + sz) = cs') (k : ∀ w, St N F (L.set i (.seg gb cs' T')) M w0 a w → wpList P ops Q rest a w) :
    ∃ w2, (execOp a.eval ⟨none, .store t x y, ty, pos, aft, none⟩).run P w = .ok .skip w2 ∧ wpList P ops Q rest a w2 := by
  have hr := c_store (P := P) (w := w) (d := none) (ty := ty) (pos := pos) (aft := aft) (g := none) hT (hs.ev hx) (hs.ev hy) hv hl h1 (hs.seg hi) hfit
  rw [hcs] at hr
  refine ⟨_, hr, k _ ?_⟩
  exact hs.mod hi (.setRow w gb _) (setRow_heap w gb _ _ _ _ (hs.seg hi)) (fun j hj => ⟨.inl hj, by
    have h2 : gb < w.heap.size := hs.has.lt _ (List.mem_of_getElem? hi) gb rfl
    cases hj
    simpa using h2⟩)
theorem sk_storeW {i : Nat} {T' : TypeId} {td : TypeDesc} {sz bytes : Nat} {zz : List Value} {gb : Nat} {cs c : List Value} (hs : St N F L M w0 a w) (hT : Ty P t td sz bytes zz)
    (hx : ev F x = some (.pointer (some ⟨gb, 0, none⟩))) (hy : ev F y = some (.agg c.toArray)) (hi : L[i]? = some (.seg gb cs T')) (hl : c.length = sz) (h1 : c.all (·.oneCell') = true) (hcs : cs.length = sz)
    (k : ∀ w, St N F (L.set i (.seg gb c T')) M w0 a w → wpList P ops Q rest a w) :
    ∃ w2, (execOp a.eval ⟨none, .store t x y, ty, pos, aft, none⟩).run P w = .ok .skip w2 ∧ wpList P ops Q rest a w2 :=
  sk_store hs hT hx hy hi (by simp [Value.cells]) hl h1 (by omega) (by simp [hcs]) k
end
end Go.Fw
end

/- Elements of many cells of an array that is a value. -/
section
set_option linter.unusedSimpArgs false
set_option linter.unusedVariables false
namespace Go.Fw
open Go
section
variable {P : Program} {a : Act} {w : World} {d : Option Tmp} {ty : TypeId} {pos : String} {aft : Array Edge} {g : Option (Nat × Bool)} {x y z : Operand} {t u : TypeId}
theorem c_idxSA {n : Nat} {E : TypeId} {ed : TypeDesc} {sz bytes : Nat} {z : List Value} {cs : Array Value} {c : List Value} {j : Nat} {k : IntKind} {i : Int} (hu : P.underlying t = some (.array n E)) (hE : Ty P E ed sz bytes z) (hd : aggD ed = true)
    (hx : a.eval x = .agg cs) (hy : a.eval y = .int k i) (hj : i = (j : Int)) (hlt : j < n) (hc : (cs.toList.drop (0 + j * sz)).take sz = c) :
    (execOp a.eval ⟨d, .index t x y, ty, pos, aft, g⟩).run P w = .ok (.value (.agg c.toArray)) w := by
  subst hj
  have hagg : (isAgg E).run P w = .ok true w := by
    unfold isAgg
    rw [Sem.run_bind, run_underlying hE.und w]
    cases ed <;> simp_all [aggD]
  have e : cs.extract (j * sz) (j * sz + sz) = c.toArray := by
    apply Array.ext'
    rw [Array.toList_extract, ← hc, Nat.zero_add]
    simp [List.extract_eq_take_drop]
  simp [execOp, Instr.index, hx, hy, asIntOf, run_underlying hu, hlt, hE.size, part, hagg, e]
end
end Go.Fw
end

/- Comparisons of arrays of arrays of bytes; literals of numbers. -/
section
set_option linter.unusedSimpArgs false
set_option linter.unusedVariables false
namespace Go.Fw
open Go
section
variable {P : Program} {a : Act} {w : World} {d : Option Tmp} {ty : TypeId} {pos : String} {aft : Array Edge} {g : Option (Nat × Bool)} {x y z : Operand} {t u : TypeId}
theorem run_partA {E : TypeId} {ed : TypeDesc} {sz bytes : Nat} {ze : List Value} {cs c : List Value} {o : Nat} (hE : Ty P E ed sz bytes ze) (hd : aggD ed = true) (hc : (cs.drop o).take sz = c) : (part E cs.toArray o).run P w = .ok (.agg c.toArray) w := by
  have hagg : (isAgg E).run P w = .ok true w := by
    unfold isAgg
    rw [Sem.run_bind, run_underlying hE.und w]
    cases ed <;> simp_all [aggD]
  have e : cs.toArray.extract o (o + sz) = c.toArray := by
    apply Array.ext'
    rw [Array.toList_extract, ← hc]
    simp [List.extract_eq_take_drop]
  simp [part, hagg, hE.size]
  exact hc
def piece (l : List UInt8) (m i : Nat) : List UInt8 := (l.drop (i * m)).take m
theorem pieces_eq {n m : Nat} (hm : 0 < m) {xs ys : List UInt8} (hx : xs.length = n * m) (hy : ys.length = n * m) : (∀ i, i < n → piece xs m i = piece ys m i) ↔ xs = ys := by
  constructor
  · intro h
    apply List.ext_getElem (by omega)
    intro j h1 h2
    have hj : j / m < n := Nat.div_lt_of_lt_mul (by rw [Nat.mul_comm]; omega)
    have e2 := congrArg (fun l : List UInt8 => l[j % m]?) (h (j / m) hj)
    simp only [piece] at e2
    have hmod := Nat.mod_lt j hm
    rw [List.getElem?_take_of_lt hmod, List.getElem?_take_of_lt hmod, List.getElem?_drop, List.getElem?_drop, Nat.div_add_mod', List.getElem?_eq_getElem h1, List.getElem?_eq_getElem h2] at e2
    exact Option.some.inj e2
  · rintro rfl i _
    rfl
theorem eq_arr2 {n m bytes bytes2 : Nat} {E U T : TypeId} {ze zu : List Value} (hu : P.underlying T = some (.array n E)) (hE : Ty P E (.array m U) m bytes ze) (hU : Ty P U (.int .u8) 1 bytes2 zu) (hm : 0 < m) (xs ys : List UInt8) (hx : xs.length = n * m) (hy : ys.length = n * m) :
    (Op.equal T (.agg (xs.map B).toArray) (.agg (ys.map B).toArray)).run P w = .ok (decide (xs = ys)) w := by
  have hpl : ∀ (l : List UInt8), l.length = n * m → ∀ i, i < n → (piece l m i).length = m := fun l hl i hi => by
    have : (i + 1) * m ≤ n * m := Nat.mul_le_mul_right _ (by omega)
    rw [Nat.succ_mul] at this
    rw [piece, List.length_take, List.length_drop]; omega
  have inner : ∀ i, i < n → (Op.equalIn 9999 E (.agg ((piece xs m i).map B).toArray) (.agg ((piece ys m i).map B).toArray)).run P w = .ok (decide (piece xs m i = piece ys m i)) w := fun i hi => by
    have := eq_arr (P := P) (w := w) hE.und hU ((piece xs m i).map fun b => (b.toNat : Int)) ((piece ys m i).map fun b => (b.toNat : Int)) (by simpa using hpl xs hx i hi) (by simpa using hpl ys hy i hi) 9997
    rw [← map_B, ← map_B] at this
    have e : decide (((piece xs m i).map fun b => (b.toNat : Int)) = ((piece ys m i).map fun b => (b.toNat : Int))) = decide (piece xs m i = piece ys m i) := by
      rw [Bool.eq_iff_iff, decide_eq_true_iff, decide_eq_true_iff]
      exact map_B_inj _ _
    rw [e] at this
    exact this
  have hpt : ∀ (l : List UInt8) i, (part E (l.map B).toArray (i * m)).run P w = .ok (.agg ((piece l m i).map B).toArray) w := fun l i =>
    run_partA hE rfl (by rw [piece, List.map_take, List.map_drop])
  show (Op.equalIn (9999 + 1) T _ _).run P w = _
  rw [Op.equalIn]
  simp only [Sem.run_bind, run_underlying hu, Result.andThen_ok, hE.size, Std.Legacy.Range.forIn_eq_forIn_range', Std.Legacy.Range.size, Nat.sub_zero, Nat.add_one_sub_one, Nat.div_one]
  have hl := run_eq_loop (P := P) (w := w) (fun i s => do
            let a ← part E (List.map B xs).toArray (i * m)
            let b ← part E (List.map B ys).toArray (i * m)
            let c ← Op.equalIn 9999 E a b
            if (!c) = true then pure (ForInStep.done (some false, ())) else pure (ForInStep.yield (none, ()))) (fun i => decide (piece xs m i = piece ys m i)) (List.range' 0 n) (fun i hi => by
    have hi' : i < n := by simpa using hi
    simp only [Sem.run_bind, hpt, Result.andThen_ok, inner i hi']
    cases decide (piece xs m i = piece ys m i) <;> simp)
  rw [hl]
  have hall : (List.range' 0 n).all (fun i => decide (piece xs m i = piece ys m i)) = decide (xs = ys) := by
    rw [Bool.eq_iff_iff, List.all_eq_true, decide_eq_true_iff, ← pieces_eq hm hx hy]
    constructor
    · intro h i hi
      simpa using h i (by simpa using hi)
    · intro h i hi
      simpa using h i (by simpa using hi)
  rw [hall]
  by_cases e : xs = ys <;> simp [e]
theorem c_eqlABB {n m bytes bytes2 : Nat} {E U : TypeId} {ze zu : List Value} {xs ys : List UInt8} (hu : P.underlying t = some (.array n E)) (hE : Ty P E (.array m U) m bytes ze) (hU : Ty P U (.int .u8) 1 bytes2 zu) (hm : 0 < m) (hg : P.eqGuardType P.depth t = false)
    (hx : a.eval x = .agg (xs.map B).toArray) (hy : a.eval y = .agg (ys.map B).toArray) (lx : xs.length = n * m) (ly : ys.length = n * m) :
    (execOp a.eval ⟨d, .binOp .eql t x y u, ty, pos, aft, g⟩).run P w = .ok (.value (.bool (decide (xs = ys)))) w := by
  simp [execOp, hx, hy, eqGuard, binOp, hg, eq_arr2 hu hE hU hm xs ys lx ly]
end
theorem RdV.seg {w : World} {g : Nat} {T : TypeId} {l : List UInt64} (h : w.heap[g]? = some (.cells (l.map V).toArray T (0, 0))) (hn : l.length ≤ maxLen) : RdV w (.slice (some ⟨g, 0, none⟩) l.length l.length) l :=
  Rd.of_seg h (Nat.le_refl _) hn (List.take_of_length_le (by simp))
end Go.Fw
end

/- Guarded calls in a region that draws, whatever the guard; reading rows of many cells. -/
section
set_option linter.unusedSimpArgs false
set_option linter.unusedVariables false
namespace Go.Fw
open Go
section
variable {P : Program} {ops : Array Oper} {N B1 : Nat} {w1 : World} {K : List (Nat × Value) → Fes → Prop} {Fc : List (Nat × Value)} {Fe : Fes} {rest : List Oper}
variable {d : Tmp} {op : Op} {ty : TypeId} {pos : String} {aft : Array Edge}
theorem rg_gcall {f : FuncId} {args : Array Operand} {vs : List Value} {tys : Array TypeId} {v : Value} {j s : Nat} {b c : Bool} (hj : (ops[j]?).bind (·.dst) = some s) (hb : look Fc s = some (.bool c)) (hF : Fun P f)
    (hargs : c = b → ∀ a w, RC N Fc Fe ⟨some d, .call { callee := .value (.func f), args := args, argTypes := tys }, ty, pos, aft, some (j, b)⟩ B1 w1 a w → Evs a args.toList vs)
    (hc : c = b → ∀ w, Fr0 w1 w → Ctr P f vs w (fun _ => False) fun u _ => u = v) (hE : lookE Fe d = none)
    (k : RG P ops N B1 w1 K ((d, if c = b then v else undef) :: Fc) Fe rest) : RG P ops N B1 w1 K Fc Fe (⟨some d, .call { callee := .value (.func f), args := args, argTypes := tys }, ty, pos, aft, some (j, b)⟩ :: rest) := by
  by_cases e : c = b
  · rw [if_pos e] at k
    refine ⟨d, .c v, rfl, .inl ⟨by subst e; simp [wantedAs, hj, hb], fun a w h => ?_⟩, hE, k⟩
    rw [run_call hF (hargs e a w h)]
    exact Calls.mono (hc e w h.fr) fun e w' ⟨u, he, hf, hv⟩ => ⟨u, he, [], ⟨hv, rfl⟩, hf, .nil _ _⟩
  · rw [if_neg e] at k
    exact rg_no hj hb (by cases c <;> cases b <;> simp_all) hE k
end
/-- One of the rows of m bytes behind a slice. -/
theorem rowpiece {n m i : Nat} {xs : List UInt8} {cur : Array Value} (h : cur.toList.take (n * m) = xs.map B) (hx : xs.length = n * m) (hi : i < n) : (cur.toList.drop (0 + i * m)).take m = ((xs.drop (i * m)).take m).map B := by
  have hle : (i + 1) * m ≤ n * m := Nat.mul_le_mul_right _ (by omega)
  rw [Nat.succ_mul] at hle
  have h2 : ((cur.toList.take (n * m)).drop (i * m)).take m = ((xs.map B).drop (i * m)).take m := by rw [h]
  rw [List.drop_take, List.take_take, Nat.min_eq_left (by omega)] at h2
  rw [Nat.zero_add, h2, List.map_take, List.map_drop]
end Go.Fw
end

/- A witness with an array of arrays of zeros. -/
section
set_option linter.unusedSimpArgs false
set_option linter.unusedVariables false
namespace Go.Fw
open Go
theorem mapM_same {β : Type} {f : Nat → Option β} {x : β} : ∀ {l : List Nat}, (∀ i ∈ l, f i = some x) → l.mapM f = some (List.replicate l.length x)
  | [], _ => by simp
  | i :: l, h => by
    have ih := mapM_same (l := l) fun j hj => h j (by simp [hj])
    simp [List.mapM_cons, h i (by simp), ih, List.replicate_succ]
section
variable {H : Type} {enc : TypeId × Value → H} {P : Program} {w : World} {base : Nat} {sp : Nat → Bool} {held : Bool} {t e u : TypeId} {n m : Nat}
theorem okWideZZ {dd b0 : Nat} (ht : P.underlying t = some (.array n e)) (he : P.underlying e = some (.array m u)) (hu : P.underlying u = some (.int .u8)) (hd : P.depth = dd + 3) (hc : P.cellsOf t = n * m) (hp : 0 < n * m)
    (hw : Cell.okWide P w .any b0 u (.int .u8 0)) : Value.okWide P w .any b0 t (.agg (Array.mk (List.replicate (n * m) (Value.int .u8 0)))) := by
  unfold Value.okWide
  rw [ht]
  refine ⟨_, rfl, by simp [hc], List.replicate (n * m) u, ?_, ⟨1, by simp⟩, fun i v hv => ?_⟩
  · rw [hd]
    simp [Program.cellTypes, ht, he, hu]
  · have hlt : i < n * m := by have := (Array.getElem?_eq_some_iff.1 hv).1; simpa using this
    have hv2 : v = .int .u8 0 := by
      simp only [List.getElem?_toArray, List.getElem?_replicate, hlt, if_true] at hv
      exact (Option.some.inj hv).symm
    subst hv2
    refine ⟨u, ?_, hw⟩
    rw [List.length_replicate, List.getElem?_replicate, if_pos (Nat.mod_lt _ hp)]
theorem trodZ1 {fu : Nat} (hu : P.underlying u = some (.int .u8)) : DataW.trod enc P w base sp held (fu + 1) u [.int .u8 0] = some (.lit (.int .u8 0), []) := by
  have hw : (Lit.int .u8 0).wf = true := by decide
  simp [DataW.trod, hu, hw]
theorem trodZ2 {fu : Nat} (he : P.underlying e = some (.array m u)) (hu : P.underlying u = some (.int .u8)) (hce : P.cellsOf e = m) (hcu : P.cellsOf u = 1) :
    DataW.trod enc P w base sp held (fu + 2) e (List.replicate m (.int .u8 0)) = some (.agg (List.replicate m (.lit (.int .u8 0))), []) := by
  unfold DataW.trod
  simp only [he, hce, List.length_replicate, if_true, hcu]
  rw [mapM_same (x := (DataW.lit (.int .u8 0), [])) fun i hi => ?_]
  · simp
  · have hi' := List.mem_range.1 hi
    have e2 : ((List.replicate m (Value.int .u8 0)).drop (i * 1)).take 1 = [.int .u8 0] := by
      rw [List.drop_replicate, List.take_replicate, show min 1 (m - i * 1) = 1 from by omega]; rfl
    rw [e2]
    exact trodZ1 hu
theorem trodZZ {fu : Nat} (ht : P.underlying t = some (.array n e)) (he : P.underlying e = some (.array m u)) (hu : P.underlying u = some (.int .u8)) (hct : P.cellsOf t = n * m) (hce : P.cellsOf e = m) (hcu : P.cellsOf u = 1) :
    DataW.trod enc P w base sp held (fu + 3) t (List.replicate (n * m) (.int .u8 0)) = some (.agg (List.replicate n (.agg (List.replicate m (.lit (.int .u8 0))))), []) := by
  unfold DataW.trod
  simp only [ht, hct, List.length_replicate, if_true, hce]
  rw [mapM_same (x := (DataW.agg (List.replicate m (.lit (.int .u8 0))), [])) fun i hi => ?_]
  · simp
  · have hi' := List.mem_range.1 hi
    have hle : (i + 1) * m ≤ n * m := Nat.mul_le_mul_right _ (by omega)
    rw [Nat.succ_mul] at hle
    have e2 : ((List.replicate (n * m) (Value.int .u8 0)).drop (i * m)).take m = List.replicate m (.int .u8 0) := by
      rw [List.drop_replicate, List.take_replicate, show min m (n * m - i * m) = m from by omega]
    rw [e2]
    exact trodZ2 he hu hce hcu
end
/-- A witness, by what is known of it. -/
theorem witnessBy {H : Type} {enc : TypeId × Value → H} {C : Checked} {os : Os} {f : FuncId} {fn : Func} {s : ChangeSpec} {conds : List PathCond} {apart : Bool} (modest : Bool) (i : Input) (fuel : Nat)
    (hv : (World.plainHolding C.prog os i).variablesB C.prog = true)
    (hr : ((World.plainHolding C.prog os i).heap.toList.drop C.prog.globals.size).take ((begin C.prog (fun _ _ => 0) default).world.heap.size - C.prog.globals.size) =
      (begin C.prog (fun _ _ => 0) default).world.heap.toList.drop C.prog.globals.size)
    (hok : Input.okWide C.prog (World.plainHolding C.prog os i) .any (World.plainHolding C.prog os i).heap.size f ⟨#[], i.args, []⟩)
    (hpre : s.preB enc C.prog fn conds apart (World.plainHolding C.prog os i).memory i.args fuel = true)
    (hsz : s.sizedB enc C.prog fn apart (World.plainHolding C.prog os i).memory i.args fuel = true) (hh : (World.plainHolding C.prog os i).heap.size = (World.holding C.prog os i).heap.size) :
    ∃ (w : World) (tape : Tape) (i : Input), w.os = os ∧ (w.forCall tape i).Shaped C.prog ∧ i.vars = [] ∧ Input.okWide C.prog (w.forCall tape i) .any w.heap.size f i ∧
      s.pre6 enc C.prog fn conds apart (w.forCall tape i).memory i.args ∧ ({ modest := modest } : Assume).holds C.prog (lone (Frame.enter C.prog f i.args .normal) [] (w.forCall tape i)) :=
  ⟨World.holding C.prog os i, fun _ _ => 0, ⟨#[], i.args, []⟩, rfl, World.shaped_of_B hv hr, rfl, by rw [← hh]; exact hok, ⟨ChangeSpec.pre_of_preB hpre, sizedMet_of_sizedB hsz⟩, by
    simp only [Assume.holds]
    exact ⟨by simp, by simp, fun _ => Modest.zero, by simp, by simp⟩⟩
end Go.Fw
end

/- More conversions. -/
section
set_option linter.unusedSimpArgs false
set_option linter.unusedVariables false
namespace Go.Fw
open Go
section
variable {P : Program} {a : Act} {w : World} {d : Option Tmp} {ty : TypeId} {pos : String} {aft : Array Edge} {g : Option (Nat × Bool)} {x y z : Operand} {t u : TypeId}
theorem c_cvVI {ds : TypeDesc} {b : UInt64} (hs : P.underlying t = some ds) (hd : P.underlying u = some (.int .i64)) (hx : a.eval x = V b) (hb : b.toNat ≤ 9223372036854775807) : (execOp a.eval ⟨d, .convert t u x, ty, pos, aft, g⟩).run P w = .ok (.value (I b.toNat)) w := by
  rw [c_conv hs hd hx, wrap64_in (by omega) (by omega)]
end
end Go.Fw
end

/- Guarded calls, whatever the guard. -/
section
set_option linter.unusedSimpArgs false
set_option linter.unusedVariables false
namespace Go.Fw
open Go
section
variable {P : Program} {ops : Array Oper} {Q : Exit → Act → World → Prop} {rest : List Oper} {N : Nat} {F F' : List (Nat × Value)} {L L' : List Ent} {M : Nat → Prop} {w0 w : World} {a : Act}
variable {d : Tmp} {op : Op} {ty : TypeId} {pos : String} {aft : Array Edge} {x y z : Operand} {t u : TypeId}
theorem s_gcall {f : FuncId} {args : Array Operand} {vs : List Value} {tys : Array TypeId} {v : Value} {j s : Nat} {b c : Bool} (hs : St N F L M w0 a w) (hj : (ops[j]?).bind (·.dst) = some s) (hb : look F s = some (.bool c)) (hF : Fun P f)
    (hargs : c = b → Evs a args.toList vs) (hc : c = b → Ctr P f vs w (fun _ => False) fun u _ => u = v) (hd : Nat.blt d N = true)
    (k : ∀ a w', Fr0 w w' → St N ((d, if c = b then v else undef) :: F) L M w0 a w' → wpList P ops Q rest a w') :
    wpList P ops Q (⟨some d, .call { callee := .value (.func f), args := args, argTypes := tys }, ty, pos, aft, some (j, b)⟩ :: rest) a w := by
  by_cases e : c = b
  · rw [if_pos e] at k
    subst e
    refine s_yes hs hj hb (s_call hs hF (hargs rfl) (hc rfl) hd fun a w' v' hf hp hs => ?_)
    subst hp
    exact k _ _ hf (hs [] (.nil _ _))
  · rw [if_neg e] at k
    exact s_no hs hj hb (by cases c <;> cases b <;> simp_all) hd fun a hs => k a w (.refl _ _) hs
end
end Go.Fw
end

/- Rows of rows of many cells. -/
section
set_option linter.unusedSimpArgs false
set_option linter.unusedVariables false
namespace Go.Fw
open Go
/-- A slice that is owned, and not empty. -/
theorem owns_at {n sz : Nat} {v : Value} {xs : List Value} {T : TypeId} {w : World} (h : w.ownsRow 0 T sz v n xs) (hn : 0 < n) :
    ∃ g cap cur, v = .slice (some ⟨g, 0, none⟩) n cap ∧ w.heap[g]? = some (.cells cur T (0, 0)) ∧ n ≤ cap ∧ cap ≤ maxLen ∧ cur.toList.take (n * sz) = xs := by
  obtain ⟨h1, h2⟩ := h
  rcases h2 with ⟨_, h3⟩ | ⟨g, cap, cur, h3, _, h4, h5, h6, h7, h8⟩
  · omega
  · exact ⟨g, cap, cur, h3, h4, h5, h6, h8⟩
theorem texts_at {α : Type} {E : TypeId} {pt : Value × α → Ent} {v : Value} {ps : List (Value × α)} {w : World} (h : (Ent.texts E pt v ps).holds w) (hn : 0 < ps.length) :
    ∃ g cap cur, v = .slice (some ⟨g, 0, none⟩) ps.length cap ∧ w.heap[g]? = some (.cells cur E (0, 0)) ∧ ps.length ≤ cap ∧ cap ≤ maxLen ∧ cur.toList.take (ps.length * 1) = ps.map (fun q => q.1) := by
  have h : Has 0 w (textsL E pt v ps) := h
  exact owns_at (h.holds (.row v ps.length (ps.map (fun q : Value × α => q.1)) E 1) (by simp [textsL])) hn
theorem texts_part {α : Type} {E : TypeId} {pt : Value × α → Ent} {v : Value} {ps : List (Value × α)} {w : World} (h : (Ent.texts E pt v ps).holds w) {k : Nat} (hk : k < ps.length) (d : Value × α) : (pt (ps.getD k d)).holds w := by
  have h : Has 0 w (textsL E pt v ps) := h
  refine h.holds _ ?_
  simp only [textsL, List.mem_cons, List.mem_map]
  exact .inr ⟨ps.getD k d, by simp [List.getD, hk], rfl⟩
/-- The value at a place of a slice of slices. -/
theorem outcell {α : Type} {n k : Nat} {ps : List (Value × α)} {cur : Array Value} (d : Value × α) (h : cur.toList.take (n * 1) = ps.map (fun q => q.1)) (hk : k < ps.length) : cur.toList[0 + k * 1]? = some (ps.getD k d).1 := by
  have h2 : (cur.toList.take (n * 1))[k]? = some (ps.getD k d).1 := by rw [h]; simp [List.getD, hk]
  rw [List.getElem?_take] at h2
  split at h2
  · simpa using h2
  · cases h2
section
variable {P : Program} {ops : Array Oper} {Q : Exit → Act → World → Prop} {rest : List Oper} {N : Nat} {F F' : List (Nat × Value)} {L L' : List Ent} {M : Nat → Prop} {w0 w : World} {a : Act}
variable {d : Tmp} {op : Op} {ty : TypeId} {pos : String} {aft : Array Edge} {x y z : Operand} {t u : TypeId}
/-- The first of some rows. -/
theorem St.texts1 {α : Type} {E : TypeId} {pt : Value × α → Ent} {i j : Nat} {v tv : Value} {z : α} (hs : St N F L M w0 a w) (hi : L[i]? = some (.row v 1 [tv] E 1)) (hj : L[j]? = some (pt (tv, z))) (hij : Nat.beq i j = false) :
    St N F ((L.set i (.texts E pt v [(tv, z)])).set j .none) M w0 a w := by
  have hij : i ≠ j := fun e => by simp [e] at hij
  have hap : (Ent.row v 1 [tv] E 1).apart (pt (tv, z)) := apart_at hs.has.apart hi hj hij
  refine hs.join hi hj hij ?_ fun k hk => ?_
  · show Has 0 w [.row v 1 [tv] E 1, pt (tv, z)]
    exact ((Has.nil 0 w).cons (hs.get hj) (hs.has.lt _ (List.mem_of_getElem? hj)) (fun _ _ => Nat.zero_le _) (by simp)).cons (hs.get hi) (hs.has.lt _ (List.mem_of_getElem? hi)) (fun _ _ => Nat.zero_le _) (by intro x hx; simp at hx; subst hx; exact hap)
  · obtain ⟨e, he, hek⟩ := hk
    simp only [textsL, List.map_cons, List.map_nil, List.length_cons, List.length_nil, List.mem_cons, List.not_mem_nil, or_false] at he
    rcases he with rfl | rfl
    · exact .inl hek
    · exact .inr hek
/-- One row, put behind rows. -/
theorem s_appP {α : Type} {pt : Value × α → Ent} {i j g : Nat} {s0 x0 : Operand} {E T' : TypeId} {ed : TypeDesc} {zs : List Value} {ps : List (Value × α)} {v tv : Value} {z : α} (hs : St N F L M w0 a w) (hu : P.underlying t = some (.slice E)) (hE : Ty P E ed 1 24 zs)
    (hv : ev F s0 = some v) (hx : ev F x0 = some (.slice (some ⟨g, 0, none⟩) 1 1)) (hi : L[i]? = some (.texts E pt v ps)) (hj : L[j]? = some (pt (tv, z))) (hij : Nat.beq i j = false)
    (hg : w.heap[g]? = some (.cells #[tv] T' (0, 0))) (h1 : tv.oneCell' = true) (hml : ps.length ≤ 1000000) (hd : Nat.blt d N = true)
    (k : ∀ a w' v', St N ((d, v') :: F) ((L.set i (.texts E pt v' (ps ++ [(tv, z)]))).set j .none) M w0 a w' → wpList P ops Q rest a w') :
    wpList P ops Q (⟨some d, .call { callee := .builtin .append, args := #[s0, x0], argTypes := #[t, t] }, ty, pos, aft, none⟩ :: rest) a w :=
  s_appG (qs := [(tv, z)]) (b := pt (tv, z)) hs hu hE hv hx hi hj hij
    (by
      have := hs.has.lt _ (List.mem_of_getElem? hj)
      exact (Has.nil 0 w).cons (hs.get hj) this (fun _ _ => Nat.zero_le _) (by simp))
    (fun q hq k hk => by simp only [List.mem_singleton] at hq; subst hq; exact hk)
    (Rd.of_seg (all := [tv]) hg (Nat.le_refl _) (by decide) rfl) (by simpa using h1) (by simp only [List.length_cons, List.length_nil, maxLen]; omega) (by simp only [List.length_cons, List.length_nil]; omega) hd k
end
theorem flatZ (n m : Nat) : (List.replicate n ((List.replicate m (0 : UInt8)).map B)).flatten = (List.replicate (n * m) (0 : UInt8)).map B := by
  simp
end Go.Fw
end

/- Operations whose guard was not told: they are not done. -/
section
set_option linter.unusedSimpArgs false
set_option linter.unusedVariables false
namespace Go.Fw
open Go
section
variable {P : Program} {ops : Array Oper} {Q : Exit → Act → World → Prop} {rest : List Oper} {N : Nat} {F F' : List (Nat × Value)} {L L' : List Ent} {M : Nat → Prop} {w0 w : World} {a : Act}
variable {d : Tmp} {op : Op} {ty : TypeId} {pos : String} {aft : Array Edge} {x y z : Operand} {t u : TypeId}
theorem s_noU {j s : Nat} {b : Bool} (hs : St N F L M w0 a w) (hj : (ops[j]?).bind (·.dst) = some s) (hb : look F s = some undef) (hd : Nat.blt d N = true)
    (k : ∀ a, St N ((d, undef) :: F) L M w0 a w → wpList P ops Q rest a w) : wpList P ops Q (⟨some d, op, ty, pos, aft, some (j, b)⟩ :: rest) a w := by
  have hy : yielded ops a.tmps j = none := by
    have := hs.know.at_ s _ hb
    simp [yielded, hj, this, undef]
  unfold wpList
  have hw : Region.wanted ⟨some d, op, ty, pos, aft, some (j, b)⟩ (yielded ops a.tmps) = false := by simp [Region.wanted, hy]
  rw [if_neg (by rw [hw]; simp)]
  exact k _ (hs.put (lt_of_blt hd) undef)
end
end Go.Fw
end

/- Openings: slices of arrays of bytes. -/
section
set_option linter.unusedSimpArgs false
set_option linter.unusedVariables false
namespace Go.Fw
open Go Go.ChangeShapes Go.WideShapes Go.ChangeAt Go.RowKit
section
variable {H : Type} {enc : TypeId × Value → H} {P : Program} {w : World} {base : Nat} {spare : Nat → Bool} {held : Bool} {fuel : Nat} {t e u : TypeId} {cs : List Value} {x : DataW H × List MemPlace} {v : Value} {d : DataW H} {ps : List MemPlace} {r : Reach} {b0 : Nat}
theorem add_add (a : Addr) (i j : Nat) (hs : a.spot = none) : (a.add i).add j = a.add (i + j) := by
  obtain ⟨b, o, s⟩ := a
  simp only at hs
  subst hs
  rw [add_lit, add_lit, add_lit, Nat.add_assoc]
theorem opSA {m : Nat} (ht : P.underlying t = some (.slice e)) (he : P.underlying e = some (.array m u)) (hu : P.underlying u = some (.int .u8)) (hcu : P.cellsOf u = 1) (hce : P.cellsOf e = m) (hm0 : 0 < m)
    (hval : Value.okWide P w r b0 t v) (hd : DataW.Trod enc P w base spare held t v d ps) : ∃ (n : Nat) (ws : List UInt8), ws.length = n * m ∧ Rd w v n (ws.map B) := by
  obtain ⟨a, len, cap, rfl⟩ := okWide_slice ht hval
  obtain ⟨fu, hf⟩ := hd
  have h : DataW.trod enc P w base spare held fu t [.slice a len cap] = some (d, ps) := by simpa [Value.cells] using hf
  rcases Deep.open_slice ht h with ⟨h1, h2⟩ | ⟨a, len, cap, q, n, D, Pl, h1, hb, hl, hm, hmm, h2, hx⟩
  · simp only [List.cons.injEq, and_true] at h1
    exact ⟨0, [], by simp, ⟨none, 0, h1, Nat.le_refl _, Nat.zero_le _, fun _ => rfl, .inl rfl⟩⟩
  · simp only [List.cons.injEq, and_true] at h1
    have hlm : len ≤ q := by rw [hmm]; split <;> omega
    have each : ∀ i, i < len → ∃ l : List UInt8, l.length = m ∧ ∀ j, j < m → w.cell? ((a.add (i * m)).add j) = (l.map B)[j]? := fun i hi => by
      obtain ⟨cs', h3, h4⟩ := hx i (by omega)
      rw [hce] at h3
      obtain ⟨l, hl2, rfl⟩ := trodBs he hu hcu hce h4
      refine ⟨l, hl2, fun j hj => ?_⟩
      exact (World.cells?_some h3).2.2 j hj
    obtain ⟨F, hF⟩ := Deep.choose_lt (α := List UInt8) (p := fun i l => l.length = m ∧ ∀ j, j < m → w.cell? ((a.add (i * m)).add j) = (l.map B)[j]?) each
    have hfl : ∀ k, k ≤ len → ((List.range k).flatMap F).length = k * m ∧ ∀ i j, i < k → j < m → ((List.range k).flatMap F)[i * m + j]? = (F i)[j]? := by
      intro k
      induction k with
      | zero => intro _; exact ⟨by simp, fun i j hi _ => by omega⟩
      | succ k ih =>
        intro hk
        obtain ⟨ih1, ih2⟩ := ih (by omega)
        have hk1 := (hF k (by omega)).1
        rw [List.range_succ, List.flatMap_append]
        simp only [List.flatMap_cons, List.flatMap_nil, List.append_nil]
        refine ⟨by rw [List.length_append, ih1, hk1, Nat.succ_mul], fun i j hi hj => ?_⟩
        by_cases e : i = k
        · subst e
          rw [List.getElem?_append_right (by omega), ih1, Nat.add_sub_cancel_left]
        · have hle : (i + 1) * m ≤ k * m := Nat.mul_le_mul_right _ (by omega)
          rw [Nat.succ_mul] at hle
          rw [List.getElem?_append_left (by omega), ih2 i j (by omega) hj]
    obtain ⟨hf1, hf2⟩ := hfl len (Nat.le_refl _)
    refine ⟨len, (List.range len).flatMap F, hf1, some a, cap, h1, hl, hm, (fun h => by cases h), ?_⟩
    by_cases hp : len = 0
    · left; subst hp; rfl
    · right
      have hsp : a.spot = none := by
        have h5 := (hF 0 (by omega)).2 0 hm0
        have h6 := (hF 0 (by omega)).1
        rw [List.getElem?_eq_getElem (by simp; omega)] at h5
        have := World.cell?_spot h5
        have e0 : (a.add (0 * m)).add 0 = a := by rw [Nat.zero_mul]; obtain ⟨b, o, s⟩ := a; cases s <;> simp [Addr.add]
        rw [e0] at this
        exact this
      obtain ⟨b, o, T, fr, all, rfl, h5, h6⟩ := row_of (w := w) (a := a) (cs := ((List.range len).flatMap F).map B) (n := len * m) (Nat.mul_pos (by omega) hm0) (by simpa using hf1) (fun i hi => by
        have hdiv : i / m < len := Nat.div_lt_of_lt_mul (by rw [Nat.mul_comm]; exact hi)
        have hmod := Nat.mod_lt i hm0
        have h7 := (hF (i / m) hdiv).2 (i % m) hmod
        rw [add_add _ _ _ hsp, Nat.div_add_mod'] at h7
        rw [h7, List.getElem?_map, List.getElem?_map, ← hf2 (i / m) (i % m) hdiv hmod, Nat.div_add_mod'])
      exact ⟨b, o, T, fr, all, rfl, h5, h6⟩
end
end Go.Fw
end

/- Stores into the elements of a slice that may grow, its length by name. -/
section
set_option linter.unusedSimpArgs false
set_option linter.unusedVariables false
namespace Go.Fw
open Go
section
variable {P : Program} {ops : Array Oper} {Q : Exit → Act → World → Prop} {rest : List Oper} {N : Nat} {F F' : List (Nat × Value)} {L L' : List Ent} {M : Nat → Prop} {w0 w : World} {a : Act}
variable {d : Tmp} {op : Op} {ty : TypeId} {pos : String} {aft : Array Edge} {x y z : Operand} {t u : TypeId}
theorem s_storeRn {i g j cap n : Nat} {l : List UInt8} {T' : TypeId} {td : TypeDesc} {zz : List Value} {b : UInt8} (hs : St N F L M w0 a w) (hT : Ty P t td 1 1 zz) (hag : aggD td = false)
    (hx : ev F x = some (.pointer (some ⟨g, j, none⟩))) (hy : ev F y = some (B b)) (hn : l.length = n) (hi : L[i]? = some (.row (.slice (some ⟨g, 0, none⟩) n cap) n (l.map B) T' 1)) (hj : j < n)
    (k : ∀ w, St N F (L.set i (.row (.slice (some ⟨g, 0, none⟩) n cap) n ((l.set j b).map B) T' 1)) M w0 a w → wpList P ops Q rest a w) :
    wpList P ops Q (⟨none, .store t x y, ty, pos, aft, none⟩ :: rest) a w := by
  subst hn
  refine s_storeR hs hT hag hx hy hi hj fun w hs => k w ?_
  simpa only [List.length_set] using hs
end
theorem rowcellB {n j : Nat} {l : List UInt8} {cur : Array Value} (d : UInt8) (h : cur.toList.take (n * 1) = l.map B) (hj : j < l.length) : cur.toList[0 + j * 1]? = some (B (l.getD j d)) := by
  have h2 : (cur.toList.take (n * 1))[j]? = some (B (l.getD j d)) := by rw [h]; simp [List.getD, hj]
  rw [List.getElem?_take] at h2
  split at h2
  · simpa using h2
  · cases h2
theorem RdB.nil (w : World) : RdB w (.slice none 0 0) [] := ⟨none, 0, rfl, Nat.le_refl _, Nat.zero_le _, fun _ => rfl, .inl rfl⟩
end Go.Fw
end

/- Several results, all but one of them known. -/
section
set_option linter.unusedSimpArgs false
set_option linter.unusedVariables false
namespace Go.Fw
open Go
def tupG (pr po : List Value) (E : Value → List Ent → World → Prop) : Value → List Ent → World → Prop := fun v L w => ∃ tv, v = .tuple (pr ++ tv :: po).toArray ∧ E tv L w
def isTupG (pr po : List Value) (v : Value) : Prop := ∃ tv, v = .tuple (pr ++ tv :: po).toArray
section
variable {P : Program} {ops : Array Oper} {N B1 : Nat} {w1 : World} {K : List (Nat × Value) → Fes → Prop} {Fc : List (Nat × Value)} {Fe : Fes} {rest : List Oper}
variable {d : Tmp} {op : Op} {ty : TypeId} {pos : String} {aft : Array Edge} {x y z : Operand} {t u : TypeId}
theorem rg_moveG {s : Nat} {pr po : List Value} {E : Value → List Ent → World → Prop} (hn : lookE Fe s = some (tupG pr po E)) (hu : (tmpsOf ⟨some d, .move (.tmp s), ty, pos, aft, none⟩).any (Nat.beq s) = true) (hCd : look Fc d = none)
    (k : RG P ops N B1 w1 K Fc ((d, fun v L _ => isTupG pr po v ∧ L = []) :: Fe) rest) : RG P ops N B1 w1 K Fc Fe (⟨some d, .move (.tmp s), ty, pos, aft, none⟩ :: rest) :=
  rg_moveE (isTupG pr po) hn hu (fun v L w ⟨tv, h, _⟩ => ⟨tv, h⟩) hCd k
theorem rg_extGc {s j : Nat} {pr po : List Value} {c : Value} (hn : lookE Fe s = some (fun v L _ => isTupG pr po v ∧ L = [])) (hu : (tmpsOf ⟨some d, .extract (.tmp s) j, ty, pos, aft, none⟩).any (Nat.beq s) = true) (hE : lookE Fe d = none) (hc : ∀ tv : Value, (pr ++ tv :: po)[j]? = some c)
    (k : RG P ops N B1 w1 K ((d, c) :: Fc) Fe rest) : RG P ops N B1 w1 K Fc Fe (⟨some d, .extract (.tmp s) j, ty, pos, aft, none⟩ :: rest) :=
  rg_extC hn hu (fun v L w ⟨⟨tv, h⟩, _⟩ => ⟨_, h, by simpa using hc tv⟩) hE k
theorem rg_extGe {s j : Nat} {pr po : List Value} (hn : lookE Fe s = some (fun v L _ => isTupG pr po v ∧ L = [])) (hu : (tmpsOf ⟨some d, .extract (.tmp s) j, ty, pos, aft, none⟩).any (Nat.beq s) = true) (hCd : look Fc d = none) (hj : pr.length = j)
    (k : RG P ops N B1 w1 K Fc ((d, fun v L _ => True ∧ L = []) :: Fe) rest) : RG P ops N B1 w1 K Fc Fe (⟨some d, .extract (.tmp s) j, ty, pos, aft, none⟩ :: rest) :=
  rg_extE (fun _ => True) hn hu (fun v L w ⟨⟨tv, h⟩, _⟩ => ⟨_, tv, h, by subst hj; simp, trivial⟩) hCd k
end
end Go.Fw
end
