/- A small frame of proof over any program: what is known of the slots ('Know'), what stands in memory ('Has'), what has stayed ('Fr'), and all three together ('St'). -/
import Derived.WalkKit
import Derived.Below
namespace Go.Fw
open Go

/-- The value of a slot in a list of facts, the newest first. -/
def look : List (Nat × Value) → Nat → Option Value
  | [], _ => none
  | (k, v) :: t, n => bif Nat.beq k n then some v else look t n

theorem _root_.Nat.beq_eq_false_of {a b : Nat} (h : ¬ a = b) : Nat.beq a b = false := by
  cases e : Nat.beq a b with
  | false => rfl
  | true => exact absurd (Nat.eq_of_beq_eq_true e) h

structure Know (N : Nat) (F : List (Nat × Value)) (a : Act) : Prop where
  size : a.tmps.size = N
  defers : a.defers = []
  at_ : ∀ n v, look F n = some v → a.tmps[n]? = some v

def ev (F : List (Nat × Value)) : Operand → Option Value
  | .tmp n => look F n
  | .const v => some v
  | .global g => some (.pointer (some ⟨g, 0, none⟩))
  | .func f => some (.func (.func f) #[] #[])

theorem Know.eval {N F a x v} (h : Know N F a) (hx : ev F x = some v) : a.eval x = v := by
  cases x with
  | tmp n => have := h.at_ n v hx; simp [Act.eval, this]
  | const u => simpa [ev, Act.eval] using hx
  | global g => simpa [ev, Act.eval] using hx
  | func f => simpa [ev, Act.eval] using hx

theorem Know.put {N F a d} (h : Know N F a) (hd : d < N) (v : Value) : Know N ((d, v) :: F) (a.put (some d) v) := by
  refine ⟨by simpa [Act.put] using h.size, h.defers, fun n u hn => ?_⟩
  simp only [Act.put]
  rw [Array.getElem?_setIfInBounds]
  simp only [look] at hn
  by_cases e : d = n
  · subst e
    simp at hn
    rw [if_pos rfl, if_pos (by rw [h.size]; exact hd), hn]
  · rw [if_neg e]
    have : Nat.beq d n = false := Nat.beq_eq_false_of e
    rw [this] at hn
    exact h.at_ n u hn

/-- Some of the facts. -/
def Sub (F : List (Nat × Value)) : List (Nat × Value) → Prop
  | [] => True
  | (k, v) :: t => look F k = some v ∧ Sub F t

theorem Sub.look {F : List (Nat × Value)} : ∀ {F' : List (Nat × Value)}, Sub F F' → ∀ n v, look F' n = some v → look F n = some v
  | [], _, n, v, h => by simp [Fw.look] at h
  | (k, u) :: t, hs, n, v, h => by
    simp only [Fw.look] at h
    by_cases e : k = n
    · subst e
      simp at h
      rw [← h]
      exact hs.1
    · have : Nat.beq k n = false := Nat.beq_eq_false_of e
      rw [this] at h
      exact hs.2.look n v h

theorem Know.sub {N F F' a} (h : Know N F a) (hs : Sub F F') : Know N F' a := ⟨h.size, h.defers, fun n v hn => h.at_ n v (hs.look n v hn)⟩

/-! ### Memory -/

/-- Block by block as it was, but for the blocks of M. -/
structure Fr (M : Nat → Prop) (w w' : World) : Prop where
  os : w'.os = w.os
  tape : w'.tape = w.tape
  output : w'.output = w.output
  size : w.heap.size ≤ w'.heap.size
  block : ∀ k, k < w.heap.size → ¬ M k → w'.heap[k]? = w.heap[k]?

abbrev Fr0 := Fr (fun _ => False)

theorem Fr.refl (M : Nat → Prop) (w : World) : Fr M w w := ⟨rfl, rfl, rfl, Nat.le_refl _, fun _ _ _ => rfl⟩

theorem Fr.trans {M S : Nat → Prop} {a b c : World} (h : Fr M a b) (k : Fr S b c) (hs : ∀ i, i < a.heap.size → S i → M i) : Fr M a c :=
  ⟨k.os.trans h.os, k.tape.trans h.tape, k.output.trans h.output, Nat.le_trans h.size k.size, fun i hi hm =>
    (k.block i (Nat.lt_of_lt_of_le hi h.size) (fun s => hm (hs i hi s))).trans (h.block i hi hm)⟩

theorem Fr.trans0 {M : Nat → Prop} {a b c : World} (h : Fr M a b) (k : Fr0 b c) : Fr M a c := h.trans k (fun _ _ s => s.elim)

theorem Fr.mono {M M' : Nat → Prop} {a b : World} (h : Fr M a b) (hm : ∀ k, k < a.heap.size → M k → M' k) : Fr M' a b :=
  ⟨h.os, h.tape, h.output, h.size, fun k hk hn => h.block k hk (fun s => hn (hm k hk s))⟩

theorem Fr.below {w w' : World} (h : Fr0 w w') : RowKit.Below w.heap.size w w' := ⟨h.os, h.tape, h.output, h.size, fun k hk => h.block k hk id⟩
theorem Fr.of_below {w w' : World} (h : RowKit.Below w.heap.size w w') : Fr0 w w' := ⟨h.os, h.tape, h.output, h.size, fun k hk _ => h.block k hk⟩
theorem Fr.drew (w : World) : Fr0 w w.drew := ⟨rfl, rfl, rfl, Nat.le_refl _, fun _ _ _ => rfl⟩
theorem Fr.alloc (w : World) (o : Obj) : Fr0 w (w.alloc o) := ⟨rfl, rfl, rfl, by simp, fun k hk _ => RowKit.Below.heap_alloc w o k hk⟩
theorem Fr.setRow (w : World) (g : Nat) (cs : Array Value) : Fr (· = g) w (w.setRow g cs) :=
  ⟨rfl, rfl, rfl, by simp, fun k _ hk => setRow_other w g k cs hk⟩
theorem Fr.grown {w w' : World} {r : Option Nat} (h : w.grownBy w' r) : Fr (fun k => r = some k) w w' :=
  ⟨h.os, h.tape, h.output, h.size, fun k hk hm => h.block k hk (fun e => hm e.symm)⟩

/-- A thing in memory: a block with just these cells; a slice that may grow, with what it owns; or any property that hangs on some blocks alone. -/
inductive Ent where
  | seg (g : Nat) (cs : List Value) (T : TypeId)
  | row (v : Value) (n : Nat) (xs : List Value) (T : TypeId) (sz : Nat)
  | pr (keys : Nat → Prop) (holds : World → Prop) (loc : ∀ w w' : World, (∀ k, keys k → w'.heap[k]? = w.heap[k]?) → holds w → holds w')

def Ent.keys : Ent → Nat → Prop
  | .seg g _ _, k => k = g
  | .row v _ _ _ _, k => v.ownBlock = some k
  | .pr ks _ _, k => ks k

def Ent.holds : Ent → World → Prop
  | .seg g cs T, w => w.heap[g]? = some (.cells cs.toArray T (0, 0))
  | .row v n xs T sz, w => w.ownsRow 0 T sz v n xs
  | .pr _ h _, w => h w

theorem Ent.loc (e : Ent) {w w' : World} (h : ∀ k, e.keys k → w'.heap[k]? = w.heap[k]?) (hh : e.holds w) : e.holds w' := by
  cases e with
  | seg g cs T => exact (h g rfl).trans hh
  | row v n xs T sz =>
    obtain ⟨h1, h2⟩ := hh
    refine ⟨h1, ?_⟩
    rcases h2 with h2 | ⟨g, cap, cur, hv, hg, hc, r⟩
    · exact .inl h2
    · exact .inr ⟨g, cap, cur, hv, hg, (h g (by simp [Ent.keys, hv, Value.ownBlock])).trans hc, r⟩
  | pr ks hd loc => exact loc w w' h hh

def Ent.apart (a b : Ent) : Prop := ∀ k, a.keys k → ¬ b.keys k

structure Has (B : Nat) (w : World) (L : List Ent) : Prop where
  holds : ∀ e ∈ L, e.holds w
  apart : L.Pairwise Ent.apart
  lt : ∀ e ∈ L, ∀ k, e.keys k → k < w.heap.size
  ge : ∀ e ∈ L, ∀ k, e.keys k → B ≤ k

theorem Has.nil (B : Nat) (w : World) : Has B w [] := ⟨by simp, .nil, by simp, by simp⟩
theorem Has.mono {B B' : Nat} {w : World} {L : List Ent} (h : Has B w L) (hB : B' ≤ B) : Has B' w L := ⟨h.holds, h.apart, h.lt, fun e he k hk => Nat.le_trans hB (h.ge e he k hk)⟩

theorem Has.same {B : Nat} {w w' : World} {L : List Ent} (h : Has B w L) (hs : w.heap.size ≤ w'.heap.size) (hb : ∀ e ∈ L, ∀ k, e.keys k → w'.heap[k]? = w.heap[k]?) : Has B w' L :=
  ⟨fun e he => e.loc (hb e he) (h.holds e he), h.apart, fun e he k hk => Nat.lt_of_lt_of_le (h.lt e he k hk) hs, h.ge⟩

theorem Has.fr0 {B : Nat} {w w' : World} {L : List Ent} (h : Has B w L) (hf : Fr0 w w') : Has B w' L :=
  h.same hf.size fun e he k hk => hf.block k (h.lt e he k hk) id

/-- New things beside the old ones. -/
theorem Has.new {B : Nat} {w w' : World} {L L' : List Ent} (h : Has B w L) (hf : Fr0 w w') (hB : B ≤ w.heap.size) (hn : Has w.heap.size w' L') : Has B w' (L' ++ L) := by
  have h' := h.fr0 hf
  refine ⟨fun e he => ?_, ?_, fun e he k hk => ?_, fun e he k hk => ?_⟩
  · rcases List.mem_append.1 he with he | he
    · exact hn.holds e he
    · exact h'.holds e he
  · refine List.pairwise_append.2 ⟨hn.apart, h'.apart, fun a ha b hb k hka hkb => ?_⟩
    have h1 := hn.ge a ha k hka
    have h2 := h.lt b hb k hkb
    omega
  · rcases List.mem_append.1 he with he | he
    · exact hn.lt e he k hk
    · exact h'.lt e he k hk
  · rcases List.mem_append.1 he with he | he
    · exact Nat.le_trans hB (hn.ge e he k hk)
    · exact h.ge e he k hk

theorem pairwise_set {α : Type} {R : α → α → Prop} : ∀ {L : List α} {i : Nat} {e e' : α}, L[i]? = some e → L.Pairwise R → (∀ b ∈ L, R e b → R e' b) → (∀ b ∈ L, R b e → R b e') → (L.set i e').Pairwise R
  | [], i, e, e', h, _, _, _ => by simp at h
  | x :: t, 0, e, e', h, hp, h1, h2 => by
    simp at h
    subst h
    rw [List.pairwise_cons] at hp
    simp only [List.set_cons_zero]
    exact List.pairwise_cons.2 ⟨fun b hb => h1 b (by simp [hb]) (hp.1 b hb), hp.2⟩
  | x :: t, i + 1, e, e', h, hp, h1, h2 => by
    simp at h
    rw [List.pairwise_cons] at hp
    simp only [List.set_cons_succ]
    refine List.pairwise_cons.2 ⟨fun b hb => ?_, pairwise_set h hp.2 (fun b hb r => h1 b (by simp [hb]) r) (fun b hb r => h2 b (by simp [hb]) r)⟩
    rcases List.mem_or_eq_of_mem_set hb with hb | rfl
    · exact hp.1 b hb
    · exact h2 x (by simp) (hp.1 e (List.mem_of_getElem? h))

/-- One thing turned, all else as it was. -/
theorem Has.mod {B : Nat} {w w' : World} {L : List Ent} {i : Nat} {e e' : Ent} (h : Has B w L) (hi : L[i]? = some e) (hf : Fr e.keys w w') (he' : e'.holds w')
    (hk : ∀ k, e'.keys k → (e.keys k ∨ (w.heap.size ≤ k ∧ B ≤ k)) ∧ k < w'.heap.size) : Has B w' (L.set i e') := by
  have hmem := List.mem_of_getElem? hi
  have key : ∀ b ∈ L, ∀ k, e'.keys k → b.keys k → e.keys k := fun b hb k h1 h2 => by
    rcases (hk k h1).1 with h3 | h3
    · exact h3
    · have := h.lt b hb k h2; omega
  have hne : ∀ j b, L[j]? = some b → j ≠ i → ∀ k, b.keys k → ¬ e.keys k := by
    intro j b hj hji k h1 h2
    have hp := List.pairwise_iff_getElem.1 h.apart
    obtain ⟨lj, ej⟩ := List.getElem?_eq_some_iff.1 hj
    obtain ⟨li, ei⟩ := List.getElem?_eq_some_iff.1 hi
    rcases Nat.lt_or_gt_of_ne hji with hlt | hlt
    · exact hp j i lj li hlt k (by rw [ej]; exact h1) (by rw [ei]; exact h2)
    · exact hp i j li lj hlt k (by rw [ei]; exact h2) (by rw [ej]; exact h1)
  have hmem' : ∀ b ∈ L.set i e', b = e' ∨ ∃ j, L[j]? = some b ∧ j ≠ i := by
    intro b hb
    obtain ⟨j, hj, rfl⟩ := List.getElem_of_mem hb
    simp only [List.length_set] at hj
    by_cases hji : j = i
    · subst hji; left; simp
    · right; exact ⟨j, by rw [List.getElem_set_ne (Ne.symm hji)]; exact List.getElem?_eq_getElem hj, hji⟩
  refine ⟨fun b hb => ?_, ?_, fun b hb k hkb => ?_, fun b hb k hkb => ?_⟩
  · rcases hmem' b hb with rfl | ⟨j, hj, hji⟩
    · exact he'
    · have hbm := List.mem_of_getElem? hj
      exact b.loc (fun k hkb => hf.block k (h.lt b hbm k hkb) (hne j b hj hji k hkb)) (h.holds b hbm)
  · refine pairwise_set hi h.apart (fun b hb r k h1 h2 => r k (key b hb k h1 h2) h2) (fun b hb r k h1 h2 => r k h1 (key b hb k h2 h1))
  · rcases hmem' b hb with rfl | ⟨j, hj, hji⟩
    · exact (hk k hkb).2
    · exact Nat.lt_of_lt_of_le (h.lt b (List.mem_of_getElem? hj) k hkb) hf.size
  · rcases hmem' b hb with rfl | ⟨j, hj, hji⟩
    · rcases (hk k hkb).1 with h3 | h3
      · exact h.ge e hmem k h3
      · exact h3.2
    · exact h.ge b (List.mem_of_getElem? hj) k hkb

/-- Fewer things, in any order: by places. -/
theorem Has.pick {B : Nat} {w : World} {L L' : List Ent} (h : Has B w L) (hs : L'.Sublist L) : Has B w L' :=
  ⟨fun e he => h.holds e (hs.subset he), h.apart.sublist hs, fun e he => h.lt e (hs.subset he), fun e he => h.ge e (hs.subset he)⟩

theorem Ent.apart_symm {a b : Ent} (h : a.apart b) : b.apart a := fun k h1 h2 => h k h2 h1

theorem Has.perm {B : Nat} {w : World} {L L' : List Ent} (h : Has B w L) (hp : L'.Perm L) : Has B w L' :=
  ⟨fun e he => h.holds e (hp.mem_iff.1 he), (List.Perm.pairwise_iff (fun h => Ent.apart_symm h) hp).2 h.apart, fun e he => h.lt e (hp.mem_iff.1 he), fun e he => h.ge e (hp.mem_iff.1 he)⟩

theorem Has.cons_app {B : Nat} {w : World} {A C : List Ent} (h : Has B w (A ++ C)) : Has B w A ∧ Has B w C :=
  ⟨h.pick (List.sublist_append_left _ _), h.pick (List.sublist_append_right _ _)⟩

/-! ### The state -/

/-- What is known in the midst of a call that began in w0: the slots, the things, and that of what was there nothing has turned but the blocks of M. -/
structure St (N : Nat) (F : List (Nat × Value)) (L : List Ent) (M : Nat → Prop) (w0 : World) (a : Act) (w : World) : Prop where
  know : Know N F a
  has : Has 0 w L
  own : ∀ e ∈ L, ∀ k, e.keys k → w0.heap.size ≤ k ∨ M k
  fr : Fr M w0 w

section
variable {N : Nat} {F F' : List (Nat × Value)} {L L' : List Ent} {M : Nat → Prop} {w0 w w' : World} {a : Act}

theorem St.put {d : Nat} (h : St N F L M w0 a w) (hd : d < N) (v : Value) : St N ((d, v) :: F) L M w0 (a.put (some d) v) w := ⟨h.know.put hd v, h.has, h.own, h.fr⟩
theorem St.sub (h : St N F L M w0 a w) (hs : Sub F F') : St N F' L M w0 a w := ⟨h.know.sub hs, h.has, h.own, h.fr⟩
theorem St.pick (h : St N F L M w0 a w) (hs : L'.Sublist L) : St N F L' M w0 a w := ⟨h.know, h.has.pick hs, fun e he => h.own e (hs.subset he), h.fr⟩
theorem St.perm (h : St N F L M w0 a w) (hs : L'.Perm L) : St N F L' M w0 a w := ⟨h.know, h.has.perm hs, fun e he => h.own e (hs.mem_iff.1 he), h.fr⟩
theorem St.toL (h : St N F L M w0 a w) (e : L = L') : St N F L' M w0 a w := e ▸ h

theorem St.fr0 (h : St N F L M w0 a w) (hf : Fr0 w w') : St N F L M w0 a w' := ⟨h.know, h.has.fr0 hf, h.own, h.fr.trans0 hf⟩

theorem St.new (h : St N F L M w0 a w) (hf : Fr0 w w') (hn : Has w.heap.size w' L') : St N F (L' ++ L) M w0 a w' := by
  refine ⟨h.know, h.has.new hf (Nat.zero_le _) hn, fun e he k hk => ?_, h.fr.trans0 hf⟩
  rcases List.mem_append.1 he with he | he
  · exact .inl (Nat.le_trans h.fr.size (hn.ge e he k hk))
  · exact h.own e he k hk

theorem St.mod {i : Nat} {e e' : Ent} (h : St N F L M w0 a w) (hi : L[i]? = some e) (hf : Fr e.keys w w') (he' : e'.holds w')
    (hk : ∀ k, e'.keys k → (e.keys k ∨ w.heap.size ≤ k) ∧ k < w'.heap.size) : St N F (L.set i e') M w0 a w' := by
  have hmem := List.mem_of_getElem? hi
  refine ⟨h.know, h.has.mod hi hf he' (fun k hk' => ⟨(hk k hk').1.imp id (fun x => ⟨x, Nat.zero_le _⟩), (hk k hk').2⟩), fun b hb k hkb => ?_, h.fr.trans hf fun j hj hs => (h.own e hmem j hs).elim (fun x => absurd hj (by omega)) id⟩
  rcases List.mem_or_eq_of_mem_set hb with hb | rfl
  · exact h.own b hb k hkb
  · rcases (hk k hkb).1 with h3 | h3
    · exact h.own e hmem k h3
    · exact .inl (Nat.le_trans h.fr.size h3)

theorem St.get {i : Nat} {e : Ent} (h : St N F L M w0 a w) (hi : L[i]? = some e) : e.holds w := h.has.holds e (List.mem_of_getElem? hi)

theorem St.start (hk : Know N F a) (w : World) : St N F [] (fun _ => False) w a w := ⟨hk, .nil _ _, by simp, .refl _ _⟩

/-- The things that the call has made, when it ends. -/
theorem St.made (h : St N F L (fun _ => False) w0 a w) : Has w0.heap.size w L :=
  ⟨h.has.holds, h.has.apart, h.has.lt, fun e he k hk => (h.own e he k hk).elim id False.elim⟩
end
end Go.Fw
