/- Several things as one; what a call turns. -/
import Derived.Test.YtmgnnclkjkbmdaaFw15
set_option linter.unusedSimpArgs false
set_option linter.unusedVariables false
namespace Go.Fw
open Go

theorem heap_lt {w : World} {k : Nat} {o : Obj} (h : w.heap[k]? = some o) : k < w.heap.size := (Array.getElem?_eq_some_iff.1 h).1

theorem Has.loc {w w' : World} {L : List Ent} (h : Has 0 w L) (hb : ∀ e ∈ L, ∀ k, e.keys k → w'.heap[k]? = w.heap[k]?) : Has 0 w' L :=
  ⟨fun e he => e.loc (hb e he) (h.holds e he), h.apart, fun e he k hk => by
    have h1 := h.lt e he k hk
    have h2 := hb e he k hk
    rw [Array.getElem?_eq_getElem h1] at h2
    exact heap_lt h2, fun _ _ _ _ => Nat.zero_le _⟩

/-- Some things as one. -/
def Ent.grp (L : List Ent) : Ent := .pr (fun k => ∃ e ∈ L, e.keys k) (fun w => Has 0 w L) fun w w' hb h => h.loc fun e he k hk => hb k ⟨e, he, hk⟩

section
variable {N : Nat} {F F' : List (Nat × Value)} {L L' : List Ent} {M : Nat → Prop} {w0 w w' : World} {a : Act}

/-- The start of a function that may turn the things L. -/
theorem St.startG (hk : Know N F a) (h : Has 0 w L) : St N F L (Ent.grp L).keys w a w :=
  ⟨hk, h, fun e he k hke => .inr ⟨e, he, hke⟩, .refl _ _⟩

/-- What a caller is told of the things. -/
theorem St.grp (h : St N F L M w0 a w) : Has 0 w L ∧ ∀ k, (Ent.grp L).keys k → M k ∨ w0.heap.size ≤ k :=
  ⟨h.has, fun k ⟨e, he, hk⟩ => (h.own e he k hk).symm⟩

theorem grp_lt (h : Has 0 w L) : ∀ k, (Ent.grp L).keys k → k < w.heap.size := fun k ⟨e, he, hk⟩ => h.lt e he k hk

/-- Things as one, put among the others. -/
theorem Has.grp (h : Has 0 w L) {B : Nat} (hB : ∀ e ∈ L, ∀ k, e.keys k → B ≤ k) : Has B w [Ent.grp L] :=
  ⟨by intro e he; simp only [List.mem_singleton] at he; subst he; exact h, List.pairwise_singleton _ _,
   by intro e he k hk; simp only [List.mem_singleton] at he; subst he; exact grp_lt h k hk,
   by intro e he k hk; simp only [List.mem_singleton] at he; subst he; obtain ⟨e, he, hk⟩ := hk; exact hB e he k hk⟩
theorem Has.grp' {B : Nat} (h : Has B w L) : Has B w [Ent.grp L] := (h.mono (Nat.zero_le _)).grp h.ge
end

section
variable {P : Program} {ops : Array Oper} {Q : Exit → Act → World → Prop} {rest : List Oper} {N : Nat} {F F' : List (Nat × Value)} {L L' : List Ent} {M : Nat → Prop} {w0 w : World} {a : Act}
variable {d : Tmp} {op : Op} {ty : TypeId} {pos : String} {aft : Array Edge} {x y z : Operand} {t u : TypeId}

/-- Bytes, put behind bytes. -/
theorem s_appB {i : Nat} {s0 x0 : Operand} {E : TypeId} {ed : TypeDesc} {zs : List Value} {l p : List UInt8} {v u : Value} (hs : St N F L M w0 a w) (hu : P.underlying t = some (.slice E)) (hE : Ty P E ed 1 1 zs)
    (hv : ev F s0 = some v) (hx : ev F x0 = some u) (hi : L[i]? = some (.row v l.length (l.map B) E 1)) (hr : RdB w u p) (hle : l.length + p.length ≤ 140737488355328) (hd : Nat.blt d N = true)
    (k : ∀ a w' v', Fr (Ent.keys (.row v l.length (l.map B) E 1)) w w' → (v' = .slice none 0 0 ↔ v = .slice none 0 0 ∧ p.length = 0) → St N ((d, v') :: F) (L.set i (.row v' (l ++ p).length ((l ++ p).map B) E 1)) M w0 a w' → wpList P ops Q rest a w') :
    wpList P ops Q (⟨some d, .call { callee := .builtin .append, args := #[s0, x0], argTypes := #[t, t] }, ty, pos, aft, none⟩ :: rest) a w := by
  refine s_append hs hu hE (by decide) hv hx hi hr (by simp) (all_map_B p) (by unfold maxLen; omega) (by omega) hd fun a w' v' hf hn hs => ?_
  refine k a w' v' hf hn (hs.toL ?_)
  rw [List.length_append, List.map_append]
end
theorem RdB.seg {w : World} {g : Nat} {T : TypeId} {l : List UInt8} (h : w.heap[g]? = some (.cells (l.map B).toArray T (0, 0))) (hn : l.length ≤ maxLen) : RdB w (.slice (some ⟨g, 0, none⟩) l.length l.length) l :=
  Rd.of_seg h (Nat.le_refl _) hn (List.take_of_length_le (by simp))
theorem RdB.row {w : World} {v : Value} {T : TypeId} {l : List UInt8} (h : w.ownsRow 0 T 1 v l.length (l.map B)) : RdB w v l := Rd.of_row h
theorem RdB.cut {w : World} {ad : Option Addr} {cap i : Nat} {l : List UInt8} (h : RdB w (.slice ad l.length cap) l) (hi : i ≤ l.length) :
    RdB w (.slice (if cap = i then ad else ad.map (·.add (i * 1))) (l.length - i) (cap - i)) (l.drop i) := by
  have := Rd.cut (i := i) (sz := 1) h hi (by simp) (by simpa using hi)
  unfold RdB
  rw [List.length_drop, List.map_drop]
  simpa using this
theorem Rd.sl {w : World} {v : Value} {n : Nat} {cs : List Value} (h : Rd w v n cs) : ∃ ad cap, v = .slice ad n cap ∧ n ≤ cap ∧ cap ≤ maxLen := by
  obtain ⟨ad, cap, hv, h1, h2, _⟩ := h
  exact ⟨ad, cap, hv, h1, h2⟩
theorem u64_app (a p : List UInt8) (h : a.length + p.length < 18446744073709551616) : UInt64.ofNat a.length + i64 (p.length : Int) = UInt64.ofNat (a ++ p).length := by
  apply UInt64.toNat_inj.1
  have h1 := i64_toNat (p.length : Int)
  rw [UInt64.toNat_add, UInt64.toNat_ofNat', UInt64.toNat_ofNat', List.length_append]
  omega
end Go.Fw
namespace Go.Fw
open Go
/-- Bytes that can be read, as a thing. -/
def Ent.rd (v : Value) (l : List UInt8) : Ent := .pr (fun k => v.ownBlock = some k ∧ l ≠ []) (fun w => RdB w v l) fun w w' hb h => by
  obtain ⟨ad, cap, hv, h1, h2, h0, h3⟩ := h
  refine ⟨ad, cap, hv, h1, h2, h0, ?_⟩
  by_cases hl : l = []
  · left; rw [hl]; rfl
  · rcases h3 with h3 | ⟨b, o, T, fr, all, rfl, hb', hc⟩
    · exact .inl h3
    · exact .inr ⟨b, o, T, fr, all, rfl, (hb b ⟨by simp [hv, Value.ownBlock], hl⟩).trans hb', hc⟩
theorem RdB.key {w : World} {v : Value} {l : List UInt8} (h : RdB w v l) {k : Nat} (hk : v.ownBlock = some k) (hl : l ≠ []) : k < w.heap.size := by
  obtain ⟨b, o, cap, T, fr, all, hv, _, _, hb, _⟩ := RdB.at_ h (List.length_pos_iff.2 hl)
  simp [hv, Value.ownBlock] at hk
  subst hk
  exact heap_lt hb
section
variable {N : Nat} {F F' : List (Nat × Value)} {L L' : List Ent} {M : Nat → Prop} {w0 w w' : World} {a : Act}
theorem St.rowrd {i : Nat} {v : Value} {l : List UInt8} {T : TypeId} (hs : St N F L M w0 a w) (hi : L[i]? = some (.row v l.length (l.map B) T 1)) : St N F (L.set i (.rd v l)) M w0 a w :=
  hs.mod hi (.refl _ _) (RdB.row (hs.get hi)) fun k hk => ⟨.inl hk.1, RdB.key (RdB.row (hs.get hi)) hk.1 hk.2⟩
theorem St.rdcut {i j : Nat} {ad : Option Addr} {cap : Nat} {l : List UInt8} (hs : St N F L M w0 a w) (hi : L[i]? = some (.rd (.slice ad l.length cap) l)) (hj : j ≤ l.length) :
    St N F (L.set i (.rd (.slice (if cap = j then ad else ad.map (·.add (j * 1))) (l.length - j) (cap - j)) (l.drop j))) M w0 a w := by
  have h : RdB w (.slice ad l.length cap) l := hs.get hi
  have h2 := RdB.cut h hj
  refine hs.mod hi (.refl _ _) h2 fun k hk => ⟨.inl ⟨?_, fun e => hk.2 (by rw [e]; simp)⟩, RdB.key h2 hk.1 hk.2⟩
  have h3 := hk.1
  cases ad with
  | none => by_cases e : cap = j <;> simp [e, Value.ownBlock] at h3
  | some q =>
    show some q.block = some k
    by_cases e : cap = j
    · rw [if_pos e] at h3; exact h3
    · rw [if_neg e] at h3
      have h4 : some (q.add (j * 1)).block = some k := h3
      rw [← h4]
      unfold Addr.add
      split <;> rfl
end
end Go.Fw
