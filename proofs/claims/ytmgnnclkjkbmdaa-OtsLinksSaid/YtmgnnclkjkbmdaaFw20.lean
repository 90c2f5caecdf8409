/- Things that lie apart. -/
import Derived.Test.YtmgnnclkjkbmdaaFw19
set_option linter.unusedSimpArgs false
set_option linter.unusedVariables false
namespace Go.Fw
open Go
section
variable {N : Nat} {F F' : List (Nat × Value)} {L L' : List Ent} {M : Nat → Prop} {w0 w w' : World} {a : Act}
theorem pairwise_at {R : Ent → Ent → Prop} : ∀ {L : List Ent} {i j : Nat} {a b : Ent}, L.Pairwise R → L[i]? = some a → L[j]? = some b → i < j → R a b
  | [], i, j, a, b, _, hi, _, _ => by simp at hi
  | x :: t, 0, j + 1, a, b, h, hi, hj, _ => by
    simp at hi hj
    subst hi
    exact (List.pairwise_cons.1 h).1 b (List.mem_of_getElem? hj)
  | x :: t, i + 1, j + 1, a, b, h, hi, hj, hij => by
    simp at hi hj
    exact pairwise_at (List.pairwise_cons.1 h).2 hi hj (by omega)
  | x :: t, i, 0, _, _, _, _, _, hij => by omega
theorem St.apart_seg {i j g n m : Nat} {e : Ent} {cs : List Value} {T : TypeId} (hs : St N F L M w0 a w) (hi : L[i]? = some e) (hj : L[j]? = some (.seg g cs T)) (hij : i < j) :
    ∀ k, (Value.slice (some ⟨g, 0, none⟩) n m).ownBlock = some k → ¬ e.keys k := fun k hk he => by
  simp [Value.ownBlock] at hk
  subst hk
  exact pairwise_at hs.has.apart hi hj hij _ he rfl
theorem St.seg_apart {i j g n m : Nat} {e : Ent} {cs : List Value} {T : TypeId} (hs : St N F L M w0 a w) (hi : L[i]? = some (.seg g cs T)) (hj : L[j]? = some e) (hij : i < j) :
    ∀ k, (Value.slice (some ⟨g, 0, none⟩) n m).ownBlock = some k → ¬ e.keys k := fun k hk he => by
  simp [Value.ownBlock] at hk
  subst hk
  exact pairwise_at hs.has.apart hi hj hij _ rfl he
end
theorem RdB.segn {w : World} {g n : Nat} {T : TypeId} {l : List UInt8} (h : w.heap[g]? = some (.cells (l.map B).toArray T (0, 0))) (hl : l.length = n) (hn : n ≤ maxLen) : RdB w (.slice (some ⟨g, 0, none⟩) n n) l := by
  subst hl; exact RdB.seg h hn
end Go.Fw
namespace Go.Fw
open Go
/-- Each part reads. -/
inductive Alls (w : World) : List (Value × List UInt8) → Prop
  | nil : Alls w []
  | cons {v : Value} {l : List UInt8} {ps : List (Value × List UInt8)} (h : RdB w v l) (t : Alls w ps) : Alls w ((v, l) :: ps)
theorem Alls.all {w : World} {ps : List (Value × List UInt8)} (h : Alls w ps) : ∀ q ∈ ps, RdB w q.1 q.2 := by
  induction h with
  | nil => simp
  | cons h _ ih =>
    intro q hq
    rcases List.mem_cons.1 hq with rfl | hq
    · exact h
    · exact ih q hq
theorem RdP.seg {w : World} {g : Nat} {T : TypeId} {ps : List (Value × List UInt8)} (h : w.heap[g]? = some (.cells (ps.map (·.1)).toArray T (0, 0))) (hn : ps.length ≤ maxLen) (ha : Alls w ps) : RdP w (.slice (some ⟨g, 0, none⟩) ps.length ps.length) ps :=
  ⟨Rd.of_seg h (Nat.le_refl _) hn (List.take_of_length_le (by simp)), ha.all⟩
/-- Numbers behind a slice. -/
abbrev RdV (w : World) (v : Value) (l : List UInt64) : Prop := Rd w v l.length (l.map V)
theorem RdV.at' {w : World} {ad : Option Addr} {cap : Nat} {l : List UInt64} (h : RdV w (.slice ad l.length cap) l) (hne : 0 < l.length) :
    ∃ b o T fr all, ad = some ⟨b, o, none⟩ ∧ w.heap[b]? = some (.cells all T fr) ∧ (all.toList.drop o).take (l.map V).length = l.map V := by
  obtain ⟨b, o, cap', T, fr, all, e, _, _, hb, hc⟩ := Rd.at_ h (by intro e; simp at e; subst e; simp at hne)
  cases e
  exact ⟨b, o, T, fr, all, rfl, hb, hc⟩
theorem RdV.le {w : World} {v : Value} {l : List UInt64} (h : RdV w v l) : l.length ≤ 9223372036854775807 := Rd.le h
theorem RdV.sl {w : World} {v : Value} {l : List UInt64} (h : RdV w v l) : ∃ ad cap, v = .slice ad l.length cap ∧ l.length ≤ cap ∧ cap ≤ maxLen := Rd.sl h
section
variable {P : Program} {a : Act} {w : World} {d : Option Tmp} {ty : TypeId} {pos : String} {aft : Array Edge} {g : Option (Nat × Bool)} {x y z : Operand} {t u : TypeId}
/-- The first j elements of an array. -/
theorem c_sliceAH {n : Nat} {E : TypeId} {s bytes : Nat} {ed : TypeDesc} {z : List Value} {ad : Addr} {j : Nat} {k : IntKind} {m : Int} (hu : P.underlying t = some (.array n E)) (hE : Ty P E ed s bytes z)
    (hx : a.eval x = .pointer (some ad)) (hy : a.eval y = .int k m) (hm : m = (j : Int)) (hj : j ≤ n) :
    (execOp a.eval ⟨d, .slice t x none (some y) none, ty, pos, aft, g⟩).run P w = .ok (.value (.slice (some ad) j n)) w := by
  subst hm
  simp [execOp, Instr.sliceAt, Instr.slice, Instr.sureAddr, hx, hy, run_underlying hu, Instr.sliceBounds, Instr.sliceBound, asIntOf, hE.size, hj, Addr.add]

end
end Go.Fw
