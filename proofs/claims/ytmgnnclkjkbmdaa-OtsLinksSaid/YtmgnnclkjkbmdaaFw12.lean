/- Stores of whole variables; more on blocks. -/
import Derived.Test.YtmgnnclkjkbmdaaFw11
set_option linter.unusedSimpArgs false
set_option linter.unusedVariables false
namespace Go.Fw
open Go
section
variable {P : Program} {ops : Array Oper} {Q : Exit → Act → World → Prop} {rest : List Oper} {N : Nat} {F F' : List (Nat × Value)} {L L' : List Ent} {M : Nat → Prop} {w0 w : World} {a : Act}
variable {d : Tmp} {op : Op} {ty : TypeId} {pos : String} {aft : Array Edge} {x y z : Operand} {t u : TypeId}
theorem St.next (hs : St N F L M w0 a w) (hF : Sub F F') (hL : L = L') : St N F' L' M w0 a w := (hs.sub hF).toL hL
/-- A whole struct or array is stored. -/
theorem s_storeW {i : Nat} {T' : TypeId} {td : TypeDesc} {sz bytes : Nat} {zz : List Value} {gb : Nat} {cs c : List Value} (hs : St N F L M w0 a w) (hT : Ty P t td sz bytes zz)
    (hx : ev F x = some (.pointer (some ⟨gb, 0, none⟩))) (hy : ev F y = some (.agg c.toArray)) (hi : L[i]? = some (.seg gb cs T')) (hl : c.length = sz) (h1 : c.all (·.oneCell') = true) (hcs : cs.length = sz)
    (k : ∀ w, St N F (L.set i (.seg gb c T')) M w0 a w → wpList P ops Q rest a w) :
    wpList P ops Q (⟨none, .store t x y, ty, pos, aft, none⟩ :: rest) a w :=
  s_store hs hT hx hy hi (by simp [Value.cells]) hl h1 (by omega) (by simp [hcs]) k
/-- A whole variable of one cell is stored. -/
theorem s_storeS {i : Nat} {T' : TypeId} {td : TypeDesc} {bytes : Nat} {zz : List Value} {gb : Nat} {v u : Value} (hs : St N F L M w0 a w) (hT : Ty P t td 1 bytes zz)
    (hx : ev F x = some (.pointer (some ⟨gb, 0, none⟩))) (hy : ev F y = some v) (hi : L[i]? = some (.seg gb [u] T')) (hv : v.cells = #[v]) (h1 : v.oneCell' = true)
    (k : ∀ w, St N F (L.set i (.seg gb [v] T')) M w0 a w → wpList P ops Q rest a w) :
    wpList P ops Q (⟨none, .store t x y, ty, pos, aft, none⟩ :: rest) a w :=
  s_store hs hT hx hy hi (c := [v]) (by rw [hv]) rfl (by simp [h1]) (by simp) (by simp) k
end
end Go.Fw
