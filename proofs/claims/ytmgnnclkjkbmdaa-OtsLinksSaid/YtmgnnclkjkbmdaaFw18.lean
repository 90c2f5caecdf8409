/- Strings. -/
import Derived.Test.YtmgnnclkjkbmdaaFw17
import Derived.Laws.BytesString
set_option linter.unusedSimpArgs false
set_option linter.unusedVariables false
namespace Go.Fw
open Go

/-- A string of bytes. -/
abbrev T (l : List UInt8) : Value := .string ⟨l.toArray⟩

theorem push_all : ∀ (l : List UInt8) (s : ByteArray), (l.map fun b => (b.toNat : Int)).foldl (fun r n => r.push (UInt8.ofNat n.toNat)) s = ⟨(s.data.toList ++ l).toArray⟩
  | [], s => by simp
  | b :: l, s => by
    simp only [List.map_cons, List.foldl_cons]
    rw [push_all l]
    simp [ByteArray.push]

theorem Rd.cells {w : World} {u : Value} {m : Nat} {news : List Value} (hr : Rd w u m news) : (∃ cap, u = .slice none m cap ∧ m = 0 ∧ news = []) ∨ ∃ ad cap, u = .slice (some ad) m cap ∧ ∀ j v, news[j]? = some v → w.cell? (ad.add j) = some v := by
  rcases hr.src with ⟨h1, h2, h3⟩ | ⟨ad, cap, h1, h2⟩
  · exact .inl ⟨0, by rw [h1, h2], h2, h3⟩
  · exact .inr ⟨ad, cap, h1, h2⟩

section
variable {P : Program} {a : Act} {w : World} {d : Option Tmp} {ty : TypeId} {pos : String} {aft : Array Edge} {g : Option (Nat × Bool)} {x y z : Operand} {t u : TypeId}

/-- Bytes as a string. -/
theorem c_cvST {E : TypeId} {v : Value} {l : List UInt8} (hu : P.underlying t = some (.slice E)) (hE : P.underlying E = some (.int .u8)) (hd : P.underlying u = some .string) (hx : a.eval x = v) (hr : RdB w v l) :
    (execOp a.eval ⟨d, .convert t u x, ty, pos, aft, g⟩).run P w = .ok (.value (T l)) w := by
  rcases Rd.cells hr with ⟨cap, rfl, _, h0⟩ | ⟨ad, cap, rfl, hc⟩
  · have hl : l = [] := by simpa using h0
    subst hl
    simp [execOp, hx, run_convert_bytes_string w t u E none _ cap hu hE hd, Conv.bytesToString]
    rfl
  · have hm : l.map B = (l.map fun b => (b.toNat : Int)).map (Value.int .u8) := by simp [B]
    have h1 : (loadCells ad l.length).run P w = .ok ((l.map fun b => (b.toNat : Int)).map (Value.int .u8)).toArray w := by
      have := run_loadCells_list (P := P) (w := w) ad (l.map B) hc
      rw [List.length_map, hm] at this
      exact this
    have h2 := run_bytesToString w ad l.length cap _ h1
    rw [push_all] at h2
    simp [execOp, hx, run_convert_bytes_string w t u E (some ad) l.length cap hu hE hd, h2]
theorem c_eqlTT {l m : List UInt8} (hx : a.eval x = T l) (hy : a.eval y = T m) : (execOp a.eval ⟨d, .binOp .eql t x y u, ty, pos, aft, g⟩).run P w = .ok (.value (.bool (l == m))) w := by
  rw [c_eqlT hx hy]; simp
theorem c_neqTT {l m : List UInt8} (hx : a.eval x = T l) (hy : a.eval y = T m) : (execOp a.eval ⟨d, .binOp .neq t x y u, ty, pos, aft, g⟩).run P w = .ok (.value (.bool (l != m))) w := by
  rw [c_neqT hx hy]; simp [bne]
theorem c_lenTT {U' : TypeId} {l : List UInt8} (hu : P.underlying U' = some .string) (hx : a.eval x = T l) :
    (execOp a.eval ⟨d, .call { callee := .builtin .len, args := #[x], argTypes := #[U'] }, ty, pos, aft, g⟩).run P w = .ok (.value (I l.length)) w := by
  rw [c_lenT hu hx]; rfl
theorem c_idxTT {l : List UInt8} {j : Nat} {k : IntKind} {i : Int} (hu : P.underlying t = some .string) (hx : a.eval x = T l) (hy : a.eval y = .int k i) (hj : i = (j : Int)) (hlt : j < l.length) :
    (execOp a.eval ⟨d, .index t x y, ty, pos, aft, g⟩).run P w = .ok (.value (B (l.getD j 0))) w := by
  rw [c_idxT hu hx hy hj hlt]
end
theorem freeze_heap {w : World} {gb n : Nat} {cs : Array Value} {T : TypeId} {fr : Nat × Nat} (h : w.heap[gb]? = some (.cells cs T fr)) : ∃ fr', (w.freeze ⟨gb, n, none⟩ 1).heap[gb]? = some (.cells cs T fr') := by
  obtain ⟨lo, hi⟩ := fr
  simp only [World.freeze, if_neg (show ¬ (1 = 0) by decide), Array.getElem?_modify, if_pos trivial, h, Option.map_some]
  exact ⟨_, rfl⟩
theorem freeze_fr (w : World) (gb n : Nat) : Fr (· = gb) w (w.freeze ⟨gb, n, none⟩ 1) :=
  ⟨rfl, rfl, rfl, by simp [World.freeze], fun k _ hk => by simp [World.freeze, Array.getElem?_modify, Ne.symm hk]⟩
section
variable {P : Program} {ops : Array Oper} {Q : Exit → Act → World → Prop} {rest : List Oper} {N : Nat} {F F' : List (Nat × Value)} {L L' : List Ent} {M : Nat → Prop} {w0 w : World} {a : Act}
variable {d : Tmp} {op : Op} {ty : TypeId} {pos : String} {aft : Array Edge} {x y z : Operand} {t u : TypeId}
/-- Constant bytes, made from a string: a mark is set; they can be read. -/
theorem s_mark {i gb : Nat} {l : List UInt8} {E E' T : TypeId} (hs : St N F L M w0 a w) (hu : P.underlying t = some (.slice E)) (hd : P.underlying u = some (.slice E')) (hE : P.underlying E' = some (.int .u8)) (htu : (t == u) = true)
    (hx : ev F x = some (.slice (some ⟨gb, 0, none⟩) l.length l.length)) (hi : L[i]? = some (.seg gb (l.map B) T)) (hle : l.length ≤ maxLen) (hd' : Nat.blt d N = true)
    (k : ∀ a w, St N ((d, .slice (some ⟨gb, 0, none⟩) l.length l.length) :: F) (L.set i (.rd (.slice (some ⟨gb, 0, none⟩) l.length l.length) l)) M w0 a w → wpList P ops Q rest a w) :
    wpList P ops Q (⟨some d, .convert t u x, ty, pos, aft, none⟩ :: rest) a w := by
  have hb := hs.seg hi
  have hrun : (execOp a.eval ⟨some d, .convert t u x, ty, pos, aft, none⟩).run P w = .ok (.value (.slice (some ⟨gb, 0, none⟩) l.length l.length)) (w.freeze ⟨gb, (l.map B).toArray.size, none⟩ 1) := by
    have hsh : w.shape? gb = some (T, (l.map B).toArray.size) := by simp [World.shape?, hb]
    simp [execOp, hs.ev hx, convert, run_underlying hu, run_underlying hd, run_underlying hE, htu, markStringish, hsh, Result.andThen]
  refine wpList_plain rfl fun K hK => upon_value hrun (hK _ _ (k _ _ ?_))
  obtain ⟨fr', hfz⟩ := freeze_heap (n := (l.map B).toArray.size) hb
  have h3 : RdB (w.freeze ⟨gb, (l.map B).toArray.size, none⟩ 1) (.slice (some ⟨gb, 0, none⟩) l.length l.length) l := Rd.of_seg hfz (Nat.le_refl _) hle (List.take_of_length_le (by simp))
  refine (hs.mod (e' := .rd (.slice (some ⟨gb, 0, none⟩) l.length l.length) l) hi (freeze_fr w gb _) h3 fun k hk => ⟨.inl ?_, h3.key hk.1 hk.2⟩).put (lt_of_blt hd') _
  have := hk.1
  simp [Value.ownBlock] at this
  exact this.symm
end
theorem RdB.at' {w : World} {ad : Option Addr} {cap : Nat} {l : List UInt8} (h : RdB w (.slice ad l.length cap) l) (hne : 0 < l.length) :
    ∃ b o T fr all, ad = some ⟨b, o, none⟩ ∧ w.heap[b]? = some (.cells all T fr) ∧ (all.toList.drop o).take (l.map B).length = l.map B := by
  obtain ⟨b, o, cap', T, fr, all, e, _, _, hb, hc⟩ := RdB.at_ h hne
  cases e
  exact ⟨b, o, T, fr, all, rfl, hb, hc⟩
theorem RdB.take {w : World} {ad : Option Addr} {cap m : Nat} {l : List UInt8} (h : RdB w (.slice ad l.length cap) l) (hm : m ≤ l.length) : RdB w (.slice ad m cap) (l.take m) := by
  obtain ⟨ad', cap', hv, h1, h2, h0, h3⟩ := h
  cases hv
  have hl : (l.take m).length = m := by simp; omega
  unfold RdB
  rw [hl]
  refine ⟨ad, cap, rfl, by omega, h2, h0, ?_⟩
  rcases h3 with h3 | ⟨b, o, T, fr, all, rfl, hb, hc⟩
  · left; simp at h3; subst h3; simp
  · right
    refine ⟨b, o, T, fr, all, rfl, hb, ?_⟩
    rw [List.map_take, ← hc]
    simp only [List.length_take, List.length_map, List.take_take]
    have h5 : l.length ≤ all.toList.length - o := by
      have := congrArg List.length hc
      simp only [List.length_take, List.length_map, List.length_drop] at this
      omega
    congr 1
    simp only [List.length_drop]
    omega
theorem RdB.mid {w : World} {ad : Option Addr} {cap i j : Nat} {l : List UInt8} (h : RdB w (.slice ad l.length cap) l) (hij : i ≤ j) (hj : j ≤ l.length) :
    RdB w (.slice (if cap = i then ad else ad.map (·.add (i * 1))) (j - i) (cap - i)) ((l.drop i).take (j - i)) := by
  have h1 := RdB.cut (i := i) h (by omega)
  have h2 : (l.drop i).length = l.length - i := List.length_drop
  rw [← h2] at h1
  exact RdB.take h1 (by omega)
theorem RdB.fr' {M : Nat → Prop} {w w' : World} {v : Value} {l : List UInt8} (h : RdB w v l) (hf : Fr M w w') (hm : l ≠ [] → ∀ k, v.ownBlock = some k → ¬ M k) : RdB w' v l := by
  by_cases e : l = []
  · subst e
    obtain ⟨ad, cap, h1, h2, h3, h4, _⟩ := h
    exact ⟨ad, cap, h1, h2, h3, h4, .inl rfl⟩
  · exact h.fr hf (hm e)
theorem St.far {N : Nat} {F : List (Nat × Value)} {L : List Ent} {w0 w : World} {a : Act} {i : Nat} {e : Ent} {v : Value} {l : List UInt8} (hs : St N F L (fun _ => False) w0 a w) (hi : L[i]? = some e) (h : RdB w0 v l) :
    l ≠ [] → ∀ k, v.ownBlock = some k → ¬ e.keys k := fun hl k hk he => by
  have h1 := h.key hk hl
  rcases hs.own e (List.mem_of_getElem? hi) k he with h2 | h2
  · omega
  · exact h2
end Go.Fw
