/- Own texts of this seat, laid together for one claim (with what its proof uses alone). -/
import Derived.Test.YtklajbdbnnceiaaGreatPzSoundKe
section
/- The opening of a struct of five cells: an int, a struct (uint32, uint32, int), an int. -/
set_option linter.unusedSimpArgs false
set_option linter.unusedVariables false
namespace Go.Fw
section
open Go Go.ChangeShapes Go.WideShapes Go.ChangeAt Go.RowKit
variable {H : Type} {enc : TypeId × Value → H} {P : Program} {w : World} {base : Nat} {spare : Nat → Bool} {held : Bool} {fuel : Nat} {t e u : TypeId} {cs : List Value} {x : DataW H × List MemPlace} {v : Value} {d : DataW H} {ps : List MemPlace} {r : Reach} {b0 : Nat}
theorem opIK {f0 f1 f2 g0 g1 g2 : Field} (ht : P.underlying t = some (.struct #[f0, f1, f2])) (h0 : P.underlying f0.type = some (.int .i64)) (h1 : P.underlying f1.type = some (.struct #[g0, g1, g2])) (h2 : P.underlying f2.type = some (.int .i64))
    (k0 : P.underlying g0.type = some (.int .u32)) (k1 : P.underlying g1.type = some (.int .u32)) (k2 : P.underlying g2.type = some (.int .i64)) (o0 : f0.offset = 0) (o1 : f1.offset = 1) (o2 : f2.offset = 4) (p0 : g0.offset = 0) (p1 : g1.offset = 1) (p2 : g2.offset = 2)
    (c0 : P.cellsOf f0.type = 1) (c1 : P.cellsOf f1.type = 3) (c2 : P.cellsOf f2.type = 1) (ct : P.cellsOf t = 5) (d0 : P.cellsOf g0.type = 1) (d1 : P.cellsOf g1.type = 1) (d2 : P.cellsOf g2.type = 1) (hval : Value.okWide P w r b0 t v) (hd : DataW.Trod enc P w base spare held t v d ps) :
    ∃ (n : Int) (ep sq : UInt32) (i j : Int), v = .agg #[I n, U ep, U sq, I i, I j] ∧ (-9223372036854775808 ≤ n ∧ n ≤ 9223372036854775807) ∧ (-9223372036854775808 ≤ i ∧ i ≤ 9223372036854775807) ∧ (-9223372036854775808 ≤ j ∧ j ≤ 9223372036854775807) := by
  obtain ⟨cs, rfl, _⟩ := okWide_struct ht hval
  obtain ⟨fu, hf⟩ := hd
  obtain ⟨y0, y1, y2, n, _, hl, hy0, hy1, hy2⟩ := Go.Deep.trod_struct3 ht hf
  obtain ⟨z0, z1, z2, m, _, hl1, hz0, hz1, hz2⟩ := Go.Deep.trod_struct3 h1 hy1
  simp only [Value.cells] at hl hy0 hy1 hy2 hz0 hz1 hz2
  rw [ct] at hl
  match hcs : cs.toList, hl with
  | [a, b, c, e, f], _ =>
    rw [hcs, o0, c0] at hy0
    rw [hcs, o2, c2] at hy2
    rw [hcs, o1, c1, p0, d0] at hz0
    rw [hcs, o1, c1, p1, d1] at hz1
    rw [hcs, o1, c1, p2, d2] at hz2
    obtain ⟨z, hz, _, hw⟩ := DataW.trod_int h0 hy0
    obtain ⟨ze, hze, _, hwe⟩ := DataW.trod_int k0 hz0
    obtain ⟨zs, hzs, _, hws⟩ := DataW.trod_int k1 hz1
    obtain ⟨zm, hzm, _, hwm⟩ := DataW.trod_int k2 hz2
    obtain ⟨zn, hzn, _, hwn⟩ := DataW.trod_int h2 hy2
    simp at hz hze hzs hzm hzn
    subst hz hze hzs hzm hzn
    obtain ⟨ep, hep⟩ := ofU hwe
    obtain ⟨sq, hsq⟩ := ofU hws
    refine ⟨z, ep, sq, zm, zn, ?_, bounds_i64 hw, bounds_i64 hwm, bounds_i64 hwn⟩
    congr 1
    apply Array.ext'
    rw [hcs, ← hep, ← hsq]
end
end Go.Fw
end

section
/- Openings: slices of arrays of bytes. -/
set_option linter.unusedSimpArgs false
set_option linter.unusedVariables false
namespace Go.Fw
open Go Go.ChangeShapes Go.WideShapes Go.ChangeAt Go.RowKit
section
variable {H : Type} {enc : TypeId × Value → H} {P : Program} {w : World} {base : Nat} {spare : Nat → Bool} {held : Bool} {fuel : Nat} {t e u : TypeId} {cs : List Value} {x : DataW H × List MemPlace} {v : Value} {d : DataW H} {ps : List MemPlace} {r : Reach} {b0 : Nat}
theorem add_add (a : Addr) (i j : Nat) (hs : a.spot = none) : (a.add i).add j = a.add (i + j) := by
  obtain ⟨b, o, s⟩ := a
  simp only at hs
  subst hs
  rw [add_lit, add_lit, add_lit, Nat.add_assoc]
end
end Go.Fw
end

section
/- The openings of structs that hold slices of arrays of bytes: credentials, what is known. -/
set_option linter.unusedSimpArgs false
set_option linter.unusedVariables false
namespace Go.Fw
open Go Go.ChangeShapes Go.WideShapes Go.ChangeAt Go.RowKit
section
variable {H : Type} {enc : TypeId × Value → H} {P : Program} {w : World} {base : Nat} {spare : Nat → Bool} {held : Bool} {fuel : Nat} {t e u : TypeId} {cs : List Value} {x : DataW H × List MemPlace} {v : Value} {d : DataW H} {ps : List MemPlace} {r : Reach} {b0 : Nat}
theorem trodSA {m : Nat} (ht : P.underlying t = some (.slice e)) (he : P.underlying e = some (.array m u)) (hu : P.underlying u = some (.int .u8)) (hcu : P.cellsOf u = 1) (hce : P.cellsOf e = m) (hm0 : 0 < m)
    (h : DataW.trod enc P w base spare held fuel t cs = some x) : ∃ (v : Value) (n : Nat) (ws : List UInt8), cs = [v] ∧ ws.length = n * m ∧ Rd w v n (ws.map B) := by
  rcases Deep.open_slice ht h with ⟨h1, h2⟩ | ⟨a, len, cap, q, n, D, Pl, h1, hb, hl, hm, hmm, h2, hx⟩
  · exact ⟨_, 0, [], h1, by simp, ⟨none, 0, rfl, Nat.le_refl _, Nat.zero_le _, fun _ => rfl, .inl rfl⟩⟩
  · have hlm : len ≤ q := by rw [hmm]; split <;> omega
    have each : ∀ i, i < len → ∃ l : List UInt8, l.length = m ∧ ∀ j, j < m → w.cell? ((a.add (i * m)).add j) = (l.map B)[j]? := fun i hi => by
      obtain ⟨cs', h3, h4⟩ := hx i (by omega)
      rw [hce] at h3
      obtain ⟨l, hl2, rfl⟩ := trodBs he hu hcu hce h4
      refine ⟨l, hl2, fun j hj => ?_⟩
      exact (World.cells?_some h3).2.2 j hj
    obtain ⟨F, hF⟩ := Deep.choose_lt (α := List UInt8) (p := fun i l => l.length = m ∧ ∀ j, j < m → w.cell? ((a.add (i * m)).add j) = (l.map B)[j]?) each
    have hfl : ∀ k, k ≤ len → ((List.range k).flatMap F).length = k * m ∧ ∀ i j, i < k → j < m → ((List.range k).flatMap F)[i * m + j]? = (F i)[j]? := by
      intro k
      induction k with
      | zero => intro _; exact ⟨by simp, fun i j hi _ => by omega⟩
      | succ k ih =>
        intro hk
        obtain ⟨ih1, ih2⟩ := ih (by omega)
        have hk1 := (hF k (by omega)).1
        rw [List.range_succ, List.flatMap_append]
        simp only [List.flatMap_cons, List.flatMap_nil, List.append_nil]
        refine ⟨by rw [List.length_append, ih1, hk1, Nat.succ_mul], fun i j hi hj => ?_⟩
        by_cases e : i = k
        · subst e
          rw [List.getElem?_append_right (by omega), ih1, Nat.add_sub_cancel_left]
        · have hle : (i + 1) * m ≤ k * m := Nat.mul_le_mul_right _ (by omega)
          rw [Nat.succ_mul] at hle
          rw [List.getElem?_append_left (by omega), ih2 i j (by omega) hj]
    obtain ⟨hf1, hf2⟩ := hfl len (Nat.le_refl _)
    refine ⟨_, len, (List.range len).flatMap F, h1, hf1, some a, cap, rfl, hl, hm, (fun h => by cases h), ?_⟩
    by_cases hp : len = 0
    · left; subst hp; rfl
    · right
      have hsp : a.spot = none := by
        have h5 := (hF 0 (by omega)).2 0 hm0
        have h6 := (hF 0 (by omega)).1
        rw [List.getElem?_eq_getElem (by simp; omega)] at h5
        have := World.cell?_spot h5
        have e0 : (a.add (0 * m)).add 0 = a := by rw [Nat.zero_mul]; obtain ⟨b, o, s⟩ := a; cases s <;> simp [Addr.add]
        rw [e0] at this
        exact this
      obtain ⟨b, o, T, fr, all, rfl, h5, h6⟩ := row_of (w := w) (a := a) (cs := ((List.range len).flatMap F).map B) (n := len * m) (Nat.mul_pos (by omega) hm0) (by simpa using hf1) (fun i hi => by
        have hdiv : i / m < len := Nat.div_lt_of_lt_mul (by rw [Nat.mul_comm]; exact hi)
        have hmod := Nat.mod_lt i hm0
        have h7 := (hF (i / m) hdiv).2 (i % m) hmod
        rw [add_add _ _ _ hsp, Nat.div_add_mod'] at h7
        rw [h7, List.getElem?_map, List.getElem?_map, ← hf2 (i / m) (i % m) hdiv hmod, Nat.div_add_mod'])
      exact ⟨b, o, T, fr, all, rfl, h5, h6⟩
theorem cut18 {α : Type} (l : List α) (h : l.length = 18) : l = (l.drop 0).take 16 ++ (l.drop 16).take 1 ++ (l.drop 17).take 1 := by
  have h3 : (l.drop 17).take 1 = l.drop 17 := List.take_of_length_le (by simp; omega)
  have h4 : (l.drop 16).take 1 ++ l.drop 17 = l.drop 16 := by
    have := List.take_append_drop 1 (l.drop 16)
    rw [List.drop_drop] at this
    exact this
  rw [h3, List.drop_zero, List.append_assoc, h4, List.take_append_drop]
theorem opCr {f0 f1 f2 : Field} (ht : P.underlying t = some (.struct #[f0, f1, f2])) (h0 : P.underlying f0.type = some (.array 16 u)) (h1 : P.underlying f1.type = some (.slice e)) (h2 : P.underlying f2.type = some (.slice e)) (he : P.underlying e = some (.array 16 u)) (hu : P.underlying u = some (.int .u8))
    (o0 : f0.offset = 0) (o1 : f1.offset = 16) (o2 : f2.offset = 17) (c0 : P.cellsOf f0.type = 16) (c1 : P.cellsOf f1.type = 1) (c2 : P.cellsOf f2.type = 1) (hcu : P.cellsOf u = 1) (hce : P.cellsOf e = 16) (ct : P.cellsOf t = 18)
    (hval : Value.okWide P w r b0 t v) (hd : DataW.Trod enc P w base spare held t v d ps) :
    ∃ (l ws qs : List UInt8) (nw np : Nat) (wv pv : Value), l.length = 16 ∧ v = .agg (l.map B ++ [wv, pv]).toArray ∧ ws.length = nw * 16 ∧ qs.length = np * 16 ∧ Rd w wv nw (ws.map B) ∧ Rd w pv np (qs.map B) := by
  obtain ⟨cs, rfl, _⟩ := okWide_struct ht hval
  obtain ⟨fu, hf⟩ := hd
  obtain ⟨y0, y1, y2, n, _, hl, hy0, hy1, hy2⟩ := Go.Deep.trod_struct3 ht hf
  simp only [Value.cells] at hl hy0 hy1 hy2
  rw [ct] at hl
  rw [o0, c0] at hy0
  rw [o1, c1] at hy1
  rw [o2, c2] at hy2
  obtain ⟨l, hll, he0⟩ := trodBs h0 hu hcu c0 hy0
  obtain ⟨wv, nw, ws, he1, hwl, hqw⟩ := trodSA h1 he hu hcu hce (by decide) hy1
  obtain ⟨pv, np, qs, he2, hpl, hqp⟩ := trodSA h2 he hu hcu hce (by decide) hy2
  have hcut := cut18 cs.toList hl
  rw [he0, he1, he2] at hcut
  refine ⟨l, ws, qs, nw, np, wv, pv, hll, ?_, hwl, hpl, hqw, hqp⟩
  congr 1
  apply Array.ext'
  rw [hcut]
  simp
end
end Go.Fw
end
