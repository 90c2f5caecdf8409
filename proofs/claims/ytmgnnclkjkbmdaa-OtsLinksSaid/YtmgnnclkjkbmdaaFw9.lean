/- The steps of a region's walk; what a slice reads as; append, make. -/
import Derived.Test.YtmgnnclkjkbmdaaFw8
set_option linter.unusedSimpArgs false
set_option linter.unusedVariables false
namespace Go.Fw
open Go

section
variable {P : Program} {ops : Array Oper} {N B1 : Nat} {w1 : World} {K : List (Nat × Value) → Fes → Prop} {Fc : List (Nat × Value)} {Fe : Fes} {rest : List Oper}
variable {d : Tmp} {op : Op} {ty : TypeId} {pos : String} {aft : Array Edge} {x y z : Operand} {t u : TypeId}

theorem RC.ev {o : Oper} {a : Act} {w : World} {x : Operand} {v : Value} (h : RC N Fc Fe o B1 w1 a w) (hx : ev Fc x = some v) : a.eval x = v := h.know.eval hx
theorem RC.blk {o : Oper} {a : Act} {w : World} {g : Nat} {b : Obj} (h : RC N Fc Fe o B1 w1 a w) (hb : w1.heap[g]? = some b) : w.heap[g]? = some b := by
  rw [h.fr.block g (Array.getElem?_eq_some_iff.1 hb).1 id]; exact hb
theorem RC.ent {o : Oper} {a : Act} {w : World} {n : Nat} {E : Value → List Ent → World → Prop} (h : RC N Fc Fe o B1 w1 a w) (hn : lookE Fe n = some E) (hu : (tmpsOf o).any (Nat.beq n) = true) :
    ∃ v L', a.eval (.tmp n) = v ∧ E v L' w ∧ Has B1 w L' := by
  obtain ⟨v, L', h1, h2⟩ := h.ents n E hn hu
  exact ⟨v, L', by simp [Act.eval, h1], h2⟩

theorem rg_nil (h : K Fc Fe) : RG P ops N B1 w1 K Fc Fe [] := h
theorem rg_q {v : Value} (h : ∀ a w, RC N Fc Fe ⟨some d, op, ty, pos, aft, none⟩ B1 w1 a w → (execOp a.eval ⟨some d, op, ty, pos, aft, none⟩).run P w = .ok (.value v) w) (hE : lookE Fe d = none)
    (k : RG P ops N B1 w1 K ((d, v) :: Fc) Fe rest) : RG P ops N B1 w1 K Fc Fe (⟨some d, op, ty, pos, aft, none⟩ :: rest) :=
  ⟨d, .c v, rfl, .inl ⟨rfl, fun a w hc => by rw [h a w hc]; exact ⟨[], ⟨rfl, rfl⟩, .refl _ _, .nil _ _⟩⟩, hE, k⟩
theorem rg_yes {v : Value} {j s : Nat} {b : Bool} (hj : (ops[j]?).bind (·.dst) = some s) (hb : look Fc s = some (.bool b))
    (h : ∀ a w, RC N Fc Fe ⟨some d, op, ty, pos, aft, some (j, b)⟩ B1 w1 a w → (execOp a.eval ⟨some d, op, ty, pos, aft, some (j, b)⟩).run P w = .ok (.value v) w) (hE : lookE Fe d = none)
    (k : RG P ops N B1 w1 K ((d, v) :: Fc) Fe rest) : RG P ops N B1 w1 K Fc Fe (⟨some d, op, ty, pos, aft, some (j, b)⟩ :: rest) :=
  ⟨d, .c v, rfl, .inl ⟨by simp [wantedAs, hj, hb], fun a w hc => by rw [h a w hc]; exact ⟨[], ⟨rfl, rfl⟩, .refl _ _, .nil _ _⟩⟩, hE, k⟩
theorem rg_no {j s : Nat} {b c : Bool} (hj : (ops[j]?).bind (·.dst) = some s) (hb : look Fc s = some (.bool c)) (hne : c = !b) (hE : lookE Fe d = none)
    (k : RG P ops N B1 w1 K ((d, undef) :: Fc) Fe rest) : RG P ops N B1 w1 K Fc Fe (⟨some d, op, ty, pos, aft, some (j, b)⟩ :: rest) :=
  ⟨d, .c undef, rfl, .inr ⟨by subst hne; cases b <;> simp [wantedAs, hj, hb], rfl⟩, hE, k⟩
theorem rg_e (E : Value → List Ent → World → Prop) (st : ∀ v L w w', Fr0 w w' → E v L w → E v L w')
    (h : ∀ a w, RC N Fc Fe ⟨some d, op, ty, pos, aft, none⟩ B1 w1 a w → Yl P (fun v w' => ∃ L', E v L' w' ∧ Fr0 w w' ∧ Has w.heap.size w' L') ((execOp a.eval ⟨some d, op, ty, pos, aft, none⟩).run P w)) (hC : look Fc d = none)
    (k : RG P ops N B1 w1 K Fc ((d, E) :: Fe) rest) : RG P ops N B1 w1 K Fc Fe (⟨some d, op, ty, pos, aft, none⟩ :: rest) :=
  ⟨d, .e E st, rfl, .inl ⟨rfl, h⟩, hC, k⟩
theorem rg_alloc {td : TypeDesc} {sz bytes : Nat} {zs : List Value} (hT : Ty P t td sz bytes zs) (hC : look Fc d = none)
    (k : RG P ops N B1 w1 K Fc ((d, fun v L _ => ∃ g, v = .pointer (some ⟨g, 0, none⟩) ∧ L = [.seg g zs t]) :: Fe) rest) : RG P ops N B1 w1 K Fc Fe (⟨some d, .alloc t, ty, pos, aft, none⟩ :: rest) :=
  rg_e _ (fun _ _ _ _ _ h => h) (fun a w hc => by rw [c_alloc hT]; exact ⟨_, ⟨_, rfl, rfl⟩, .alloc _ _, has_alloc⟩) hC k
theorem rg_box {v : Value} {zs : List Value} (hx : ev Fc x = some v) (hz : v.cells = zs.toArray) (hC : look Fc d = none)
    (k : RG P ops N B1 w1 K Fc ((d, fun v L _ => ∃ g, v = .pointer (some ⟨g, 0, none⟩) ∧ L = [.seg g zs t]) :: Fe) rest) : RG P ops N B1 w1 K Fc Fe (⟨some d, .box t x, ty, pos, aft, none⟩ :: rest) :=
  rg_e _ (fun _ _ _ _ _ h => h) (fun a w hc => by rw [c_box (hc.ev hx), hz]; exact ⟨_, ⟨_, rfl, rfl⟩, .alloc _ _, has_alloc⟩) hC k
theorem rg_bslice {E : TypeId} {ed : TypeDesc} {s bytes n : Nat} {z zs : List Value} {ps : Array (Nat × Operand)} {vs : List Value} (hu : P.underlying t = some (.slice E)) (hE : Ty P E ed s bytes z)
    (hps : ∀ a w, RC N Fc Fe ⟨some d, .buildSlice t n ps, ty, pos, aft, none⟩ B1 w1 a w → Evp a 0 ps.toList vs) (hn : vs.length = n) (hv : ∀ v ∈ vs, v.cells.size = s) (hsmall : n * s ≤ 16777216) (hz : flatCells vs = zs) (hC : look Fc d = none)
    (k : RG P ops N B1 w1 K Fc ((d, fun v L _ => ∃ g, v = .slice (some ⟨g, 0, none⟩) n n ∧ L = [.seg g zs E]) :: Fe) rest) : RG P ops N B1 w1 K Fc Fe (⟨some d, .buildSlice t n ps, ty, pos, aft, none⟩ :: rest) :=
  rg_e _ (fun _ _ _ _ _ h => h) (fun a w hc => by rw [c_bslice hu hE (hps a w hc) hn hv hsmall, hz]; exact ⟨_, ⟨_, rfl, rfl⟩, .alloc _ _, has_alloc⟩) hC k
/-- A call that comes to a known value, whatever has been made. -/
theorem rg_call {f : FuncId} {args : Array Operand} {vs : List Value} {tys : Array TypeId} {c : Value} (hF : Fun P f)
    (hargs : ∀ a w, RC N Fc Fe ⟨some d, .call { callee := .value (.func f), args := args, argTypes := tys }, ty, pos, aft, none⟩ B1 w1 a w → Evs a args.toList vs)
    (hc : ∀ w, Fr0 w1 w → Ctr P f vs w (fun _ => False) fun v _ => v = c) (hE : lookE Fe d = none)
    (k : RG P ops N B1 w1 K ((d, c) :: Fc) Fe rest) : RG P ops N B1 w1 K Fc Fe (⟨some d, .call { callee := .value (.func f), args := args, argTypes := tys }, ty, pos, aft, none⟩ :: rest) :=
  ⟨d, .c c, rfl, .inl ⟨rfl, fun a w h => by
    rw [run_call hF (hargs a w h)]
    exact Calls.mono (hc w h.fr) fun e w' ⟨v, he, hf, hv⟩ => ⟨v, he, [], ⟨hv, rfl⟩, hf, .nil _ _⟩⟩, hE, k⟩
theorem rg_callE {f : FuncId} {args : Array Operand} {tys : Array TypeId} (E : Value → List Ent → World → Prop) (st : ∀ v L w w', Fr0 w w' → E v L w → E v L w') (hF : Fun P f)
    (hc : ∀ a w, RC N Fc Fe ⟨some d, .call { callee := .value (.func f), args := args, argTypes := tys }, ty, pos, aft, none⟩ B1 w1 a w →
      ∃ vs, Evs a args.toList vs ∧ Ctr P f vs w (fun _ => False) fun v w' => ∃ L', E v L' w' ∧ Has w.heap.size w' L') (hC : look Fc d = none)
    (k : RG P ops N B1 w1 K Fc ((d, E) :: Fe) rest) : RG P ops N B1 w1 K Fc Fe (⟨some d, .call { callee := .value (.func f), args := args, argTypes := tys }, ty, pos, aft, none⟩ :: rest) :=
  rg_e E st (fun a w h => by
    obtain ⟨vs, h1, h2⟩ := hc a w h
    rw [run_call hF h1]
    exact Calls.mono h2 fun e w' ⟨v, he, hf, L', hv, hl⟩ => ⟨v, he, L', hv, hf, hl⟩) hC k
end

/-! ### What a slice reads as -/

/-- The cells behind a slice of n elements. -/
def Rd (w : World) (v : Value) (n : Nat) (cs : List Value) : Prop :=
  ∃ ad cap, v = .slice ad n cap ∧ n ≤ cap ∧ cap ≤ maxLen ∧ (ad = none → cap = 0) ∧ (cs = [] ∨ ∃ b o T fr all, ad = some ⟨b, o, none⟩ ∧ w.heap[b]? = some (.cells all T fr) ∧ (all.toList.drop o).take cs.length = cs)

theorem Rd.fr {M : Nat → Prop} {w w' : World} {v : Value} {n : Nat} {cs : List Value} (h : Rd w v n cs) (hf : Fr M w w') (hm : ∀ k, v.ownBlock = some k → ¬ M k) : Rd w' v n cs := by
  obtain ⟨ad, cap, hv, h1, h2, h0, h3⟩ := h
  refine ⟨ad, cap, hv, h1, h2, h0, h3.imp id ?_⟩
  rintro ⟨b, o, T, fr, all, rfl, hb, hc⟩
  refine ⟨b, o, T, fr, all, rfl, ?_, hc⟩
  rw [hf.block b (Array.getElem?_eq_some_iff.1 hb).1 (hm b (by simp [hv, Value.ownBlock]))]
  exact hb
theorem Rd.fr0 {w w' : World} {v : Value} {n : Nat} {cs : List Value} (h : Rd w v n cs) (hf : Fr0 w w') : Rd w' v n cs := h.fr hf fun _ _ => id

theorem Rd.of_seg {w : World} {g cap n : Nat} {T : TypeId} {fr : Nat × Nat} {cs all : List Value} (hb : w.heap[g]? = some (.cells all.toArray T fr)) (hn : n ≤ cap) (hm : cap ≤ maxLen) (hc : all.take cs.length = cs) : Rd w (.slice (some ⟨g, 0, none⟩) n cap) n cs :=
  ⟨_, cap, rfl, hn, hm, fun h => (by cases h), .inr ⟨g, 0, T, fr, _, rfl, hb, by simpa using hc⟩⟩

theorem Rd.of_row {w : World} {v : Value} {n sz : Nat} {T : TypeId} {xs : List Value} (h : w.ownsRow 0 T sz v n xs) : Rd w v n xs := by
  obtain ⟨h1, h2⟩ := h
  rcases h2 with ⟨rfl, rfl⟩ | ⟨g, cap, cur, rfl, _, hc, hn, hm, hs, ht⟩
  · exact ⟨none, 0, rfl, Nat.le_refl _, Nat.zero_le _, fun _ => rfl, .inl (List.eq_nil_of_length_eq_zero (by simpa using h1))⟩
  · exact ⟨_, cap, rfl, hn, hm, fun h => (by cases h), .inr ⟨g, 0, T, (0, 0), cur, rfl, hc, by simpa [h1] using ht⟩⟩

/-- One element's cells. -/
theorem Rd.at_ {w : World} {v : Value} {n : Nat} {cs : List Value} (h : Rd w v n cs) (hne : cs ≠ []) : ∃ b o cap T fr all, v = .slice (some ⟨b, o, none⟩) n cap ∧ n ≤ cap ∧ cap ≤ maxLen ∧ w.heap[b]? = some (.cells all T fr) ∧ (all.toList.drop o).take cs.length = cs := by
  obtain ⟨ad, cap, hv, h1, h2, _, h3⟩ := h
  rcases h3 with h3 | ⟨b, o, T, fr, all, rfl, hb, hc⟩
  · exact absurd h3 hne
  · exact ⟨b, o, cap, T, fr, all, hv, h1, h2, hb, hc⟩

theorem Rd.cut {w : World} {ad : Option Addr} {n cap i sz : Nat} {cs : List Value} (h : Rd w (.slice ad n cap) n cs) (hi : i ≤ n) (hsz : cs.length = n * sz) (hlt : i * sz ≤ cs.length) :
    Rd w (.slice (if cap = i then ad else ad.map (·.add (i * sz))) (n - i) (cap - i)) (n - i) (cs.drop (i * sz)) := by
  obtain ⟨ad', cap', hv, h1, h2, h0, h3⟩ := h
  cases hv
  refine ⟨_, _, rfl, by omega, by omega, fun hn => ?_, ?_⟩
  · split at hn
    · have := h0 hn; omega
    · have := h0 (by simpa using hn); omega
  rcases h3 with h3 | ⟨b, o, T, fr, all, rfl, hb, hc⟩
  · left; rw [h3]; simp
  · by_cases e : cap = i
    · left
      have : i = n := by omega
      subst this
      simp [← hsz]
    · right
      refine ⟨b, o + i * sz, T, fr, all, by simp [e, add_lit], hb, ?_⟩
      rw [← hc]
      simp only [List.length_drop, List.drop_take, List.drop_drop, List.length_take]
      congr 1
      have : cs.length ≤ (all.toList.drop o).length := by rw [← hc]; simp only [List.length_take]; omega
      simp only [List.length_drop] at this ⊢
      omega

section
variable {P : Program} {a : Act} {w : World} {d : Option Tmp} {ty : TypeId} {pos : String} {aft : Array Edge} {g : Option (Nat × Bool)} {x y z : Operand} {t u : TypeId}
theorem c_lenR {T E : TypeId} {v : Value} {n : Nat} {cs : List Value} (hu : P.underlying T = some (.slice E)) (hx : a.eval x = v) (hr : Rd w v n cs) :
    (execOp a.eval ⟨d, .call { callee := .builtin .len, args := #[x], argTypes := #[T] }, ty, pos, aft, g⟩).run P w = .ok (.value (I n)) w := by
  obtain ⟨ad, cap, rfl, _⟩ := hr
  exact c_lenS hu hx
end

/-! ### append, make -/
section
variable {P : Program} {ops : Array Oper} {Q : Exit → Act → World → Prop} {rest : List Oper} {N : Nat} {F F' : List (Nat × Value)} {L L' : List Ent} {M : Nat → Prop} {w0 w : World} {a : Act}
variable {d : Tmp} {op : Op} {ty : TypeId} {pos : String} {aft : Array Edge} {x y z : Operand} {t u : TypeId}

theorem ownBlock_row {w : World} {T : TypeId} {sz n : Nat} {v : Value} {xs : List Value} (h : w.ownsRow 0 T sz v n xs) : ∀ k, v.ownBlock = some k → k < w.heap.size := fun k hk => (h.lt k hk).2

theorem Rd.src {w : World} {u : Value} {m : Nat} {news : List Value} (hr : Rd w u m news) : (u = .slice none 0 0 ∧ m = 0 ∧ news = []) ∨ ∃ ad cap, u = .slice (some ad) m cap ∧ ∀ j v, news[j]? = some v → w.cell? (ad.add j) = some v := by
  obtain ⟨ad, cap, hv, h1, h2, h0, h3⟩ := hr
  cases ad with
  | none =>
    have hc := h0 rfl
    subst hc
    have hm : m = 0 := by omega
    subst hm
    refine .inl ⟨hv, rfl, ?_⟩
    rcases h3 with h3 | ⟨b, o, T, fr, all, h, _⟩
    · exact h3
    · cases h
  | some ad =>
    refine .inr ⟨ad, cap, hv, fun j v hj => ?_⟩
    rcases h3 with h3 | ⟨b, o, T, fr, all, h, hb, hc⟩
    · subst h3; simp at hj
    · cases h
      have hlt : j < news.length := (List.getElem?_eq_some_iff.1 hj).1
      rw [add_lit, cell_of hb]
      rw [← hc, List.getElem?_take_of_lt hlt, List.getElem?_drop] at hj
      simpa using hj

theorem run_append2 {ty E : TypeId} {ed : TypeDesc} {sz bytes n m : Nat} {zs xs news : List Value} {v u : Value} (hu : P.underlying t = some (.slice E)) (hE : Ty P E ed sz bytes zs) (hsz : 0 < sz)
    (hown : w.ownsRow 0 E sz v n xs) (hr : Rd w u m news) (hl : news.length = m * sz) (h1 : news.all (·.oneCell') = true) (h63 : n + m ≤ maxLen) (hby : (n + m) * bytes ≤ 140737488355328) :
    ∃ v' w', (Builtin.append_ #[t, t] ty #[v, u]).run P w = .ok v' w' ∧ w'.ownsRow 0 E sz v' (n + m) (xs ++ news) ∧ w.grownBy w' v.ownBlock ∧ (v' = .slice none 0 0 ↔ v = .slice none 0 0 ∧ m = 0) ∧
      (∀ k, v'.ownBlock = some k → v.ownBlock = some k ∨ w.heap.size ≤ k) := by
  obtain ⟨inf, hi1, hi2, hi3, zv, hi4, hi5⟩ := hE.info
  have hzs : zv.cells.size = sz := by rw [hi5]; simp [hE.len]
  rcases hr.src with ⟨rfl, rfl, rfl⟩ | ⟨ad, cap, rfl, hnews⟩
  · exact ⟨v, w, run_append_owned_none w 0 t ty E inf sz hu hi1 v n xs hown, by simpa using hown, ⟨rfl, rfl, rfl, Nat.le_refl _, fun _ _ _ => rfl⟩, by simp, fun k hk => .inl hk⟩
  · have h1' : ∀ u ∈ news, u.oneCell' = true := fun u hu => List.all_eq_true.1 h1 u hu
    obtain ⟨v', w', hrun, ho, hg, hnil⟩ := run_append_own (P := P) w 0 t ty E inf zv sz bytes hu hi1 hi4 hi2 hi3 hzs hsz v n xs hown ad m cap news hl hnews h1' h63 hby (Nat.zero_le _)
    refine ⟨v', w', hrun, ho, hg, hnil, fun k hk => ?_⟩
    have hml : n + m ≤ 9223372036854775807 := by simp only [maxLen] at h63; omega
    rcases hown.2 with ⟨rfl, rfl⟩ | ⟨g, cp, cur, rfl, hbg, hgc, hnc, hcm, hcs, htake⟩
    · by_cases hm : m = 0
      · have := hnil.2 ⟨rfl, hm⟩
        rw [this] at hk
        cases hk
      · have hr2 := run_append_nil (P := P) w t ty E inf zv hu hi1 hi4 ad m cap news (by rw [hl, hi2]) hnews (by omega) (by omega) (by rw [hi3]; simp only [Nat.zero_add] at hby; omega)
        rw [hrun] at hr2
        have := (Result.ok.inj hr2).1
        subst this
        simp [Value.ownBlock] at hk
        omega
    · by_cases hroom : n + m ≤ cp
      · have hfit : n * inf.size + news.length ≤ cur.size := by rw [hl, hi2, hcs, ← Nat.add_mul]; exact Nat.mul_le_mul_right _ hroom
        have hr2 := run_append_room (P := P) w t ty E inf hu hi1 g n cp cur hgc ad m cap news (by rw [hl, hi2]) hnews h1' hroom hfit
        rw [hrun] at hr2
        have := (Result.ok.inj hr2).1
        subst this
        exact .inl hk
      · have holds : ∀ j u, xs[j]? = some u → w.cell? ((⟨g, 0, none⟩ : Addr).add j) = some u := hown.cells (g := g) rfl
        have hr2 := run_append_grow (P := P) w t ty E inf zv hu hi1 hi4 ⟨g, 0, none⟩ n cp xs (by rw [hown.1, hi2]) holds ad m cap news (by rw [hl, hi2]) hnews (by omega) (by omega) (growslice_fits (by omega) (by rw [hi3]; exact hby))
        rw [hrun] at hr2
        have := (Result.ok.inj hr2).1
        subst this
        simp [Value.ownBlock] at hk
        omega

/-- 'v = append(v, news...)', v one of the things. -/
theorem s_append {i : Nat} {s0 x0 : Operand} {E ty : TypeId} {ed : TypeDesc} {sz bytes n m : Nat} {zs xs news : List Value} {v u : Value} (hs : St N F L M w0 a w) (hu : P.underlying t = some (.slice E)) (hE : Ty P E ed sz bytes zs) (hsz : 0 < sz)
    (hv : ev F s0 = some v) (hx : ev F x0 = some u) (hi : L[i]? = some (.row v n xs E sz)) (hr : Rd w u m news) (hl : news.length = m * sz) (h1 : news.all (·.oneCell') = true)
    (h63 : n + m ≤ maxLen) (hby : (n + m) * bytes ≤ 140737488355328) (hd : Nat.blt d N = true)
    (k : ∀ a w' v', Fr (Ent.keys (.row v n xs E sz)) w w' → (v' = .slice none 0 0 ↔ v = .slice none 0 0 ∧ m = 0) → St N ((d, v') :: F) (L.set i (.row v' (n + m) (xs ++ news) E sz)) M w0 a w' → wpList P ops Q rest a w') :
    wpList P ops Q (⟨some d, .call { callee := .builtin .append, args := #[s0, x0], argTypes := #[t, t] }, ty, pos, aft, none⟩ :: rest) a w := by
  have hown : w.ownsRow 0 E sz v n xs := hs.get hi
  obtain ⟨v', w', hrun, ho', hg, hnil, hblk⟩ := run_append2 (P := P) (w := w) (ty := ty) hu hE hsz hown hr hl h1 h63 hby
  have hrun' : (execOp a.eval ⟨some d, .call { callee := .builtin .append, args := #[s0, x0], argTypes := #[t, t] }, ty, pos, aft, none⟩).run P w = .ok (.value v') w' := by
    simp [execOp, resolve, invoke, builtin, hs.ev hv, hs.ev hx, hrun]
  refine wpList_plain rfl fun K hK => upon_value hrun' (hK _ _ (k _ _ v' (.grown hg) hnil ?_))
  exact (hs.mod (e' := .row v' (n + m) (xs ++ news) E sz) hi (Fr.grown hg) ho' fun k hk => ⟨hblk k hk, ownBlock_row ho' k hk⟩).put (lt_of_blt hd) v'

/-- A nil slice, as a thing that may grow. -/
theorem St.nilrow (hs : St N F L M w0 a w) (E : TypeId) (sz : Nat) : St N F (.row (.slice none 0 0) 0 [] E sz :: L) M w0 a w :=
  hs.new (L' := [.row (.slice none 0 0) 0 [] E sz]) (.refl _ _) ⟨by intro e he; simp at he; subst he; exact World.ownsRow_nil _ _ _ _, List.pairwise_singleton _ _, (by intro e he k hk; simp at he; subst he; cases hk), (by intro e he k hk; simp at he; subst he; cases hk)⟩

/-- A literal, as a thing that may grow. -/
theorem St.segrow {i gb n sz : Nat} {cs : List Value} {E : TypeId} (hs : St N F L M w0 a w) (hi : L[i]? = some (.seg gb cs E)) (hl : cs.length = n * sz) (hn : n ≤ maxLen) :
    St N F (L.set i (.row (.slice (some ⟨gb, 0, none⟩) n n) n cs E sz)) M w0 a w :=
  hs.mod hi (.refl _ _) ⟨hl, .inr ⟨gb, n, cs.toArray, rfl, Nat.zero_le _, hs.seg hi, Nat.le_refl _, hn, by simp [hl], by simp [← hl]⟩⟩ fun k hk => by
    have h2 := hs.has.lt _ (List.mem_of_getElem? hi)
    simp [Ent.keys, Value.ownBlock] at hk
    subst hk
    exact ⟨.inl rfl, h2 gb rfl⟩

theorem has_row {v : Value} {n sz : Nat} {xs : List Value} {E : TypeId} (h : w.ownsRow w0.heap.size E sz v n xs) : Has w0.heap.size w [.row v n xs E sz] :=
  ⟨by
    intro e he
    simp at he
    subst he
    exact ⟨h.1, h.2.imp id fun ⟨g, cap, cur, h1, h2, r⟩ => ⟨g, cap, cur, h1, Nat.zero_le _, r⟩⟩, List.pairwise_singleton _ _, by intro e he k hk; simp at he; subst he; exact (h.lt k hk).2, by intro e he k hk; simp at he; subst he; exact (h.lt k hk).1⟩

theorem flatten_rep {α : Type} (zs : List α) {sz : Nat} (hz : zs.length = sz) (hpos : 0 < sz) : ∀ (n j : Nat), j < n * sz → (List.replicate n zs).flatten[j]? = zs[j % sz]?
  | 0, j, h => by omega
  | n + 1, j, h => by
    rw [List.replicate_succ, List.flatten_cons]
    by_cases hjs : j < sz
    · rw [List.getElem?_append_left (by omega), Nat.mod_eq_of_lt hjs]
    · rw [List.getElem?_append_right (by omega), hz, flatten_rep zs hz hpos n (j - sz) (by rw [Nat.succ_mul] at h; omega)]
      congr 1
      rw [← Nat.mod_eq_sub_mod (by omega)]

/-- 'make([]T, n)' -/
theorem s_make {E : TypeId} {ed : TypeDesc} {sz bytes n : Nat} {zs : List Value} {k1 k2 : IntKind} {i1 i2 : Int} (hs : St N F L M w0 a w) (hu : P.underlying t = some (.slice E)) (hE : Ty P E ed sz bytes zs) (h1 : ev F x = some (.int k1 i1)) (h2 : ev F y = some (.int k2 i2))
    (hi1 : i1 = (n : Int)) (hi2 : i2 = (n : Int)) (hby : bytes * n ≤ 281474976710656) (h63 : n ≤ maxLen) (hd : Nat.blt d N = true)
    (k : ∀ a w gb, St N ((d, .slice (some ⟨gb, 0, none⟩) n n) :: F) (.seg gb (List.replicate n zs).flatten E :: L) M w0 a w → wpList P ops Q rest a w) :
    wpList P ops Q (⟨some d, .makeSlice t x y, ty, pos, aft, none⟩ :: rest) a w := by
  subst hi1; subst hi2
  obtain ⟨inf, hi1, hi2, hi3, zv, hi4, hi5⟩ := hE.info
  have h63' : (n : Int) ≤ 9223372036854775807 := by simp only [maxLen] at h63; omega
  have hb' : (inf.bytes : Int) * (n : Int) ≤ 281474976710656 := by
    have h : ((bytes * n : Nat) : Int) ≤ 281474976710656 := by omega
    rwa [Int.natCast_mul, ← hi3] at h
  have hr := run_make (P := P) w t E inf zv hu hi1 hi4 k1 k2 n n (by omega) (Int.le_refl _) hb' h63'
  simp only [Int.toNat_natCast] at hr
  have hcells : madeCells zv.cells (n * inf.size) = (List.replicate n zs).flatten.toArray := by
    rw [hi5, hi2]
    apply Array.ext'
    apply List.ext_getElem?
    intro j
    have hzl := hE.len
    by_cases hj : j < n * sz
    · have hpos : 0 < sz := by
        by_cases e : sz = 0
        · subst e; omega
        · omega
      have e1 := flatten_rep zs hzl hpos n j hj
      have hm : j % sz < zs.length := by rw [hzl]; exact Nat.mod_lt _ hpos
      simp only [madeCells, Array.toList_map, Array.toList_range, e1]
      rw [List.getElem?_map, List.getElem?_range hj]
      simp [hzl, List.getElem?_eq_getElem hm]
    · have e2 : (List.replicate n zs).flatten.length = n * sz := by simp [hzl]
      rw [List.getElem?_eq_none (by simp [madeCells]; omega), List.getElem?_eq_none (by simp [hzl]; omega)]
  rw [hcells] at hr
  refine s_new hs (L' := [.seg w.heap.size _ E]) (w' := w.alloc (.cells (List.replicate n zs).flatten.toArray E)) ?_ hd (.alloc _ _) has_alloc fun a hs => k a _ _ hs
  simp [execOp, hs.ev h1, hs.ev h2, hr]
end
end Go.Fw
