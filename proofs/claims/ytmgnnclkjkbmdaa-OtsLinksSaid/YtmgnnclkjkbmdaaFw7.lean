/- The walk of a region that draws its order holds for every order. -/
import Derived.Test.YtmgnnclkjkbmdaaFw6
set_option linter.unusedSimpArgs false
set_option linter.unusedVariables false
namespace Go.Fw
open Go

section
variable {P : Program} {l : List Oper} {n N B1 : Nat} {w1 : World} {Fc0 : List (Nat × Value)} {Ds : List DV} {Q : Exit → Act → World → Prop}

/-- What a slot's known value comes from. -/
theorem factsC_src {lh : List Oper} {ds : Nat → Nat} (hds : ∀ i o, lh[i]? = some o → o.dst = some (ds i)) (hl : Ds.length = lh.length) (hfr : ∀ i o D, lh[i]? = some o → Ds[i]? = some D → fresh (factsC lh Ds Fc0 i) (factsE lh Ds i) (ds i) D) :
    ∀ i, i ≤ lh.length → ∀ s v, look (factsC lh Ds Fc0 i) s = some v → (∃ j, j < i ∧ ds j = s ∧ Ds[j]? = some (.c v)) ∨ (look Fc0 s = some v ∧ ∀ j, j < i → ds j ≠ s) := by
  intro i
  induction i with
  | zero => intro _ s v h; exact .inr ⟨h, fun j hj => by omega⟩
  | succ i ih =>
    intro hi s v h
    have hlt : i < lh.length := by omega
    have ho : lh[i]? = some lh[i] := List.getElem?_eq_getElem hlt
    have hD : Ds[i]? = some (Ds[i]'(by omega)) := List.getElem?_eq_getElem (by omega)
    have hd := hds i _ ho
    have hf := hfr i _ _ ho hD
    simp only [factsC, ho, hD, hd] at h
    generalize hDD : Ds[i]'(by omega) = D at *
    cases D with
    | c u =>
      simp only [addC, look] at h
      by_cases e : ds i = s
      · subst e
        simp at h
        subst h
        exact .inl ⟨i, by omega, rfl, hD⟩
      · rw [Nat.beq_eq_false_of e] at h
        rcases ih (by omega) s v h with ⟨j, hj, h1, h2⟩ | ⟨h1, h2⟩
        · exact .inl ⟨j, by omega, h1, h2⟩
        · exact .inr ⟨h1, fun j hj => by
            by_cases hji : j = i
            · subst hji; exact e
            · exact h2 j (by omega)⟩
    | e E st =>
      simp only [addC] at h
      simp only [fresh] at hf
      have e : ds i ≠ s := fun e => by subst e; rw [hf] at h; cases h
      rcases ih (by omega) s v h with ⟨j, hj, h1, h2⟩ | ⟨h1, h2⟩
      · exact .inl ⟨j, by omega, h1, h2⟩
      · exact .inr ⟨h1, fun j hj => by
          by_cases hji : j = i
          · subst hji; exact e
          · exact h2 j (by omega)⟩

theorem factsE_src {lh : List Oper} {ds : Nat → Nat} (hds : ∀ i o, lh[i]? = some o → o.dst = some (ds i)) (hl : Ds.length = lh.length) :
    ∀ i, i ≤ lh.length → ∀ s E, lookE (factsE lh Ds i) s = some E → ∃ j, j < i ∧ ds j = s ∧ ∃ st, Ds[j]? = some (.e E st) := by
  intro i
  induction i with
  | zero => intro _ s v h; simp [factsE, lookE] at h
  | succ i ih =>
    intro hi s v h
    have hlt : i < lh.length := by omega
    have ho : lh[i]? = some lh[i] := List.getElem?_eq_getElem hlt
    have hD : Ds[i]? = some (Ds[i]'(by omega)) := List.getElem?_eq_getElem (by omega)
    have hd := hds i _ ho
    simp only [factsE, ho, hD, hd] at h
    generalize hDD : Ds[i]'(by omega) = D at *
    cases D with
    | c u =>
      simp only [addE] at h
      obtain ⟨j, hj, h1, h2⟩ := ih (by omega) s v h
      exact ⟨j, by omega, h1, h2⟩
    | e E st =>
      simp only [addE, lookE] at h
      by_cases e : ds i = s
      · subst e
        simp at h
        subst h
        exact ⟨i, by omega, rfl, st, hD⟩
      · rw [Nat.beq_eq_false_of e] at h
        obtain ⟨j, hj, h1, h2⟩ := ih (by omega) s v h
        exact ⟨j, by omega, h1, h2⟩

/-! the tail: the order of the text -/
theorem wpAny_tail (hok : RgOk l.toArray n) : ∀ (m t : Nat) (listed : Array Bool) (a : Act) (w : World), m + t = l.length → n ≤ t → listed.size = l.length → (∀ j, j < l.length → listed.getD j true = decide (j < t)) →
    wpList P l.toArray Q (l.drop t) a w → wpAny P .any l.toArray Q m listed a w
  | 0, t, listed, a, w, hm, hn, hsz, hls, h => by
    have hr : Region.ready .any l.toArray listed = [] := by
      apply List.eq_nil_iff_forall_not_mem.2
      intro i hi
      obtain ⟨h1, o, ho, _⟩ := mem_ready.1 hi
      have hlt : i < l.length := by simpa using (Array.getElem?_eq_some_iff.1 ho).1
      rw [hls i hlt] at h1
      simp at h1
      omega
    refine ⟨hr, ?_⟩
    rw [List.drop_eq_nil_of_le (by omega)] at h
    exact h
  | m + 1, t, listed, a, w, hm, hn, hsz, hls, h => by
    have htl : t < l.length := by omega
    have hready : ∀ i, i ∈ Region.ready .any l.toArray listed → i = t := by
      intro i hi
      obtain ⟨h1, o, ho, hall⟩ := mem_ready.1 hi
      have hlt : i < l.length := by simpa using (Array.getElem?_eq_some_iff.1 ho).1
      rw [hls i hlt] at h1
      simp at h1
      by_cases e : i = t
      · exact e
      · exfalso
        have key := anc_closed (ops := l.toArray) (S := fun j => j < t) (fun i' o' hi' hs' e he hb => Nat.lt_trans (hok.back i' o' hi' e he hb) hs') 24 o t (fun e he hb => by
          have h3 := hall e he hb
          have hlt3 := hok.back i o ho e he hb
          have h4 := hls e.on (by omega)
          simp [show e.on < listed.size by omega] at h3 h4
          rw [h3] at h4
          simpa using h4) (hok.tail i o ho (by omega) t (by omega))
        omega
    have hmem : t ∈ Region.ready .any l.toArray listed := by
      refine mem_ready.2 ⟨by rw [hls t htl]; simp, l[t], by simp [htl], fun e he hb => ?_⟩
      have := hok.back t l[t] (by simp [htl]) e he hb
      have h4 := hls e.on (by omega)
      simp [show e.on < listed.size by omega] at h4 ⊢
      rw [h4]
      simpa using this
    have hstep : ∀ a' w', wpList P l.toArray Q (l.drop (t + 1)) a' w' → wpAny P .any l.toArray Q m (listed.setIfInBounds t true) a' w' := fun a' w' h' =>
      wpAny_tail hok m (t + 1) _ a' w' (by omega) (by omega) (by simpa using hsz) (fun j hj => by
        by_cases e : t = j
        · subst e
          simp [show t < listed.size by omega]
        · rw [getD_set_ne true e, hls j hj]
          simp
          omega) h'
    refine ⟨(fun h0 => by rw [h0] at hmem; cases hmem), fun i hi => ?_⟩
    obtain rfl := hready i hi
    rw [List.drop_eq_getElem_cons htl] at h
    unfold wpList at h
    unfold wpOp
    have hg : l.toArray[i]? = some l[i] := by simp [htl]
    rw [hg]
    dsimp only
    split
    · rename_i hw
      rw [if_pos hw] at h
      exact h.imp (Oper.wp_mono hstep) id
    · rename_i hw
      rw [if_neg hw] at h
      exact hstep _ _ h

/-! the head: any order -/
structure Inv (l : List Oper) (n N B1 : Nat) (w1 : World) (Fc0 : List (Nat × Value)) (Ds : List DV) (vals : Nat → Value) (ents : Nat → List Ent) (listed : Array Bool) (a : Act) (w : World) : Prop where
  size : listed.size = l.length
  know : a.tmps.size = N ∧ a.defers = []
  done : ∀ j d D, j < n → listed.getD j false = true → dstAt l.toArray j = some d → Ds[j]? = some D → a.tmps[d]? = some (vals j) ∧ D.ok (vals j) (ents j) w
  base : ∀ s v, look Fc0 s = some v → (∀ j, j < n → listed.getD j false = true → dstAt l.toArray j ≠ some s) → a.tmps[s]? = some v
  has : Has B1 w ((List.range n).flatMap fun j => if listed.getD j false = true then ents j else [])
  fr : Fr0 w1 w
  tail : ∀ t, n ≤ t → listed.getD t false = false
  closed : ∀ j o, l[j]? = some o → listed.getD j false = true → ∀ e ∈ o.after, Region.binds .any e = true → listed.getD e.on false = true

theorem flatMap_same {α : Type} (f f' : Nat → List α) : ∀ (r : List Nat), (∀ j ∈ r, f' j = f j) → r.flatMap f' = r.flatMap f
  | [], _ => rfl
  | x :: t, h => by simp only [List.flatMap_cons]; rw [h x (by simp), flatMap_same f f' t fun j hj => h j (by simp [hj])]

theorem flatMap_set_perm {α : Type} (f f' : Nat → List α) (i : Nat) (X : List α) (hi : f i = []) (hi' : f' i = X) (hne : ∀ j, j ≠ i → f' j = f j) : ∀ (r : List Nat), r.Nodup → i ∈ r → (r.flatMap f').Perm (X ++ r.flatMap f)
  | [], _, h => by simp at h
  | x :: t, hnd, h => by
    rw [List.nodup_cons] at hnd
    by_cases e : x = i
    · subst e
      have : t.flatMap f' = t.flatMap f := flatMap_same f f' t fun j hj => hne j (fun e => hnd.1 (e ▸ hj))
      simp [hi, hi', this]
    · have hit : i ∈ t := by simpa [Ne.symm e] using h
      have ih := flatMap_set_perm f f' i X hi hi' hne t hnd.2 hit
      simp only [List.flatMap_cons, hne x e]
      refine (List.Perm.append_left _ ih).trans ?_
      rw [← List.append_assoc, ← List.append_assoc]
      exact List.Perm.append_right _ List.perm_append_comm

theorem sublist_flatMap {α : Type} (f : Nat → List α) (i : Nat) : ∀ (r : List Nat), i ∈ r → (f i).Sublist (r.flatMap f)
  | [], h => by simp at h
  | x :: t, h => by
    simp only [List.flatMap_cons]
    by_cases e : i = x
    · subst e; exact List.sublist_append_left _ _
    · exact (sublist_flatMap f i t (by simpa [e] using h)).trans (List.sublist_append_right _ _)

theorem mem_tmpsOf {o : Oper} {s : Nat} (h : Operand.tmp s ∈ o.op.operands) : s ∈ tmpsOf o := List.mem_filterMap.2 ⟨.tmp s, by simpa using h, rfl⟩

theorem not_select {o : Oper} (h : notSelect o = true) : ∀ cs b, o.op ≠ .select cs b := by
  intro cs b e
  simp [notSelect, e] at h

theorem getD_both_iff {listed : Array Bool} {j : Nat} (h : j < listed.size) : listed.getD j true = listed.getD j false := by simp [h]

/-- One step of the head. -/
theorem Inv.step {vals : Nat → Value} {ents : Nat → List Ent} {listed : Array Bool} {a : Act} {w : World} {i : Nat} {K : Act → World → Prop} (hok : RgOk l.toArray n) (hl : Ds.length = n)
    (hparts : ∀ i o, i < n → l[i]? = some o → ∃ d D, o.dst = some d ∧ Ds[i]? = some D ∧ Ob P l.toArray N B1 w1 (factsC (l.take n) Ds Fc0 i) (factsE (l.take n) Ds i) o D ∧ fresh (factsC (l.take n) Ds Fc0 i) (factsE (l.take n) Ds i) d D)
    (hN : ∀ i o d, i < n → l[i]? = some o → o.dst = some d → d < N) (hB : B1 ≤ w1.heap.size)
    (inv : Inv l n N B1 w1 Fc0 Ds vals ents listed a w) (hi : i < n) (hr : i ∈ Region.ready .any l.toArray listed)
    (k : ∀ v L' a' w', Inv l n N B1 w1 Fc0 Ds (fun j => if j = i then v else vals j) (fun j => if j = i then L' else ents j) (listed.setIfInBounds i true) a' w' → K a' w') : wpOp P l.toArray Q i K a w := by
  obtain ⟨hun, o, ho, hall⟩ := mem_ready.1 hr
  have hil : i < l.length := by have := hok.le; simp at this; omega
  have hol : l[i]? = some o := by simpa using ho
  have hunf : listed.getD i false = false := by rw [← getD_both_iff (by rw [inv.size]; exact hil)]; exact hun
  obtain ⟨d, D, hd, hD, hob, hfr⟩ := hparts i o hi hol
  have hdi : dstAt l.toArray i = some d := by simp [dstAt, hol, hd]
  -- the slots, as the text has them
  have hds : ∃ ds : Nat → Nat, ∀ j, j < n → dstAt l.toArray j = some (ds j) := by
    refine ⟨fun j => (dstAt l.toArray j).getD 0, fun j hj => ?_⟩
    have hjl : j < l.length := by have := hok.le; simp at this; omega
    obtain ⟨d', hd'⟩ := hok.dst j l[j] (by simp [hjl]) hj
    simp [dstAt, hjl, hd']
  obtain ⟨ds, hds⟩ := hds
  have htake : (l.take n).length = n := by have := hok.le; simp at this; simp [this]
  have hds' : ∀ j o, (l.take n)[j]? = some o → o.dst = some (ds j) := by
    intro j o' hj
    have hjn : j < n := by have := (List.getElem?_eq_some_iff.1 hj).1; omega
    rw [List.getElem?_take_of_lt hjn] at hj
    have := hds j hjn
    simpa [dstAt, hj] using this
  have hfr' : ∀ j o D, (l.take n)[j]? = some o → Ds[j]? = some D → fresh (factsC (l.take n) Ds Fc0 j) (factsE (l.take n) Ds j) (ds j) D := by
    intro j o' D' hj hDj
    have hjn : j < n := by have := (List.getElem?_eq_some_iff.1 hj).1; omega
    have hj' := hj
    rw [List.getElem?_take_of_lt hjn] at hj'
    obtain ⟨d2, D2, h1, h2, _, h4⟩ := hparts j o' hjn hj'
    rw [hDj] at h2
    obtain rfl := Option.some.inj h2
    have := hds' j o' hj
    rw [h1] at this
    obtain rfl := Option.some.inj this
    exact h4
  have listed_of : ∀ j s, j < n → j ≠ i → s ∈ looks l.toArray o → dstAt l.toArray j = some s → (j < i ∧ listed.getD j false = true) ∨ (i < j ∧ listed.getD j false = false) := by
    intro j s hj hne hs hdj
    rcases hok.use i o s j ho hi hs hj hne hdj with ⟨h1, h2⟩ | ⟨h1, oj, h2, h3⟩
    · obtain ⟨e, he, hb, hon⟩ := waits_spec h2
      exact .inl ⟨h1, hon ▸ hall e he hb⟩
    · refine .inr ⟨h1, ?_⟩
      obtain ⟨e, he, hb, hon⟩ := waits_spec h3
      cases hj2 : listed.getD j false with
      | false => rfl
      | true =>
        have := inv.closed j oj (by simpa using h2) hj2 e he hb
        rw [hon, hunf] at this
        cases this
  have valueC : ∀ s v, s ∈ looks l.toArray o → look (factsC (l.take n) Ds Fc0 i) s = some v → a.tmps[s]? = some v := by
    intro s v hs hv
    rcases factsC_src (Fc0 := Fc0) hds' (by rw [hl, htake]) hfr' i (by omega) s v hv with ⟨j, hj, h1, h2⟩ | ⟨h1, h2⟩
    · have hjn : j < n := by omega
      rcases listed_of j s hjn (by omega) hs (by rw [hds j hjn, h1]) with ⟨_, h3⟩ | ⟨h3, _⟩
      · obtain ⟨h4, h5⟩ := inv.done j s _ hjn h3 (by rw [hds j hjn, h1]) h2
        rw [h4, h5.1]
      · omega
    · refine inv.base s v h1 fun j hjn hj2 hdj => ?_
      by_cases hji : j = i
      · subst hji; rw [hunf] at hj2; cases hj2
      · rcases listed_of j s hjn hji hs hdj with ⟨h3, _⟩ | ⟨_, h3⟩
        · rw [hds j hjn] at hdj
          exact h2 j h3 (Option.some.inj hdj)
        · rw [h3] at hj2; cases hj2
  have hwant : ∀ b, wantedAs l.toArray (factsC (l.take n) Ds Fc0 i) o = some b → Region.wanted o (yielded l.toArray a.tmps) = b := by
    intro b hb
    unfold wantedAs at hb
    unfold Region.wanted
    cases hg : o.guard with
    | none => rw [hg] at hb; simpa using hb
    | some gw =>
      obtain ⟨j, wt⟩ := gw
      rw [hg] at hb
      dsimp only at hb ⊢
      cases hs : (l.toArray[j]?).bind (·.dst) with
      | none => rw [hs] at hb; simp at hb
      | some s =>
        rw [hs] at hb
        simp only [Option.bind_some] at hb
        cases hv : look (factsC (l.take n) Ds Fc0 i) s with
        | none => rw [hv] at hb; simp at hb
        | some v =>
          rw [hv] at hb
          cases v <;> simp at hb
          rename_i c
          have h5 := valueC s _ (List.mem_append_right _ (by rw [hg]; dsimp only; rw [hs]; simp)) hv
          unfold yielded
          rw [hs]
          simp only [Option.bind_some, h5]
          rw [← hb]
          cases c <;> cases wt <;> rfl
  have next : ∀ v L' w', D.ok v L' w' → Fr0 w w' → Has w.heap.size w' L' → K (a.put (some d) v) w' := by
    intro v L' w' hv hf hn
    have hdN := hN i o d hi hol hd
    refine k v L' _ _ ⟨by simpa using inv.size, ⟨by simpa [Act.put] using inv.know.1, inv.know.2⟩, fun j dj Dj hj hlj hdj hDj => ?_, fun s u hu hne => ?_, ?_, inv.fr.trans0 hf, fun t ht => ?_, fun j oj hj hlj e he hb => ?_⟩
    · by_cases hji : j = i
      · subst hji
        rw [hdi] at hdj
        obtain rfl := Option.some.inj hdj
        rw [hD] at hDj
        obtain rfl := Option.some.inj hDj
        refine ⟨?_, by simpa using hv⟩
        simp [Act.put, inv.know.1, hdN]
      · rw [getD_set_ne false (Ne.symm hji)] at hlj
        obtain ⟨h1, h2⟩ := inv.done j dj Dj hj hlj hdj hDj
        have hne : d ≠ dj := fun e => hji (hok.uniq j i d hj hi (by rw [hdj, e]) hdi)
        refine ⟨?_, by simpa [hji] using DV.ok_stable hf h2⟩
        simp only [Act.put, if_neg hji]
        rw [Array.getElem?_setIfInBounds, if_neg hne]
        exact h1
    · have hsd : d ≠ s := fun e => hne i hi (by simp [show i < listed.size by rw [inv.size]; exact hil]) (by rw [hdi, e])
      simp only [Act.put]
      rw [Array.getElem?_setIfInBounds, if_neg hsd]
      refine inv.base s u hu fun j hj hlj => ?_
      by_cases hji : j = i
      · subst hji; rw [hunf] at hlj; cases hlj
      · exact hne j hj (by rw [getD_set_ne false (Ne.symm hji)]; exact hlj)
    · have hp := flatMap_set_perm (fun j => if listed.getD j false = true then ents j else []) (fun j => if (listed.setIfInBounds i true).getD j false = true then (if j = i then L' else ents j) else []) i L'
        (by simp only [hunf]; simp) (by simp [show i < listed.size by rw [inv.size]; exact hil]) (fun j hji => by simp only [getD_set_ne false (Ne.symm hji), if_neg hji]) (List.range n) List.nodup_range (List.mem_range.2 hi)
      exact (inv.has.new hf (Nat.le_trans hB inv.fr.size) hn).perm hp
    · rw [getD_set_ne false (by omega)]
      exact inv.tail t ht
    · by_cases hji : j = i
      · subst hji
        rw [hol] at hj
        obtain rfl := Option.some.inj hj
        have hlt := hok.back j o ho e he hb
        rw [getD_set_ne false (by omega)]
        exact hall e he hb
      · rw [getD_set_ne false (Ne.symm hji)] at hlj
        have h9 := inv.closed j oj hj hlj e he hb
        by_cases hei : i = e.on
        · rw [← hei, hunf] at h9; cases h9
        · rw [getD_set_ne false hei]; exact h9
  unfold wpOp
  rw [ho]
  dsimp only
  rcases hob with ⟨hw, hy⟩ | ⟨hw, rfl⟩
  · rw [if_pos (hwant true hw)]
    left
    -- a frame that has the text's facts, and that the operation cannot tell from this one
    obtain ⟨a', hsz, hdf, ha1, ha2⟩ : ∃ a' : Act, a'.tmps.size = N ∧ a'.defers = [] ∧ (∀ s v, look (factsC (l.take n) Ds Fc0 i) s = some v → a'.tmps[s]? = some v) ∧ (∀ s, s ∈ tmpsOf o → a'.tmps[s]? = a.tmps[s]?) := by
      have hlk : ∀ s v, look (factsC (l.take n) Ds Fc0 i) s = some v → s < N := by
        intro s v hv
        rcases factsC_src (Fc0 := Fc0) hds' (by rw [hl, htake]) hfr' i (by omega) s v hv with ⟨j, hj, h1, h2⟩ | ⟨h1, h2⟩
        · have hjl : j < l.length := by omega
          exact hN j l[j] s (by omega) (by simp [hjl]) (by have := hds j (by omega); rw [h1] at this; simpa [dstAt, hjl] using this)
        · by_cases hex : ∃ j, j < n ∧ dstAt l.toArray j = some s
          · obtain ⟨j, hj, hdj⟩ := hex
            have hjl : j < l.length := by have := hok.le; simp at this; omega
            exact hN j l[j] s hj (by simp [hjl]) (by simpa [dstAt, hjl] using hdj)
          · have := inv.base s v h1 (fun j hj _ hdj => hex ⟨j, hj, hdj⟩)
            have := (Array.getElem?_eq_some_iff.1 this).1
            rw [inv.know.1] at this
            exact this
      refine ⟨⟨Array.ofFn (n := N) fun s => if (tmpsOf o).any (Nat.beq s.1) = true then a.tmps.getD s.1 undef else (look (factsC (l.take n) Ds Fc0 i) s.1).getD (a.tmps.getD s.1 undef), []⟩, by simp, rfl, fun s v hv => ?_, fun s hs => ?_⟩
      · have hsN := hlk s v hv
        simp only [Array.getElem?_ofFn, hsN, dif_pos]
        by_cases hu : (tmpsOf o).any (Nat.beq s) = true
        · rw [if_pos hu]
          have hmem : s ∈ tmpsOf o := by
            obtain ⟨x, hx, hb⟩ := List.any_eq_true.1 hu
            rw [Nat.eq_of_beq_eq_true hb]; exact hx
          have := valueC s v (List.mem_append_left _ hmem) hv
          simp [this]
        · rw [if_neg hu, hv]; rfl
      · have hu : (tmpsOf o).any (Nat.beq s) = true := List.any_eq_true.2 ⟨s, hs, by simp⟩
        by_cases hsN : s < N
        · simp only [Array.getElem?_ofFn, hsN, dif_pos]
          rw [if_pos hu]
          have : s < a.tmps.size := by rw [inv.know.1]; exact hsN
          simp [this]
        · simp only [Array.getElem?_ofFn, hsN]
          rw [Array.getElem?_eq_none (by rw [inv.know.1]; omega)]
          simp
    have hev : execOp a.eval o = execOp a'.eval o := by
      refine execOp_congr o (not_select (hok.sel i o ho)) fun x hx => ?_
      cases x with
      | tmp s =>
        have := ha2 s (mem_tmpsOf hx)
        simp only [Act.eval, Array.getD_eq_getD_getElem?, this]
      | _ => rfl
    have hrc : RC N (factsC (l.take n) Ds Fc0 i) (factsE (l.take n) Ds i) o B1 w1 a' w := by
      refine ⟨⟨hsz, hdf, ha1⟩, inv.fr, fun s E hE hu => ?_⟩
      have hmem : s ∈ tmpsOf o := by
        obtain ⟨x, hx, hb⟩ := List.any_eq_true.1 hu
        rw [Nat.eq_of_beq_eq_true hb]; exact hx
      obtain ⟨j, hj, h1, _, h2⟩ := factsE_src hds' (by rw [hl, htake]) i (by omega) s E hE
      have hjn : j < n := by omega
      rcases listed_of j s hjn (by omega) (List.mem_append_left _ hmem) (by rw [hds j hjn, h1]) with ⟨_, h3⟩ | ⟨h3, _⟩
      · obtain ⟨h4, h5⟩ := inv.done j s _ hjn h3 (by rw [hds j hjn, h1]) h2
        have hsub := sublist_flatMap (fun j => if listed.getD j false = true then ents j else []) j (List.range n) (List.mem_range.2 hjn)
        simp only [h3, if_true] at hsub
        exact ⟨vals j, ents j, by rw [ha2 s hmem]; exact h4, h5, inv.has.pick hsub⟩
      · omega
    have hyl := hy a' w hrc
    rw [← hev] at hyl
    exact wp_of_yl hyl fun v w' ⟨L', h1, h2, h3⟩ => by rw [hd]; exact next v L' w' h1 h2 h3
  · have hw' := hwant false hw
    rw [hw']
    simp only [Bool.false_eq_true, if_false]
    rw [hd]
    exact next undef [] w ⟨rfl, rfl⟩ (.refl _ _) (.nil _ _)
end
end Go.Fw
