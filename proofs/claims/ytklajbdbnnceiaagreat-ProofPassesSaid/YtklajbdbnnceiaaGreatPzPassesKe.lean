/- Own texts of this seat, laid together for one claim (with what its proof uses alone). -/
import Derived.Test.YtklajbdbnnceiaaGreatPzPassesKd
section
/- Regions that draw, with several stores at the end, behind which plain turnings may still be late. -/
set_option linter.unusedSimpArgs false
set_option linter.unusedVariables false
namespace Go.Fw
open Go
section
variable {P : Program} {l : List Oper} {n N B1 : Nat} {w1 : World} {Fc0 : List (Nat × Value)} {Ds : List DV} {Q : Exit → Act → World → Prop} {late : List Nat}
def lateBK (l : List Oper) (n K : Nat) (J : List Nat) : Bool :=
  ((List.range (K + 1)).all fun i => match l[n + i]? with | some o => (match o.guard with | none => notSelect o | _ => false) | none => false) &&
  ((l.drop (n + (K + 1))).all fun o => turnB o || J.all fun j => anc l.toArray 24 o j) &&
  (J.all fun j => match l[j]? with
    | none => false
    | some o => ((opnd o).isSome || needQ o) && match o.dst with
      | some d => ((tmpsOf o).all fun s => (J.all fun j' => !(dstAt l.toArray j' == some s) || waits o j') && ((l.drop n).all fun o' => !(o'.dst == some s))) && ((l.drop n).all fun o' => !(o'.dst == some d) && (!((tmpsOf o').any (Nat.beq d)) || waits o' j))
      | _ => false)
structure LateK (l : List Oper) (n K : Nat) (J : List Nat) : Prop where
  op : ∀ j ∈ J, ∃ o d, l[j]? = some o ∧ ((opnd o).isSome = true ∨ needQ o = true) ∧ o.dst = some d ∧ (∀ s ∈ tmpsOf o, (∀ j' ∈ J, dstAt l.toArray j' = some s → waits o j' = true) ∧ ∀ t o', n ≤ t → l[t]? = some o' → o'.dst ≠ some s) ∧ ∀ t o', n ≤ t → l[t]? = some o' → o'.dst ≠ some d ∧ (d ∈ tmpsOf o' → waits o' j = true)
  tl : ∀ t o, n + (K + 1) ≤ t → l[t]? = some o → turnB o = true ∨ ∀ j ∈ J, anc l.toArray 24 o j = true
  hd : ∀ i, i < K + 1 → ∃ o, l[n + i]? = some o ∧ o.guard = none ∧ notSelect o = true
theorem lateBK_spec {l : List Oper} {n K : Nat} {J : List Nat} (h : lateBK l n K J = true) : LateK l n K J := by
  unfold lateBK at h
  simp only [Bool.and_eq_true] at h
  obtain ⟨⟨h1, h2⟩, h3⟩ := h
  refine ⟨fun j hj => ?_, fun t o ht ho => ?_, fun i hi => ?_⟩
  · have h4 := List.all_eq_true.1 h3 j hj
    cases ho : l[j]? with
    | none => rw [ho] at h4; cases h4
    | some o =>
      rw [ho] at h4
      dsimp only at h4
      rw [Bool.and_eq_true] at h4
      obtain ⟨h4, h5⟩ := h4
      cases hd : o.dst with
      | none => rw [hd] at h5; cases h5
      | some d =>
        rw [hd] at h5
        dsimp only at h5
        rw [Bool.and_eq_true] at h5
        refine ⟨o, d, rfl, by simpa using h4, hd, fun s hs => ?_, fun t o' ht ho' => ?_⟩
        · have h6 := List.all_eq_true.1 h5.1 s hs
          rw [Bool.and_eq_true] at h6
          exact ⟨fun j' hj' e => by
            have h7 := List.all_eq_true.1 h6.1 j' hj'
            rw [e] at h7
            simpa using h7, fun t o' ht ho' => by simpa using List.all_eq_true.1 h6.2 o' (mem_drop_at ht ho')⟩
        · have h6 := List.all_eq_true.1 h5.2 o' (mem_drop_at ht ho')
          simp only [Bool.and_eq_true, Bool.or_eq_true, Bool.not_eq_true', beq_eq_false_iff_ne, ne_eq] at h6
          refine ⟨h6.1, fun hm => h6.2.resolve_left fun hn => ?_⟩
          have : (tmpsOf o').any (Nat.beq d) = true := List.any_eq_true.2 ⟨d, hm, by simp⟩
          rw [hn] at this
          cases this
  · have h5 := List.all_eq_true.1 h2 o (mem_drop_at (n := n + (K + 1)) (by omega) ho)
    rw [Bool.or_eq_true] at h5
    exact h5.imp id fun h j hj => List.all_eq_true.1 h j hj
  · replace h1 := List.all_eq_true.1 h1 i (List.mem_range.2 hi)
    cases ho : l[n + i]? with
    | none => rw [ho] at h1; cases h1
    | some o =>
      rw [ho] at h1
      dsimp only at h1
      cases hg : o.guard with
      | some g => rw [hg] at h1; cases h1
      | none => rw [hg] at h1; exact ⟨o, rfl, hg, h1⟩
/-- The tail's first operations, and the rest of the tail. -/
def Firsts (P : Program) (ops : Array Oper) (Q : Exit → Act → World → Prop) (l : List Oper) (J : List Nat) : Nat → List Oper → Act → World → Prop
  | 0, rest, a, w => wpList P ops Q rest a w
  | _ + 1, [], _, _ => False
  | k + 1, on :: rest, a, w => ∃ nx w2 v, (execOp a.eval on).run P w = .ok nx w2 ∧ ((nx = .skip ∧ v = undef) ∨ nx = .value v) ∧ lateOk P l (a.put on.dst v) w2 J ∧ Firsts P ops Q l J k rest (a.put on.dst v) w2
theorem wpAny_lagK {J : List Nat} {K : Nat} (hok : RgOk l.toArray n J) (hL : LateK l n K J) :
    ∀ (m : Nat) (U : List Nat) (t : Nat) (listed : Array Bool) (a b : Act) (w : World), U.length = m → U.Nodup → (∀ j, j ∈ U ↔ j < l.length ∧ listed.getD j false = false) → listed.size = l.length → n ≤ t →
      (∀ j, j < l.length → j ∉ J → listed.getD j false = decide (j < t)) → (∀ j o, l[j]? = some o → listed.getD j false = true → ∀ e ∈ o.after, Region.binds .any e = true → listed.getD e.on false = true) →
      Lag P l J listed a b w → ((∃ r, t + (r + 1) = n + (K + 1) ∧ Firsts P l.toArray Q l J (r + 1) (l.drop t) b w) ∨ (n + (K + 1) ≤ t ∧ wpList P l.toArray Q (l.drop t) b w)) →
      wpAny P .any l.toArray Q m listed a w := by
  intro m
  have hJ : ∀ t, n ≤ t → t ∉ J := fun t ht h => by have := hok.lateLt t h; omega
  have hnl : n ≤ l.length := by have := hok.le; simpa using this
  induction m with
  | zero =>
    intro U t listed a b w hU hnd hmem hsz hnt hls hcl hlag H
    have hU0 : U = [] := List.eq_nil_of_length_eq_zero hU
    subst hU0
    have hall : ∀ j, j < l.length → listed.getD j false = true := fun j hj => by
      cases hx : listed.getD j false with
      | true => rfl
      | false => have := (hmem j).2 ⟨hj, hx⟩; simp at this
    have htl : l.length ≤ t := by
      apply Classical.byContradiction
      intro h
      have h1 := hls t (by omega) (hJ t hnt)
      rw [hall t (by omega)] at h1
      simp at h1
    have hab : a = b := hlag.eq fun j hj => hall j (by have := hok.lateLt j hj; omega)
    subst hab
    refine ⟨?_, ?_⟩
    · apply List.eq_nil_iff_forall_not_mem.2
      intro i hi
      obtain ⟨h1, o, ho, _⟩ := mem_ready.1 hi
      have hlt : i < l.length := by simpa using (Array.getElem?_eq_some_iff.1 ho).1
      rw [getD_both_iff (by omega), hall i hlt] at h1
      cases h1
    · rcases H with ⟨r, h1, _⟩ | ⟨_, h⟩
      · obtain ⟨o, h2, _⟩ := hL.hd (t - n) (by omega)
        have := (List.getElem?_eq_some_iff.1 h2).1
        omega
      · rw [List.drop_eq_nil_of_le htl] at h
        exact h
  | succ m ih =>
    intro U t listed a b w hU hnd hmem hsz hnt hls hcl hlag H
    obtain ⟨u, hu⟩ : ∃ u, u ∈ U := List.exists_mem_of_length_pos (by omega)
    have hu2 := (hmem u).1 hu
    refine ⟨fun h0 => ?_, fun i hi => ?_⟩
    · obtain ⟨i, hi⟩ := exists_ready hok hsz u hu2.1 hu2.2
      rw [h0] at hi; cases hi
    · have hi0 := hi
      obtain ⟨hi1, o, ho, hall⟩ := mem_ready.1 hi
      have hil : i < l.length := by simpa using (Array.getElem?_eq_some_iff.1 ho).1
      rw [getD_both_iff (by omega)] at hi1
      have hol : l[i]? = some o := by simpa using ho
      have hiU : i ∈ U := (hmem i).2 ⟨hil, hi1⟩
      have hlen : (U.erase i).length = m := by rw [List.length_erase_of_mem hiU, hU]; simp
      have hcl2 : ∀ j o, l[j]? = some o → (listed.setIfInBounds i true).getD j false = true → ∀ e ∈ o.after, Region.binds .any e = true → (listed.setIfInBounds i true).getD e.on false = true := by
        intro j oj hj hlj e he hb
        have up : ∀ k, listed.getD k false = true → (listed.setIfInBounds i true).getD k false = true := fun k hk => by
          by_cases e : i = k
          · subst e; simp [show i < listed.size by omega]
          · rw [getD_set_ne false e]; exact hk
        by_cases hji : j = i
        · subst hji
          rw [hol] at hj
          obtain rfl := Option.some.inj hj
          exact up _ (hall e he hb)
        · rw [getD_set_ne false (Ne.symm hji)] at hlj
          exact up _ (hcl j oj hj hlj e he hb)
      by_cases hiJ : i ∈ J
      · -- a late one
        obtain ⟨o', d, h1, h2, h3, h4, h5⟩ := hL.op i hiJ
        rw [hol] at h1
        obtain rfl := Option.some.inj h1
        obtain ⟨v, hv, hr⟩ := hlag.run i hiJ hi1 o d hol h3
        rw [← eval_same (a := a) (late_sel h2) fun s hs => hlag.same s fun j' hj' hlj' hdj' => by
          obtain ⟨e, he, hb, hon⟩ := waits_spec ((h4 s hs).1 j' hj' hdj')
          have := hall e he hb
          rw [hon, hlj'] at this
          cases this] at hr
        have hda : d < a.tmps.size := by rw [← hlag.size]; exact (Array.getElem?_eq_some_iff.1 hv).1
        have hdi : dstAt l.toArray i = some d := by simp [dstAt, hol, h3]
        unfold wpOp
        rw [ho]
        dsimp only
        rw [if_pos (by simp [Region.wanted, late_guard h2])]
        left
        refine upon_value hr ?_
        rw [h3]
        refine ih (U.erase i) t _ _ b w hlen (hnd.erase i) (erase_mem hnd hsz hil hmem) (by simpa using hsz) hnt (fun j hj hjJ => ?_) hcl2 ⟨by simp [Act.put, hlag.size], hlag.defers, fun s' hs' => ?_, fun j hj hlj oj d' hoj hdj => ?_⟩ H
        · rw [getD_set_ne false (show i ≠ j from fun e => hjJ (e ▸ hiJ))]
          exact hls j hj hjJ
        · by_cases e : d = s'
          · subst e
            rw [hv]
            simp [Act.put, hda]
          · simp only [Act.put]
            rw [Array.getElem?_setIfInBounds, if_neg e]
            refine hlag.same s' fun j hj hlj hdj => ?_
            by_cases hji : j = i
            · subst hji
              rw [hdi] at hdj
              exact e (Option.some.inj hdj)
            · exact hs' j hj (by rw [getD_set_ne false (Ne.symm hji)]; exact hlj) hdj
        · by_cases hji : j = i
          · subst hji
            simp [show j < listed.size by omega] at hlj
          · rw [getD_set_ne false (Ne.symm hji)] at hlj
            exact hlag.run j hj hlj oj d' hoj hdj
      · -- the tail's next
        have hit : i = t := by
          have h1 := hls i hil hiJ
          rw [hi1] at h1
          have h2 : ¬ i < t := by simpa using h1.symm
          apply Classical.byContradiction
          intro hne
          have key := anc_closed (ops := l.toArray) (S := fun j => listed.getD j false = true) (fun i' o' hi' hs' e he hb => hcl i' o' (by simpa using hi') hs' e he hb) 24 o t (fun e he hb => hall e he hb) ((hok.tail i o ho (by omega) t (by omega)).resolve_left (hJ t hnt))
          rw [hls t (by omega) (hJ t hnt)] at key
          simp at key
        subst hit
        have heq : ∀ s, s ∈ tmpsOf o → b.tmps[s]? = a.tmps[s]? := fun s hs => hlag.same s fun j hj hlj hdj => by
          obtain ⟨oj, dj, h1, h2, h3, h4, h5⟩ := hL.op j hj
          have : dj = s := by simp [dstAt, h1, h3] at hdj; exact hdj
          subst this
          obtain ⟨e, he, hb, hon⟩ := waits_spec ((h5 i o hnt hol).2 hs)
          have := hall e he hb
          rw [hon, hlj] at this
          cases this
        have hlsn : ∀ j, j < l.length → j ∉ J → (listed.setIfInBounds i true).getD j false = decide (j < i + 1) := fun j hj hjJ => by
          by_cases e : i = j
          · subst e
            simp [show i < listed.size by omega]
          · rw [getD_set_ne false e, hls j hj hjJ]
            simp
            omega
        have hsm : ∀ s, (∀ j ∈ J, (listed.setIfInBounds i true).getD j false = false → dstAt l.toArray j ≠ some s) → b.tmps[s]? = a.tmps[s]? := fun s hs => hlag.same s fun j hj hlj => hs j hj (by rw [getD_set_ne false (show i ≠ j from fun e => hiJ (e ▸ hj))]; exact hlj)
        have lagged : ∀ v w2, (∀ j ∈ J, listed.getD j false = false → ∀ oj dj, l[j]? = some oj → oj.dst = some dj → ∃ u, (b.put o.dst v).tmps[dj]? = some u ∧ (execOp (b.put o.dst v).eval oj).run P w2 = .ok (.value u) w2) → Lag P l J (listed.setIfInBounds i true) (a.put o.dst v) (b.put o.dst v) w2 := fun v w2 hr => by
          have hr' : ∀ j ∈ J, (listed.setIfInBounds i true).getD j false = false → ∀ oj dj, l[j]? = some oj → oj.dst = some dj → ∃ u, (b.put o.dst v).tmps[dj]? = some u ∧ (execOp (b.put o.dst v).eval oj).run P w2 = .ok (.value u) w2 := fun j hj hlj => hr j hj (by rw [getD_set_ne false (show i ≠ j from fun e => hiJ (e ▸ hj))] at hlj; exact hlj)
          cases hd : o.dst with
          | none => rw [hd] at hr'; exact ⟨hlag.size, hlag.defers, hsm, hr'⟩
          | some d =>
            rw [hd] at hr'
            refine ⟨by simp [Act.put, hlag.size], hlag.defers, fun s hs => ?_, hr'⟩
            simp only [Act.put]
            rw [Array.getElem?_setIfInBounds, Array.getElem?_setIfInBounds, hlag.size, hsm s hs]
        have putd : ∀ v dj, o.dst ≠ some dj → (b.put o.dst v).tmps[dj]? = b.tmps[dj]? := fun v dj h => by
          cases hd : o.dst with
          | none => rfl
          | some d =>
            have : d ≠ dj := fun e => h (by rw [hd, e])
            simp only [Act.put]
            rw [Array.getElem?_setIfInBounds, if_neg this]
        have pure1 : ∀ v w2 j, j ∈ J → listed.getD j false = false → ∀ oj dj, l[j]? = some oj → oj.dst = some dj → ((opnd oj).isSome = true ∨ w2 = w) → ∃ u, (b.put o.dst v).tmps[dj]? = some u ∧ (execOp (b.put o.dst v).eval oj).run P w2 = .ok (.value u) w2 := fun v w2 j hj hlj oj dj hoj hdj hor => by
          obtain ⟨u, k1, k2⟩ := hlag.run j hj hlj oj dj hoj hdj
          obtain ⟨o3, d3, q1, q2, q3, q4, q5⟩ := hL.op j hj
          rw [hoj] at q1
          obtain rfl := Option.some.inj q1
          rw [hdj] at q3
          obtain rfl := Option.some.inj q3
          refine ⟨u, by rw [putd v dj (q5 i o hnt hol).1]; exact k1, ?_⟩
          rw [tm_put (late_sel q2) fun s hs e => (q4 s hs).2 i o hnt hol e]
          rcases hor with hor | rfl
          · obtain ⟨s, hs⟩ := Option.isSome_iff_exists.1 hor
            obtain ⟨u', hu'⟩ := late_all (w := w) (R := fun _ _ => True) hs (by rw [k2]; trivial)
            have := hu' w
            rw [k2] at this
            obtain rfl := Next.value.inj (Result.ok.inj this).1
            exact hu' w2
          · exact k2
        rcases H with ⟨r, h1, hF⟩ | ⟨hlt, h⟩
        · rw [List.drop_eq_getElem_cons hil] at hF
          have hoe : l[i] = o := by
            rw [List.getElem?_eq_getElem hil] at hol
            exact Option.some.inj hol
          rw [hoe] at hF
          obtain ⟨nx, w2, v, h2, hnx, hlo, h3⟩ := hF
          unfold wpOp
          rw [ho]
          dsimp only
          obtain ⟨on', k1, k2, k4⟩ := hL.hd (i - n) (by omega)
          rw [show n + (i - n) = i by omega, hol] at k1
          obtain rfl := Option.some.inj k1
          rw [if_pos (by simp [Region.wanted, k2])]
          left
          rw [← eval_same (not_select k4) heq] at h2
          have hnext : wpAny P .any l.toArray Q m (listed.setIfInBounds i true) (a.put o.dst v) w2 := by
            refine ih (U.erase i) (i + 1) _ _ (b.put o.dst v) w2 hlen (hnd.erase i) (erase_mem hnd hsz hil hmem) (by simpa using hsz) (by omega) hlsn hcl2 (lagged v w2 fun j hj hlj oj dj hoj hdj => ?_) (by cases r with
              | zero => exact .inr ⟨by omega, h3⟩
              | succ r => exact .inl ⟨r, by omega, h3⟩)
            cases hop : opnd oj with
            | some s => exact pure1 v w2 j hj hlj oj dj hoj hdj (.inl (by rw [hop]; rfl))
            | none =>
              obtain ⟨u, r1, r2⟩ := lateOk_at hlo j hj oj dj hoj hdj hop
              obtain ⟨o3, d3, q1, q2, q3, q4, q5⟩ := hL.op j hj
              rw [hoj] at q1
              obtain rfl := Option.some.inj q1
              exact ⟨u, r1, r2⟩
          rcases hnx with ⟨rfl, rfl⟩ | rfl
          · exact upon_skip h2 hnext
          · exact upon_value h2 hnext
        · rcases hL.tl i o hlt hol with hturn | hbar
          · unfold wpOp
            rw [ho]
            dsimp only
            rw [List.drop_eq_getElem_cons hil] at h
            have hoe : l[i] = o := by
              rw [List.getElem?_eq_getElem hil] at hol
              exact Option.some.inj hol
            rw [hoe] at h
            obtain ⟨hg, hop⟩ : o.guard = none ∧ ((∃ x, o.op = .move x) ∨ ∃ x, o.op = .assign x) := by
              unfold turnB at hturn
              cases hg : o.guard with
              | some g => rw [hg] at hturn; cases hturn
              | none =>
                rw [hg] at hturn
                refine ⟨rfl, ?_⟩
                cases hop : o.op <;> rw [hop] at hturn <;> first | exact .inl ⟨_, rfl⟩ | exact .inr ⟨_, rfl⟩ | cases hturn
            rw [if_pos (by simp [Region.wanted, hg])]
            left
            have hsel : ∀ cs b, o.op ≠ .select cs b := fun cs b e => by
              rcases hop with ⟨x, hx⟩ | ⟨x, hx⟩ <;> rw [hx] at e <;> cases e
            obtain ⟨v, hv⟩ : ∃ v, ∀ w, (execOp b.eval o).run P w = .ok (.value v) w := by
              obtain ⟨d, op, ty, pos, aft, g⟩ := o
              rcases hop with ⟨x, hx⟩ | ⟨x, hx⟩ <;> dsimp only at hx <;> subst hx
              · exact ⟨b.eval x, fun w => c_move rfl⟩
              · exact ⟨b.eval x, fun w => c_assign rfl⟩
            have hk : wpList P l.toArray Q (l.drop (i + 1)) (b.put o.dst v) w := by
              unfold wpList at h
              rw [if_pos (by simp [Region.wanted, hg])] at h
              rcases h with h | ⟨⟨h, _⟩, _⟩
              · unfold Oper.wp at h
                rw [hv] at h
                exact h
              · exfalso
                obtain ⟨d, op, ty, pos, aft, g⟩ := o
                rcases hop with ⟨x, hx⟩ | ⟨x, hx⟩ <;> dsimp only at hx <;> subst hx <;> exact absurd (show noRoomEvent ∈ (#[] : Array Event) from h) (by simp)
            refine upon_value (by rw [eval_same hsel heq]; exact hv w) ?_
            exact ih (U.erase i) (i + 1) _ _ (b.put o.dst v) w hlen (hnd.erase i) (erase_mem hnd hsz hil hmem) (by simpa using hsz) (by omega) hlsn hcl2 (lagged v w fun j hj hlj oj dj hoj hdj => pure1 v w j hj hlj oj dj hoj hdj (.inr rfl)) (.inr ⟨by omega, hk⟩)
          · -- nothing is late any more
            have hJl : ∀ j ∈ J, listed.getD j false = true := fun j hj => anc_closed (ops := l.toArray) (S := fun j => listed.getD j false = true) (fun i' o' hi' hs' e he hb => hcl i' o' (by simpa using hi') hs' e he hb) 24 o j (fun e he hb => hall e he hb) (hbar j hj)
            have hls2 : ∀ j, j < l.length → listed.getD j false = decide (j < i) := fun j hj => by
              by_cases hjJ : j ∈ J
              · rw [hJl j hjJ]
                have := hok.lateLt j hjJ
                simp
                omega
              · exact hls j hj hjJ
            obtain rfl := hlag.eq hJl
            have hct := count_tail hnd hmem hls2
            have := wpAny_tail (Q := Q) (P := P) hok (m + 1) i listed a w (by omega) hnt hsz (fun j hj => by rw [getD_both_iff (by omega)]; exact hls2 j hj) h
            exact this.2 i hi0
theorem Inv.finishK {J : List Nat} {K : Nat} (hok : RgOk l.toArray n J) (hL : LateK l n K J) (hl : Ds.length = n)
    (hparts : ∀ i o, i < n → l[i]? = some o → ∃ d D, o.dst = some d ∧ Ds[i]? = some D ∧ Ob P l.toArray N B1 w1 (factsC (l.take n) Ds Fc0 i) (factsE (l.take n) Ds i) o D ∧ fresh (factsC (l.take n) Ds Fc0 i) (factsE (l.take n) Ds i) d D)
    (hN : ∀ i o d, i < n → l[i]? = some o → o.dst = some d → d < N) (hB : B1 ≤ w1.heap.size) (w : World) :
    ∀ (r k : Nat) (vals : Nat → Value) (ents : Nat → List Ent) (listed : Array Bool) (a : Act), k + r = n → Inv P l n N B1 w1 Fc0 Ds vals ents listed a w → (∀ j, j < n → j ∉ J → listed.getD j false = true) → (∀ j, j < k → listed.getD j false = true) →
      ∃ b vals' ents' listed', Inv P l n N B1 w1 Fc0 Ds vals' ents' listed' b w ∧ (∀ j, j < n → listed'.getD j false = true) ∧ Lag P l J listed a b w := by
  intro r
  induction r with
  | zero =>
    intro k vals ents listed a hk inv _ hlt
    exact ⟨a, vals, ents, listed, inv, fun j hj => hlt j (by omega), rfl, rfl, fun _ _ => rfl, fun j hj hx => by
      rw [hlt j (by have := hok.lateLt j hj; omega)] at hx
      cases hx⟩
  | succ r ih =>
    intro k vals ents listed a hk inv hnj hlt
    by_cases hx : listed.getD k false = true
    · exact ih (k + 1) vals ents listed a (by omega) inv hnj fun j hj => by
        by_cases e : j = k
        · subst e; exact hx
        · exact hlt j (by omega)
    · have hx : listed.getD k false = false := by simpa using hx
      have hkJ : k ∈ J := Classical.byContradiction fun h => by rw [hnj k (by omega) h] at hx; cases hx
      obtain ⟨o, d, h1, h2, h3, h4, _⟩ := hL.op k hkJ
      have hle := hok.le
      simp at hle
      have hrd : k ∈ Region.ready .any l.toArray listed := mem_ready.2 ⟨by rw [getD_both_iff (by rw [inv.size]; omega)]; exact hx, o, by simpa using h1, fun e he hb => hlt e.on (hok.back k o (by simpa using h1) e he hb)⟩
      rcases inv.step0 hok hl hparts hN hB (by omega) hrd h1 with ⟨_, hy, hyq⟩ | ⟨hw, _⟩
      rotate_left
      · have : Region.wanted o (yielded l.toArray a.tmps) = true := by simp [Region.wanted, late_guard h2]
        rw [this] at hw; cases hw
      · obtain ⟨v, hv⟩ : ∃ v, (execOp a.eval o).run P w = .ok (.value v) w := by
          rcases h2 with h2 | h2
          · obtain ⟨s, hs⟩ := Option.isSome_iff_exists.1 h2
            obtain ⟨v, hv⟩ := late_all hs hy
            exact ⟨v, hv w⟩
          · exact hyq h2
        rw [hv] at hy
        obtain ⟨L', inv'⟩ := hy
        rw [h3] at inv'
        have hup : ∀ j, listed.getD j false = true → (listed.setIfInBounds k true).getD j false = true := fun j hj => by
          by_cases e : k = j
          · subst e; rw [hx] at hj; cases hj
          · rw [getD_set_ne false e]; exact hj
        have hkk : (listed.setIfInBounds k true).getD k false = true := by simp [show k < listed.size by rw [inv.size]; omega]
        obtain ⟨b, vals', ents', listed', i1, i2, i3⟩ := ih (k + 1) _ _ _ _ (by omega) inv' (fun j hj hjJ => hup j (hnj j hj hjJ)) (fun j hj => by
          by_cases e : j = k
          · subst e; exact hkk
          · exact hup j (hlt j (by omega)))
        have hdk : dstAt l.toArray k = some d := by simp [dstAt, h1, h3]
        have hdN : d < a.tmps.size := by rw [inv.know.1]; exact hN k o d (by omega) h1 h3
        refine ⟨b, vals', ents', listed', i1, i2, by have := i3.size; simpa [Act.put] using this, i3.defers, fun s' hs' => ?_, fun j hj hlj oj dj hoj hdj => ?_⟩
        · have hne : d ≠ s' := fun e => hs' k hkJ hx (by rw [hdk, e])
          rw [i3.same s' fun j hj hlj => hs' j hj (by
            by_cases e : k = j
            · subst e; exact hx
            · rw [getD_set_ne false e] at hlj; exact hlj)]
          simp only [Act.put]
          rw [Array.getElem?_setIfInBounds, if_neg hne]
        · by_cases hjk : k = j
          · subst hjk
            rw [h1] at hoj
            obtain rfl := Option.some.inj hoj
            rw [h3] at hdj
            obtain rfl := Option.some.inj hdj
            have hwk : ∀ j', waits o j' = true → j' < k := fun j' hw => by
              obtain ⟨e, he, hb, hon⟩ := waits_spec hw
              have := hok.back k o (by simpa using h1) e he hb
              omega
            refine ⟨v, ?_, by
              rw [← eval_same (a := a) (late_sel h2) fun s hs => ?_]
              · exact hv
              · rw [i3.same s fun j' hj' hlj' hdj' => by
                  rw [hup j' (hlt j' (hwk j' ((h4 s hs).1 j' hj' hdj')))] at hlj'
                  cases hlj']
                have hne : d ≠ s := fun e => by have := hwk k ((h4 s hs).1 k hkJ (by rw [hdk, e])); omega
                simp only [Act.put]
                rw [Array.getElem?_setIfInBounds, if_neg hne]⟩
            rw [i3.same d fun j' hj' hlj' hdj' => by
              have := hok.uniq j' k d (hok.lateLt j' hj') (by omega) hdj' hdk
              subst this
              rw [hkk] at hlj'
              cases hlj']
            simp [Act.put, hdN]
          · exact i3.run j hj (by rw [getD_set_ne false hjk]; exact hlj) oj dj hoj hdj
theorem wpAny_headJK {J : List Nat} {K : Nat} (hok : RgOk l.toArray n J) (hL : LateK l n K J) (hl : Ds.length = n)
    (hparts : ∀ i o, i < n → l[i]? = some o → ∃ d D, o.dst = some d ∧ Ds[i]? = some D ∧ Ob P l.toArray N B1 w1 (factsC (l.take n) Ds Fc0 i) (factsE (l.take n) Ds i) o D ∧ fresh (factsC (l.take n) Ds Fc0 i) (factsE (l.take n) Ds i) d D)
    (hN : ∀ i o d, i < n → l[i]? = some o → o.dst = some d → d < N) (hB : B1 ≤ w1.heap.size)
    (fin : ∀ vals ents listed a w, Inv P l n N B1 w1 Fc0 Ds vals ents listed a w → (∀ j, j < n → listed.getD j false = true) → Firsts P l.toArray Q l J (K + 1) (l.drop n) a w) :
    ∀ (m : Nat) (U : List Nat) (vals : Nat → Value) (ents : Nat → List Ent) (listed : Array Bool) (a : Act) (w : World), U.length = m → U.Nodup → (∀ j, j ∈ U ↔ j < l.length ∧ listed.getD j false = false) →
      Inv P l n N B1 w1 Fc0 Ds vals ents listed a w → wpAny P .any l.toArray Q m listed a w := by
  intro m
  have eln : n < l.length := by
    obtain ⟨o, h1, _⟩ := hL.hd 0 (by omega)
    exact (List.getElem?_eq_some_iff.1 h1).1
  induction m with
  | zero =>
    intro U vals ents listed a w hU hnd hmem inv
    have hU0 : U = [] := List.eq_nil_of_length_eq_zero hU
    subst hU0
    have := (hmem n).2 ⟨eln, inv.tail n (Nat.le_refl _)⟩
    cases this
  | succ m ih =>
    intro U vals ents listed a w hU hnd hmem inv
    by_cases hall : ∀ j, j < n → j ∉ J → listed.getD j false = true
    · obtain ⟨b, vals', ents', listed', i1, i2, i3⟩ := Inv.finishK hok hL hl hparts hN hB w n 0 vals ents listed a (by omega) inv hall fun j hj => by omega
      refine wpAny_lagK hok hL (m + 1) U n listed a b w hU hnd hmem inv.size (Nat.le_refl _) (fun j hj hjJ => ?_) inv.closed i3 (.inl ⟨K, rfl, fin vals' ents' listed' b w i1 i2⟩)
      by_cases e : j < n
      · rw [hall j e hjJ]; simp [e]
      · rw [inv.tail j (by omega)]; simp [e]
    · obtain ⟨j0, hj0, hj0J, hl0⟩ : ∃ j, j < n ∧ j ∉ J ∧ listed.getD j false = false := by
        apply Classical.byContradiction
        intro hn
        apply hall
        intro j hj hjJ
        cases hx : listed.getD j false with
        | true => rfl
        | false => exact absurd ⟨j, hj, hjJ, hx⟩ hn
      refine ⟨fun h0 => ?_, fun i hi => ?_⟩
      · obtain ⟨i, hi⟩ := exists_ready hok inv.size j0 (by omega) hl0
        rw [h0] at hi; cases hi
      · have hin : i < n := by
          apply Classical.byContradiction
          intro hge
          obtain ⟨_, o, ho, hall2⟩ := mem_ready.1 hi
          have key := anc_closed (ops := l.toArray) (S := fun j => listed.getD j false = true) (fun i' o' hi' hs' e he hb => inv.closed i' o' (by simpa using hi') hs' e he hb) 24 o j0 (fun e he hb => hall2 e he hb) ((hok.tail i o ho (by omega) j0 (by omega)).resolve_left hj0J)
          rw [hl0] at key
          cases key
        have hil : i < l.length := by omega
        have hiU : i ∈ U := (hmem i).2 ⟨hil, by
          have h1 := (mem_ready.1 hi).1
          rw [getD_both_iff (by rw [inv.size]; exact hil)] at h1
          exact h1⟩
        refine inv.step hok hl hparts hN hB hin hi fun v L' a' w' inv' => ?_
        exact ih (U.erase i) _ _ _ _ _ (by rw [List.length_erase_of_mem hiU, hU]; simp) (hnd.erase i) (erase_mem hnd inv.size hil hmem) inv'
/-- The same, where plain turnings may come behind the operations of the tail. -/
theorem any_rgXK {J : List Nat} {K : Nat} {F : List (Nat × Value)} {L : List Ent} {M : Nat → Prop} {w0 w : World} {a : Act} (n : Nat) (hB : rgBL l.toArray n J = true) (hJ : lateBK l n K J = true) (hd : dstB (l.take n) N = true) (hs : St N F L M w0 a w)
    (h : RG P l.toArray N w.heap.size w (fun Fc Fe => ∀ a' w' L', Fr0 w w' → FeOk Fe a' w' L' → St N Fc (L' ++ L) M w0 a' w' → Links P l n a' → Firsts P l.toArray Q l J (K + 1) (l.drop n) a' w') F [] (l.take n)) :
    RegAny P Q l a w := by
  have hok : RgOk l.toArray n J := rgB_spec hB
  have hle := hok.le
  simp at hle
  have htl : (l.take n).length = n := by simp [hle]
  obtain ⟨Ds, hlen, hK, hparts⟩ := RG.parts F (l.take n) [] [] rfl h
  simp only [List.nil_append, htl] at hlen hK hparts
  have hget : ∀ i o, i < n → l[i]? = some o → (l.take n)[i]? = some o := fun i o hi ho => by rw [List.getElem?_take_of_lt hi]; exact ho
  have hparts' : ∀ i o, i < n → l[i]? = some o → ∃ d D, o.dst = some d ∧ Ds[i]? = some D ∧ Ob P l.toArray N w.heap.size w (factsC (l.take n) Ds F i) (factsE (l.take n) Ds i) o D ∧ fresh (factsC (l.take n) Ds F i) (factsE (l.take n) Ds i) d D :=
    fun i o hi ho => hparts i o (by simp) (hget i o hi ho)
  have hN : ∀ i o d, i < n → l[i]? = some o → o.dst = some d → d < N := fun i o d hi ho hod => by
    have := List.all_eq_true.1 hd o (List.mem_of_getElem? (hget i o hi ho))
    rw [hod] at this
    exact lt_of_blt this
  unfold RegAny
  have hdr : Fr0 w { w with drawn := w.drawn + 1 } := Fr.drew w
  have hU : ((List.range l.length).length = l.toArray.size) := by simp
  refine wpAny_headJK (w1 := w) (B1 := w.heap.size) (Ds := Ds) (Fc0 := F) hok (lateBK_spec hJ) (by omega) hparts' hN (Nat.le_refl _) ?_ _ (List.range l.length) (fun _ => undef) (fun _ => []) _ _ _ hU List.nodup_range ?_ ?_
  · intro vals ents listed a' w' inv hall
    have hds : ∃ ds : Nat → Nat, ∀ j o, (l.take n)[j]? = some o → o.dst = some (ds j) := by
      refine ⟨fun j => (dstAt l.toArray j).getD 0, fun j o hj => ?_⟩
      have hjn : j < n := by have := (List.getElem?_eq_some_iff.1 hj).1; omega
      rw [List.getElem?_take_of_lt hjn] at hj
      obtain ⟨d', hd'⟩ := hok.dst j o (by simpa using hj) hjn
      simp [dstAt, hj, hd']
    obtain ⟨ds, hds⟩ := hds
    have hdsA : ∀ j, j < n → dstAt l.toArray j = some (ds j) := fun j hj => by
      have hjl : j < l.length := by omega
      have := hds j l[j] (by rw [List.getElem?_take_of_lt hj]; simp [hjl])
      simp [dstAt, hjl, this]
    have hfr' : ∀ j o D, (l.take n)[j]? = some o → Ds[j]? = some D → fresh (factsC (l.take n) Ds F j) (factsE (l.take n) Ds j) (ds j) D := by
      intro j o' D' hj hDj
      have hjn : j < n := by have := (List.getElem?_eq_some_iff.1 hj).1; omega
      have hj' := hj
      rw [List.getElem?_take_of_lt hjn] at hj'
      obtain ⟨d2, D2, h1, h2, _, h4⟩ := hparts' j o' hjn hj'
      rw [hDj] at h2
      obtain rfl := Option.some.inj h2
      have := hds j o' hj
      rw [h1] at this
      obtain rfl := Option.some.inj this
      exact h4
    have hknow : Know N (factsC (l.take n) Ds F n) a' := by
      refine ⟨inv.know.1, inv.know.2, fun s v hv => ?_⟩
      rcases factsC_src (Fc0 := F) hds (by omega) hfr' n (by omega) s v hv with ⟨j, hj, h1, h2⟩ | ⟨h1, h2⟩
      · obtain ⟨h4, h5⟩ := inv.done j s _ hj (hall j hj) (by rw [hdsA j hj, h1]) h2
        rw [h4, h5.1]
      · exact inv.base s v h1 fun j hj _ hdj => by
          rw [hdsA j hj] at hdj
          exact h2 j hj (Option.some.inj hdj)
    have hfe : ∀ i, i ≤ n → ∃ L'', FeOk (factsE (l.take n) Ds i) a' w' L'' ∧ L''.Perm ((List.range i).flatMap ents) := by
      intro i
      induction i with
      | zero => intro _; exact ⟨[], rfl, by simp⟩
      | succ i ih =>
        intro hi
        obtain ⟨L'', h1, h2⟩ := ih (by omega)
        have hil : i < (l.take n).length := by omega
        have ho : (l.take n)[i]? = some (l.take n)[i] := List.getElem?_eq_getElem hil
        have hD : Ds[i]? = some (Ds[i]'(by omega)) := List.getElem?_eq_getElem (by omega)
        have hdi := hds i _ ho
        obtain ⟨h4, h5⟩ := inv.done i (ds i) _ (by omega) (hall i (by omega)) (hdsA i (by omega)) hD
        simp only [factsE, ho, hD, hdi, List.range_succ, List.flatMap_append]
        generalize Ds[i]'(by omega) = D at *
        cases D with
        | c u => exact ⟨L'', h1, by simp [h5.2]; exact h2⟩
        | e E st =>
          refine ⟨ents i ++ L'', ⟨vals i, ents i, L'', h4, h5, h1, rfl⟩, ?_⟩
          simp only [List.flatMap_cons, List.flatMap_nil, List.append_nil]
          exact (List.Perm.append_left _ h2).trans List.perm_append_comm
    obtain ⟨L'', hf1, hf2⟩ := hfe n (Nat.le_refl _)
    have hhas : Has w.heap.size w' L'' := by
      have : (List.range n).flatMap (fun j => if listed.getD j false = true then ents j else []) = (List.range n).flatMap ents := flatMap_same _ _ _ fun j hj => by rw [if_pos (hall j (List.mem_range.1 hj))]
      have hh := inv.has
      rw [this] at hh
      exact hh.perm hf2
    have hst : St N (factsC (l.take n) Ds F n) (L'' ++ L) M w0 a' w' := ⟨hknow, (hs.has.new inv.fr (Nat.zero_le _) hhas), fun e he k hk => by
      rcases List.mem_append.1 he with he | he
      · exact .inl (Nat.le_trans hs.fr.size (hhas.ge e he k hk))
      · exact hs.own e he k hk, hs.fr.trans0 inv.fr⟩
    refine hK a' w' L'' inv.fr hf1 hst ⟨fun j oj dj s hj hoj hdj hos hsf => ?_, fun j oj dj hj hoj hdj hbj hsf => ?_⟩
    · obtain ⟨d2, D2, h1, h2, _, _⟩ := hparts' j oj hj hoj
      rw [hdj] at h1
      obtain rfl := Option.some.inj h1
      exact ⟨vals j, (inv.done j dj D2 hj (hall j hj) (by simp [dstAt, hoj, hdj]) h2).1, inv.links j oj s hj hoj (hall j hj) hos hsf⟩
    · obtain ⟨d2, D2, h1, h2, _, _⟩ := hparts' j oj hj hoj
      rw [hdj] at h1
      obtain rfl := Option.some.inj h1
      obtain ⟨w1, w2, h3⟩ := inv.links2 j oj hj hoj (hall j hj) hbj hsf
      exact ⟨vals j, w1, w2, (inv.done j dj D2 hj (hall j hj) (by simp [dstAt, hoj, hdj]) h2).1, h3⟩
  · intro j
    simp
    intro hj
    simp [Array.getElem?_replicate, hj]
  · refine ⟨by simp, ⟨hs.know.size, hs.know.defers⟩, fun j d D hj hl' => ?_, fun s v hv _ => hs.know.at_ s v hv, ?_, hdr, fun t _ => ?_, fun j o _ hl' => ?_, fun j o s _ _ hl' => ?_, fun j o _ _ hl' => ?_⟩
    · simp [Array.getElem?_replicate] at hl'
      split at hl' <;> simp at hl'
    · have : ∀ r : List Nat, r.flatMap (fun j => if (Array.replicate l.toArray.size false).getD j false = true then ([] : List Ent) else []) = [] := fun r => by induction r with | nil => rfl | cons x t ih => simp
      rw [this]
      exact .nil _ _
    · simp [Array.getElem?_replicate]
      split <;> simp
    · simp [Array.getElem?_replicate] at hl'
      split at hl' <;> simp at hl'
    · simp [Array.getElem?_replicate] at hl'
      split at hl' <;> simp at hl'
    · simp [Array.getElem?_replicate] at hl'
      split at hl' <;> simp at hl'
theorem wp_region_rgXK {J : List Nat} {id : Nat} {F : List (Nat × Value)} {L : List Ent} {M : Nat → Prop} {w0 w : World} {a : Act} (hm : P.follows .mixedOrders = true) (n K : Nat) (hB : rgBL l.toArray n J = true) (hJ : lateBK l n K J = true) (hd : dstB (l.take n) N = true) (hs : St N F L M w0 a w)
    (h : RG P l.toArray N w.heap.size w (fun Fc Fe => ∀ a' w' L', Fr0 w w' → FeOk Fe a' w' L' → St N Fc (L' ++ L) M w0 a' w' → Links P l n a' → Firsts P l.toArray Q l J (K + 1) (l.drop n) a' w') F [] (l.take n)) :
    (Code.region id l.toArray true).wp P Q a w := wp_region_any hm (any_rgXK n hB hJ hd hs h)
end
section
variable {P : Program} {ops : Array Oper} {Q : Exit → Act → World → Prop} {rest : List Oper} {N : Nat} {F F' : List (Nat × Value)} {L L' : List Ent} {M : Nat → Prop} {w0 w : World} {a : Act}
variable {d : Tmp} {op : Op} {ty : TypeId} {pos : String} {aft : Array Edge} {x y z : Operand} {t u : TypeId}
/-- Stores that are the first operation of a tail. -/
theorem sf_store {kk : Nat} {i : Nat} {l : List Oper} {J : List Nat} {T' : TypeId} {td : TypeDesc} {sz bytes : Nat} {zz : List Value} {gb o : Nat} {cs cs' c : List Value} {v : Value} (hs : St N F L M w0 a w) (hT : Ty P t td sz bytes zz)
    (hx : ev F x = some (.pointer (some ⟨gb, o, none⟩))) (hy : ev F y = some v) (hi : L[i]? = some (.seg gb cs T')) (hv : v.cells.toList = c) (hl : c.length = sz) (h1 : c.all (·.oneCell') = true) (hfit : o + sz ≤ cs.length)
    (hcs : cs.take o ++ c ++ cs.drop (o + sz) = cs') (hlate : ∀ w, St N F (L.set i (.seg gb cs' T')) M w0 a w → lateOk P l a w J) (k : ∀ w, St N F (L.set i (.seg gb cs' T')) M w0 a w → Firsts P ops Q l J kk rest a w) :
    Firsts P ops Q l J (kk + 1) (⟨none, .store t x y, ty, pos, aft, none⟩ :: rest) a w := by
  have hr := c_store (P := P) (w := w) (d := none) (ty := ty) (pos := pos) (aft := aft) (g := none) hT (hs.ev hx) (hs.ev hy) hv hl h1 (hs.seg hi) hfit
  rw [hcs] at hr
  have hs2 : St N F (L.set i (.seg gb cs' T')) M w0 a { w with heap := (w.setRow gb cs'.toArray).heap } := hs.mod hi (.setRow w gb _) (setRow_heap w gb _ _ _ _ (hs.seg hi)) (fun j hj => ⟨.inl hj, by
    have h2 : gb < w.heap.size := hs.has.lt _ (List.mem_of_getElem? hi) gb rfl
    cases hj
    simpa using h2⟩)
  exact ⟨_, _, undef, hr, .inl ⟨rfl, rfl⟩, hlate _ hs2, k _ hs2⟩
theorem sf_storeW {kk : Nat} {i : Nat} {l : List Oper} {J : List Nat} {T' : TypeId} {td : TypeDesc} {sz bytes : Nat} {zz : List Value} {gb : Nat} {cs c : List Value} (hs : St N F L M w0 a w) (hT : Ty P t td sz bytes zz)
    (hx : ev F x = some (.pointer (some ⟨gb, 0, none⟩))) (hy : ev F y = some (.agg c.toArray)) (hi : L[i]? = some (.seg gb cs T')) (hl : c.length = sz) (h1 : c.all (·.oneCell') = true) (hcs : cs.length = sz)
    (hlate : ∀ w, St N F (L.set i (.seg gb c T')) M w0 a w → lateOk P l a w J) (k : ∀ w, St N F (L.set i (.seg gb c T')) M w0 a w → Firsts P ops Q l J kk rest a w) :
    Firsts P ops Q l J (kk + 1) (⟨none, .store t x y, ty, pos, aft, none⟩ :: rest) a w :=
  sf_store hs hT hx hy hi (by simp [Value.cells]) hl h1 (by omega) (by simp [hcs]) hlate k
end
end Go.Fw
end

section
/- The law of what is learned and passed on. -/
set_option linter.unusedSimpArgs false
set_option linter.unusedVariables false
set_option maxRecDepth 100000
namespace Go.Proofs.YtklajbdbnnceiaaGreat
open Go Go.Fw
open Sha
theorem eqi3k (t : TypeId) (k : IntKind) (hu : Tryz.prog.underlying t = some (.int k)) (a b : Int) (n : Nat) (w : World) : (Op.equalIn (n + 1) t (.int k a) (.int k b)).run Tryz.prog w = .ok (decide (a = b)) w := by
  simp [Op.equalIn, run_underlying hu]
  rfl
theorem eqKey (a b a' b' : UInt32) (c c' : Int) (n : Nat) (w : World) : (Op.equalIn (n + 2) 52 (.agg #[U a, U b, I c]) (.agg #[U a', U b', I c'])).run Tryz.prog w = .ok (decide (a = a' ∧ b = b' ∧ c = c')) w := by
  have h : ∀ x y, (Op.equalIn (n + 1) 3 (I x) (I y)).run Tryz.prog w = .ok (decide (x = y)) w := fun x y => eqi3k 3 .i64 un3 x y n w
  have hU : ∀ x y : UInt32, (Op.equalIn (n + 1) 25 (U x) (U y)).run Tryz.prog w = .ok (decide (x = y)) w := fun x y => by
    have h2 := eqi3k 25 .u32 un25 (x.toNat : Int) (y.toNat : Int) n w
    have e : decide ((x.toNat : Int) = (y.toNat : Int)) = decide (x = y) := by
      by_cases hx : x = y
      · subst hx; simp
      · rw [decide_eq_false hx, decide_eq_false]
        intro h3
        exact hx (UInt32.toNat_inj.1 (by omega))
    rw [e] at h2
    exact h2
  rw [Op.equalIn]
  simp only [Sem.run_bind, run_underlying Tryz.underlying52, Result.andThen_ok]
  simp [part, h, hU]
  by_cases h1 : a = a' <;> by_cases h2 : b = b' <;> by_cases h3 : c = c' <;> simp [*]
theorem eqKey0 (a b a' b' : UInt32) (c c' : Int) (w : World) : (Op.equal 52 (.agg #[U a, U b, I c]) (.agg #[U a', U b', I c'])).run Tryz.prog w = .ok (decide (a = a' ∧ b = b' ∧ c = c')) w := eqKey a b a' b' c c' 9998 w
theorem c_neqKey {ac : Act} {w : World} {d : Option Tmp} {ty u : TypeId} {pos : String} {aft : Array Edge} {g : Option (Nat × Bool)} {x y : Operand} {a b a' b' : UInt32} {c c' : Int} (hx : ac.eval x = .agg #[U a, U b, I c]) (hy : ac.eval y = .agg #[U a', U b', I c']) :
    (execOp ac.eval ⟨d, .binOp .neq 52 x y u, ty, pos, aft, g⟩).run Tryz.prog w = .ok (.value (.bool (!decide (a = a' ∧ b = b' ∧ c = c')))) w := by
  simp [execOp, hx, hy, eqGuard, binOp, eg52, eqKey0]
theorem eqClaim (d d' i i' c c' : Int) (a b a' b' : UInt32) (w : World) : (Op.equal 54 (.agg #[I d, U a, U b, I c, I i]) (.agg #[I d', U a', U b', I c', I i'])).run Tryz.prog w = .ok (decide (d = d' ∧ (a = a' ∧ b = b' ∧ c = c') ∧ i = i')) w := by
  have h : ∀ x y, (Op.equalIn 9999 3 (I x) (I y)).run Tryz.prog w = .ok (decide (x = y)) w := fun x y => eqi3k 3 .i64 un3 x y 9998 w
  have hK : (Op.equalIn 9999 52 (.agg #[U a, U b, I c]) (.agg #[U a', U b', I c'])).run Tryz.prog w = .ok (decide (a = a' ∧ b = b' ∧ c = c')) w := eqKey a b a' b' c c' 9997 w
  unfold Op.equal
  rw [show Op.maxDepth = 9999 + 1 from rfl]
  rw [Op.equalIn]
  simp only [Sem.run_bind, run_underlying Tryz.underlying54, Result.andThen_ok]
  simp [part, h]
  rw [hK]
  by_cases h2 : a = a' ∧ b = b' ∧ c = c'
  · rw [decide_eq_true h2]
    obtain ⟨rfl, rfl, rfl⟩ := h2
    by_cases h1 : d = d' <;> by_cases h3 : i = i' <;> simp [h, h1, h3]
  · rw [decide_eq_false h2]
    have h4 : (decide (a = a') && (decide (b = b') && decide (c = c'))) = false := by
      rw [← Bool.not_eq_true]
      simpa using h2
    by_cases h1 : d = d' <;> by_cases h3 : i = i' <;> simp [h, h1, h3, h4]
theorem c_eqlClaim {ac : Act} {w : World} {dt : Option Tmp} {ty u : TypeId} {pos : String} {aft : Array Edge} {g : Option (Nat × Bool)} {x y : Operand} {d d' i i' c c' : Int} {a b a' b' : UInt32} (hx : ac.eval x = .agg #[I d, U a, U b, I c, I i]) (hy : ac.eval y = .agg #[I d', U a', U b', I c', I i']) :
    (execOp ac.eval ⟨dt, .binOp .eql 54 x y u, ty, pos, aft, g⟩).run Tryz.prog w = .ok (.value (.bool (decide (d = d' ∧ (a = a' ∧ b = b' ∧ c = c') ∧ i = i')))) w := by
  simp [execOp, hx, hy, eqGuard, binOp, eg54, eqClaim]
theorem rd_nil (w : World) : Rd w (.slice none 0 0) 0 (([] : List UInt8).map B) := ⟨none, 0, rfl, Nat.le_refl _, Nat.zero_le _, fun _ => rfl, .inl rfl⟩
section
variable {W S H d mt nid : Int} {ep sq : UInt32} {e ps : List UInt8} {np : Nat} {pv : Value} {w : World}
theorem proof_PassB (hno : clRight W S H d mt nid ep sq = false) (hel : e.length = 16) (hpl : ps.length = np * 16) (hnp : np ≤ 1000000) (hqp : Rd w pv np (ps.map B)) : Ctr Tryz.prog 37 [.agg #[I W, I S, I H], knV d ep sq mt e pv, I nid] w (fun _ => False) fun v _ => v = .tuple #[.agg #[I 0, U 0, U 0, I 0, I 0], credV (List.replicate 16 (0 : UInt8)) (.slice none 0 0) (.slice none 0 0), I 1] :=
  (proof_Pass W S H d mt nid ep sq e ps np pv hel hpl hnp w hqp).mono fun v w' _ ⟨L, h, _⟩ => h.elim (fun h => h.2.1) fun h => absurd (hno.symm.trans h.1) (by decide)
theorem proof_PassE (hyes : clRight W S H d mt nid ep sq = true) (hel : e.length = 16) (hpl : ps.length = np * 16) (hnp : np ≤ 1000000) (hqp : Rd w pv np (ps.map B)) : Ctr Tryz.prog 37 [.agg #[I W, I S, I H], knV d ep sq mt e pv, I nid] w (fun _ => False) (outE (tupG [.agg #[I d, U ep, U sq, I mt, I nid]] [I 0] (crE 36 (shL d ep sq mt e W nid) (shN mt W nid) (shW d ep sq mt e W nid) np ps)) w) :=
  (proof_Pass W S H d mt nid ep sq e ps np pv hel hpl hnp w hqp).mono fun v w' _ ⟨L, h, hh⟩ => h.elim (fun h => absurd (hyes.symm.trans h.1) (by decide)) fun ⟨_, wv, pv2, h1, h2⟩ => ⟨L, ⟨_, h1, wv, pv2, rfl, h2⟩, hh⟩
theorem ref09_PassB (hno : clRight W S H d mt nid ep sq = false) (hel : e.length = 16) {pcs : List Value} (hqp : Rd w pv np pcs) : Ctr Tryz.prog 38 [.agg #[I W, I S, I H], knV d ep sq mt e pv, I nid] w (fun _ => False) fun v _ => v = .tuple #[.agg #[I 0, U 0, U 0, I 0, I 0], credV (List.replicate 16 (0 : UInt8)) (.slice none 0 0) (.slice none 0 0), I 1] :=
  (ref09_Pass W S H d mt nid ep sq e np pcs pv hel w hqp).mono fun v w' _ ⟨L, h, _⟩ => h.elim (fun h => h.2.1) fun h => absurd (hno.symm.trans h.1) (by decide)
theorem ref09_PassE (hyes : clRight W S H d mt nid ep sq = true) (hel : e.length = 16) {pcs : List Value} (hqp : Rd w pv np pcs) : Ctr Tryz.prog 38 [.agg #[I W, I S, I H], knV d ep sq mt e pv, I nid] w (fun _ => False) (outE (fun v L _ => ∃ wv, v = .tuple #[.agg #[I d, U ep, U sq, I mt, I nid], credV (shL d ep sq mt e W nid) wv pv, I 0] ∧ L = [.row wv (shN mt W nid) ((shW d ep sq mt e W nid).map B) 35 16]) w) :=
  (ref09_Pass W S H d mt nid ep sq e np pcs pv hel w hqp).mono fun v w' _ ⟨L, h, hh⟩ => h.elim (fun h => absurd (hyes.symm.trans h.1) (by decide)) fun ⟨_, wv, h1, h2⟩ => ⟨L, ⟨wv, h1, h2⟩, hh⟩
end
set_option maxHeartbeats 4000000 in
theorem law_ProofPasses (W S H d mt sn nid : Int) (ep sq : UInt32) (nx lf ws ps : List UInt8) (nw np : Nat) (wv pv : Value) (hnx : nx.length = 16) (hlf : lf.length = 16) (hwl : ws.length = nw * 16) (hpl : ps.length = np * 16) (w : World) (hqw : Rd w wv nw (ws.map B)) (hqp : Rd w pv np (ps.map B)) : Ctr Tryz.prog 5 [.agg #[I W, I S, I H], .agg #[I d, U ep, U sq, I mt, I sn], .agg (nx.map B).toArray, credV lf wv pv, I nid] w (fun _ => False) (fun v _ => v = .bool true) := by
  have hwo := hqw.one
  obtain ⟨wad, wcap, rfl, hwc, hwm⟩ := Rd.sl hqw
  obtain ⟨pad, pcap, rfl, hpc, hpm⟩ := Rd.sl hqp
  refine fn_start (N := 100) Tryz.func5 rfl rfl rfl fun ac hk => ?_
  have hs := St.start hk w
  refine wp_seq ?_
  refine wp_reg ?_
  refine s_box hs rfl rfl rfl fun ac ww g5 hs => ?_
  refine s_box hs rfl rfl rfl fun ac ww g6 hs => ?_
  refine s_box hs rfl rfl rfl fun ac ww g7 hs => ?_
  refine s_box hs rfl rfl rfl fun ac ww g8 hs => ?_
  refine s_q hs (c_assign (hs.ev rfl)) rfl fun ac hs => ?_
  refine s_end ?_
  replace hs := hs.sub (F' := [(4, _), (5, _), (6, _), (7, _), (8, _), (10, _)]) ⟨rfl, rfl, rfl, rfl, rfl, rfl, trivial⟩
  refine then_n ?_
  refine wp_seq ?_
  refine wp_seq ?_
  refine wp_reg ?_
  refine s_q hs (c_loadW ty66 ag66 (hs.ev rfl) (hs.seg (i := 0) rfl) (by simp [hlf])) rfl fun ac hs => ?_
  refine s_call hs fu32 (.cons (hs.ev rfl) .nil) (law09_Light lf ws ps nw np _ _ hlf _ (hqw.fr0 hs.fr) (hqp.fr0 hs.fr)) rfl fun ac ww v20 hf hp hs => ?_
  obtain rfl := hp
  replace hs := hs [] (.nil _ _)
  refine s_q hs (c_not (hs.ev rfl)) rfl fun ac hs => ?_
  refine s_q hs (c_move (hs.ev rfl)) rfl fun ac hs => ?_
  refine s_g hs rfl rfl (fun hg => c_fld fl54_1 (hs.ev rfl)) rfl fun ac hs => ?_
  refine s_g hs rfl rfl (fun hg => c_fld fl52_2 (gev (hs.ev rfl) hg)) rfl fun ac hs => ?_
  refine s_g hs rfl rfl (fun hg => c_loadS un3 rfl (gev (hs.ev rfl) hg) (hs.seg (i := 2) rfl) rfl) rfl fun ac hs => ?_
  refine s_g hs rfl rfl (fun hg => c_lssI (gev (hs.ev rfl) hg) (hs.ev rfl)) rfl fun ac hs => ?_
  refine s_q hs (c_or (hs.ev rfl) (hs.ev rfl)) rfl fun ac hs => ?_
  refine s_q hs (c_move (hs.ev rfl)) rfl fun ac hs => ?_
  refine s_g hs rfl rfl (fun hg => c_fld fl54_1 (hs.ev rfl)) rfl fun ac hs => ?_
  refine s_g hs rfl rfl (fun hg => c_fld fl52_2 (gev (hs.ev rfl) hg)) rfl fun ac hs => ?_
  refine s_g hs rfl rfl (fun hg => c_loadS un3 rfl (gev (hs.ev rfl) hg) (hs.seg (i := 2) rfl) rfl) rfl fun ac hs => ?_
  refine s_g hs rfl rfl (fun hg => c_gtrI (gev (hs.ev rfl) hg) (hs.ev rfl)) rfl fun ac hs => ?_
  refine s_q hs (c_or (hs.ev rfl) (hs.ev rfl)) rfl fun ac hs => ?_
  refine s_end ?_
  replace hs := hs.sub (F' := [(4, _), (5, _), (6, _), (7, _), (8, _), (10, _), (33, _)]) ⟨rfl, rfl, rfl, rfl, rfl, rfl, rfl, trivial⟩
  refine then_n ?_
  refine s_cond hs rfl (fun hc => ?_) (fun hc => ?_)
  · skip
    refine wp_seq ?_
    refine wp_reg ?_
    refine s_call hs fu25 .nil (law09_awake _) rfl fun ac ww v34 hf hp hs => ?_
    obtain rfl := hp
    replace hs := hs [] (.nil _ _)
    refine s_q hs (c_assign (hs.ev rfl)) rfl fun ac hs => ?_
    refine s_end ?_
    replace hs := hs.sub (F' := [(4, _), (5, _), (6, _), (7, _), (8, _), (10, _)]) ⟨rfl, rfl, rfl, rfl, rfl, rfl, trivial⟩
    refine then_n ?_
    refine wp_ret ?_
    refine then_r ?_
    refine s_ret hs rfl (.tmp (hs.tmp rfl) .nil) rfl ⟨_, rfl, hs.fr, ?_⟩
    rfl
  · skip
    have hc2 : nw ≤ 20 ∧ np ≤ 20 ∧ 0 ≤ mt ∧ mt ≤ 100 := by
      simp at hc
      omega
    obtain ⟨hw20, hp20, hmt0, hmt1⟩ := hc2
    refine wp_skip ?_
    refine then_n ?_
    refine wp_seq ?_
    refine wp_region_rg pmix 7 (by kernel_rfl) rfl hs ?_
    simp only [List.take_succ_cons, List.take_zero]
    refine rg_q (fun ac ww h => c_loadW ty54 ag54 (h.ev rfl) (h.blk (hs.seg (i := 2) rfl)) (by rfl)) rfl ?_
    refine rg_call fu27 (fun ac ww h => (.cons (h.ev rfl) .nil)) (fun ww hf => law09_To d mt sn ep sq ww) rfl ?_
    refine rg_q (fun ac ww h => c_loadW ty35 rfl (h.ev rfl) (h.blk (hs.seg (i := 1) rfl)) (by rw [List.length_map, hnx])) rfl ?_
    refine rg_q (fun ac ww h => c_loadW ty66 ag66 (h.ev rfl) (h.blk (hs.seg (i := 0) rfl)) (by simp [hlf])) rfl ?_
    refine rg_callE (crE 36 lf nw ws np ps) (fun _ _ _ _ _ h => h) fu34 (fun ac ww h => ?_) rfl ?_
    · exact ⟨_, .cons (h.ev rfl) (.nil), law09_ToCred lf ws ps nw np _ _ hlf hwl hpl (by omega) (by omega) _ (hqw.fr0 (hs.fr.trans0 h.fr)) (hqp.fr0 (hs.fr.trans0 h.fr))⟩
    refine rg_callE (knE d ep sq (mt + 1) nx ps np) (fun _ _ _ _ _ h => h) fu33 (fun ac ww h => ?_) rfl ?_
    · obtain ⟨u39, L39, he39, hee, hh39⟩ := h.ent (n := 39) rfl rfl
      obtain ⟨wv1, pv1, rfl, rfl⟩ := hee
      exact ⟨_, .cons (h.ev rfl) (.cons (h.ev rfl) (.cons he39 .nil)), proof_Learn d mt sn ep sq nx lf ps np wv1 pv1 hnx hlf hpl (by omega) (by omega) _ (Rd.of_row (hh39.holds _ (List.mem_of_getElem? (i := 1) rfl))).one (Rd.of_row (hh39.holds _ (List.mem_of_getElem? (i := 0) rfl)))⟩
    refine rg_alloc ty72 rfl ?_
    refine rg_nil fun ac ww L' hf hfe hs => ?_
    simp only [List.drop_succ_cons, List.drop_zero]
    obtain ⟨v11, L11, M11, h11, e11, ⟨v40, L40, M40, h40, e40, ⟨v39, L39, M39, h39, e39, rfl, rfl⟩, rfl⟩, rfl⟩ := hfe
    replace hs := hs.add h11
    replace hs := hs.add h40
    replace hs := hs.add h39
    obtain ⟨g11, rfl, rfl⟩ := e11
    obtain ⟨kv1, rfl, rfl⟩ := e40
    obtain ⟨wv1, pv1, rfl, rfl⟩ := e39
    obtain ⟨kad, kcap, rfl, hkc, hkm⟩ := Rd.sl (Rd.of_row (hs.get (i := 1) rfl))
    refine s_storeW (i := 0) hs ty72 rfl rfl rfl (knC_length hnx) (by simp [knC, Value.oneCell', Go.Fw.B]) rfl fun ww hs => ?_
    refine s_end ?_
    replace hs := hs.sub (F' := [(4, _), (5, _), (6, _), (7, _), (8, _), (10, _), (11, _)]) ⟨rfl, rfl, rfl, rfl, rfl, rfl, rfl, trivial⟩
    refine then_n ?_
    refine wp_seq ?_
    refine wp_reg ?_
    cases hcr : clRight W S H d (mt + 1) nid ep sq
    · refine s_q hs (c_loadW ty54 ag54 (hs.ev rfl) (hs.seg (i := 6) rfl) (by rfl)) rfl fun ac hs => ?_
      refine s_q hs (c_loadW ty35 rfl (hs.ev rfl) (hs.seg (i := 5) rfl) (by rw [List.length_map, hnx])) rfl fun ac hs => ?_
      refine s_q hs (c_loadW ty66 ag66 (hs.ev rfl) (hs.seg (i := 4) rfl) (by simp [hlf])) rfl fun ac hs => ?_
      refine s_call hs fu35 (.cons (hs.ev rfl) (.cons (hs.ev rfl) (.cons (hs.ev rfl) .nil))) (ref09_Learn d mt sn ep sq nx lf _ _ np (ps.map B) hnx hlf (by omega) _ hwo (hqp.fr0 hs.fr)) rfl fun ac ww v44 hf hp hs => ?_
      obtain rfl := hp
      replace hs := hs [] (.nil _ _)
      refine s_alloc hs ty76 rfl fun ac ww g12 hs => ?_
      refine s_storeW (i := 0) hs ty76 rfl rfl rfl (knC_length hnx) (by simp [knC, Value.oneCell', Go.Fw.B]) rfl fun ww hs => ?_
      refine s_end ?_
      replace hs := hs.sub (F' := [(4, _), (5, _), (10, _), (11, _), (12, _)]) ⟨rfl, rfl, rfl, rfl, rfl, trivial⟩
      refine then_n ?_
      refine wp_seq ?_
      refine wp_seq ?_
      refine wp_region_rg pmix 18 (by kernel_rfl) rfl hs ?_
      simp only [List.take_succ_cons, List.take_zero]
      refine rg_q (fun ac ww h => c_fld fl72_0 (h.ev rfl)) rfl ?_
      refine rg_q (fun ac ww h => c_loadS un3 rfl (h.ev rfl) (h.blk (hs.seg (i := 1) rfl)) rfl) rfl ?_
      refine rg_q (fun ac ww h => c_fld fl76_0 (h.ev rfl)) rfl ?_
      refine rg_q (fun ac ww h => c_loadS un3 rfl (h.ev rfl) (h.blk (hs.seg (i := 0) rfl)) rfl) rfl ?_
      refine rg_q (fun ac ww h => c_ff (c_neqI (h.ev rfl) (h.ev rfl)) (by simp)) rfl ?_
      refine rg_q (fun ac ww h => c_move (h.ev rfl)) rfl ?_
      refine rg_yes rfl rfl (fun ac ww h => c_fld fl72_1 (h.ev rfl)) rfl ?_
      refine rg_yes rfl rfl (fun ac ww h => c_loadA ty59 ag59 (h.ev rfl) (h.blk (hs.seg (i := 1) rfl)) (show ((knC d ep sq (mt + 1) nx _).drop 1).take 3 = [U ep, U sq, I (mt + 1)] from rfl) (by rfl)) rfl ?_
      refine rg_strip rfl rfl ?_
      refine rg_call fu36 (fun ac ww h => (.cons (h.ev rfl) .nil)) (fun ww hf => law01_From ep sq (mt + 1) ww) rfl ?_
      refine rg_yes rfl rfl (fun ac ww h => c_fld fl76_1 (h.ev rfl)) rfl ?_
      refine rg_yes rfl rfl (fun ac ww h => c_loadA ty52 ag52 (h.ev rfl) (h.blk (hs.seg (i := 0) rfl)) (show ((knC d ep sq (mt + 1) nx _).drop 1).take 3 = [U ep, U sq, I (mt + 1)] from rfl) (by rfl)) rfl ?_
      refine rg_yes rfl rfl (fun ac ww h => c_ff (c_neqKey (h.ev rfl) (h.ev rfl)) (by simp)) rfl ?_
      refine rg_q (fun ac ww h => c_pick (h.ev rfl) (h.ev rfl) (h.ev rfl)) rfl ?_
      refine rg_q (fun ac ww h => c_move (h.ev rfl)) rfl ?_
      refine rg_yes rfl rfl (fun ac ww h => c_fld fl72_2 (h.ev rfl)) rfl ?_
      refine rg_yes rfl rfl (fun ac ww h => c_loadA ty36 rfl (h.ev rfl) (h.blk (hs.seg (i := 1) rfl)) (kn_el hnx) (by rw [List.length_map, hnx])) rfl ?_
      refine rg_yes rfl rfl (fun ac ww h => c_fld fl76_2 (h.ev rfl)) rfl ?_
      refine rg_yes rfl rfl (fun ac ww h => c_loadA ty35 rfl (h.ev rfl) (h.blk (hs.seg (i := 0) rfl)) (kn_el hnx) (by rw [List.length_map, hnx])) rfl ?_
      refine rg_nil fun ac ww L' hf hfe hs => ?_
      simp only [List.drop_succ_cons, List.drop_zero]
      obtain rfl : L' = [] := hfe
      replace hs := hs.toL (List.nil_append _)
      refine s_yes hs rfl rfl ?_
      refine s_q hs (c_ff (c_neqAB un36 ty5 eg36 (hs.ev rfl) (hs.ev rfl) hnx hnx) (by simp)) rfl fun ac hs => ?_
      refine s_q hs (c_pick (hs.ev rfl) (hs.ev rfl) (hs.ev rfl)) rfl fun ac hs => ?_
      refine s_end ?_
      replace hs := hs.sub (F' := [(4, _), (5, _), (10, _), (11, _), (12, _), (64, _)]) ⟨rfl, rfl, rfl, rfl, rfl, rfl, trivial⟩
      refine then_n ?_
      refine wp_cond_false (hs.ev rfl) ?_
      refine wp_skip ?_
      refine then_n ?_
      refine wp_seq ?_
      refine wp_region_rgXK (J := [7, 8]) pmix 11 1 (by kernel_rfl) (by kernel_rfl) rfl hs ?_
      simp only [List.take_succ_cons, List.take_zero]
      refine rg_q (fun ac ww h => c_loadW ty23 ag23 (h.ev rfl) (h.blk (hs.seg (i := 8) rfl)) (by rfl)) rfl ?_
      refine rg_call fu15 (fun ac ww h => (.cons (h.ev rfl) .nil)) (fun ww hf => law08_To W S H ww) rfl ?_
      refine rg_q (fun ac ww h => c_loadW ty72 ag72 (h.ev rfl) (h.blk (hs.seg (i := 1) rfl)) (knC_length hnx)) rfl ?_
      refine rg_q (fun ac ww h => c_move (h.ev rfl)) rfl ?_
      refine rg_callV (c := .tuple #[.agg #[I 0, U 0, U 0, I 0, I 0], credV (List.replicate 16 (0 : UInt8)) (.slice none 0 0) (.slice none 0 0), I 1]) fu37 (fun ac ww h => ?_) rfl ?_
      · exact ⟨_, .cons (h.ev rfl) (.cons (h.ev rfl) (.cons (h.ev rfl) (.nil))), proof_PassB hcr hnx hpl (by omega) (Rd.fr0 (Rd.of_row (hs.get (i := 2) rfl)) h.fr)⟩
      refine rg_q (fun ac ww h => c_move (h.ev rfl)) rfl ?_
      refine rg_q (fun ac ww h => c_extract (h.ev rfl) rfl) rfl ?_
      refine rg_q (fun ac ww h => c_extract (h.ev rfl) rfl) rfl ?_
      refine rg_q (fun ac ww h => c_extract (h.ev rfl) rfl) rfl ?_
      refine rg_alloc ty61 rfl ?_
      refine rg_alloc ty56 rfl ?_
      refine rg_nil fun ac ww L' hf hfe hs hlk => ?_
      simp only [List.drop_succ_cons, List.drop_zero]
      obtain ⟨v14, L14, M14, h14, e14, ⟨v13, L13, M13, h13, e13, rfl, rfl⟩, rfl⟩ := hfe
      replace hs := hs.add h14
      replace hs := hs.add h13
      obtain ⟨g14, rfl, rfl⟩ := e14
      obtain ⟨g13, rfl, rfl⟩ := e13
      refine sf_storeW (i := 1) hs ty61 rfl rfl rfl (by rfl) (by rfl) (by simp) (fun ww hs => late_turn rfl rfl (late_turn rfl rfl (late_nil))) fun ww hs => ?_
      refine sf_storeW (i := 0) hs ty56 rfl rfl rfl (by rfl) (by rfl) (by simp) (fun ww hs => late_turn rfl rfl (late_turn rfl rfl (late_nil))) fun ww hs => ?_
      refine s_q hs (c_assign (hs.ev rfl)) rfl fun ac hs => ?_
      refine s_end ?_
      replace hs := hs.sub (F' := [(4, _), (5, _), (10, _), (12, _), (13, _), (14, _), (15, _)]) ⟨rfl, rfl, rfl, rfl, rfl, rfl, rfl, trivial⟩
      refine then_n ?_
      refine wp_seq ?_
      refine wp_reg ?_
      refine s_q hs (c_loadW ty23 ag23 (hs.ev rfl) (hs.seg (i := 10) rfl) (by rfl)) rfl fun ac hs => ?_
      refine s_q hs (c_loadW ty76 ag76 (hs.ev rfl) (hs.seg (i := 2) rfl) (knC_length hnx)) rfl fun ac hs => ?_
      refine s_q hs (c_move (hs.ev rfl)) rfl fun ac hs => ?_
      refine s_call hs fu38 (.cons (hs.ev rfl) (.cons (hs.ev rfl) (.cons (hs.ev rfl) .nil))) (ref09_PassB hcr hnx (hqp.fr0 hs.fr)) rfl fun ac ww v78 hf hp hs => ?_
      obtain rfl := hp
      replace hs := hs [] (.nil _ _)
      refine s_q hs (c_move (hs.ev rfl)) rfl fun ac hs => ?_
      refine s_q hs (c_extract (hs.ev rfl) rfl) rfl fun ac hs => ?_
      refine s_q hs (c_extract (hs.ev rfl) rfl) rfl fun ac hs => ?_
      refine s_q hs (c_extract (hs.ev rfl) rfl) rfl fun ac hs => ?_
      refine s_alloc hs ty54 rfl fun ac ww g16 hs => ?_
      refine s_alloc hs ty66 rfl fun ac ww g17 hs => ?_
      refine s_storeW (i := 1) hs ty54 rfl rfl rfl (by rfl) (by rfl) (by simp) fun ww hs => ?_
      refine s_storeW (i := 0) hs ty66 rfl rfl rfl (by rfl) (by rfl) (by simp) fun ww hs => ?_
      refine s_q hs (c_assign (hs.ev rfl)) rfl fun ac hs => ?_
      refine s_end ?_
      replace hs := hs.sub (F' := [(10, _), (13, _), (14, _), (15, _), (16, _), (17, _), (18, _)]) ⟨rfl, rfl, rfl, rfl, rfl, rfl, rfl, trivial⟩
      refine then_n ?_
      refine wp_seq ?_
      refine wp_region_rg pmix 16 (by kernel_rfl) rfl hs ?_
      simp only [List.take_succ_cons, List.take_zero]
      refine rg_call fu25 (fun ac ww h => .nil) (fun ww hf => law09_awake ww) rfl ?_
      refine rg_q (fun ac ww h => c_move (h.ev rfl)) rfl ?_
      refine rg_yes rfl rfl (fun ac ww h => c_move (h.ev rfl)) rfl ?_
      refine rg_yes rfl rfl (fun ac ww h => c_move (h.ev rfl)) rfl ?_
      refine rg_yes rfl rfl (fun ac ww h => c_tt (c_eqlI (h.ev rfl) (h.ev rfl)) (by rfl)) rfl ?_
      refine rg_q (fun ac ww h => c_pick (h.ev rfl) (h.ev rfl) (h.ev rfl)) rfl ?_
      refine rg_q (fun ac ww h => c_move (h.ev rfl)) rfl ?_
      refine rg_yes rfl rfl (fun ac ww h => c_loadW ty61 ag61 (h.ev rfl) (h.blk (hs.seg (i := 3) rfl)) (by rfl)) rfl ?_
      refine rg_strip rfl rfl ?_
      refine rg_call fu39 (fun ac ww h => (.cons (h.ev rfl) .nil)) (fun ww hf => law09_From 0 0 0 0 0 ww) rfl ?_
      refine rg_yes rfl rfl (fun ac ww h => c_loadW ty54 ag54 (h.ev rfl) (h.blk (hs.seg (i := 1) rfl)) (by rfl)) rfl ?_
      refine rg_yes rfl rfl (fun ac ww h => c_tt (c_eqlClaim (h.ev rfl) (h.ev rfl)) (by simp)) rfl ?_
      refine rg_q (fun ac ww h => c_pick (h.ev rfl) (h.ev rfl) (h.ev rfl)) rfl ?_
      refine rg_q (fun ac ww h => c_move (h.ev rfl)) rfl ?_
      refine rg_yes rfl rfl (fun ac ww h => c_loadW ty56 ag56 (h.ev rfl) (h.blk (hs.seg (i := 2) rfl)) (by rfl)) rfl ?_
      refine rg_strip rfl rfl ?_
      refine rg_callE (crE 35 (List.replicate 16 (0 : UInt8)) 0 [] 0 []) (fun _ _ _ _ _ h => h) fu30 (fun ac ww h => ?_) rfl ?_
      · exact ⟨_, .cons (h.ev rfl) (.nil), law09_FromCred (List.replicate 16 (0 : UInt8)) [] [] 0 0 _ _ (by simp) rfl rfl (by decide) (by decide) _ (rd_nil _) (rd_nil _)⟩
      refine rg_yes rfl rfl (fun ac ww h => c_loadW ty66 ag66 (h.ev rfl) (h.blk (hs.seg (i := 0) rfl)) (by rfl)) rfl ?_
      refine rg_nil fun ac ww L' hf hfe hs => ?_
      simp only [List.drop_succ_cons, List.drop_zero]
      obtain ⟨v96, L96, M96, h96, e96, rfl, rfl⟩ := hfe
      replace hs := hs.add h96
      obtain ⟨wv5, pv5, rfl, rfl⟩ := e96
      refine s_yes hs rfl rfl ?_
      refine s_call hs fu29 (.cons (hs.ev rfl) (.cons (hs.ev rfl) .nil)) (ref09_SameCredY (List.replicate 16 (0 : UInt8)) [] [] 0 0 _ _ _ _ (by simp) rfl rfl _ (Rd.of_row (hs.get (i := 1) rfl)) (Rd.of_row (hs.get (i := 0) rfl)) (rd_nil _) (rd_nil _)) rfl fun ac ww v98 hf hp hs => ?_
      obtain rfl := hp
      replace hs := hs [] (.nil _ _)
      refine s_q hs (c_pick (hs.ev rfl) (hs.ev rfl) (hs.ev rfl)) rfl fun ac hs => ?_
      refine s_q hs (c_assign (hs.ev rfl)) rfl fun ac hs => ?_
      refine s_end ?_
      replace hs := hs.sub (F' := [(10, _)]) ⟨rfl, trivial⟩
      refine then_n ?_
      refine wp_ret ?_
      refine s_ret hs rfl (.tmp (hs.tmp rfl) .nil) rfl ⟨_, rfl, hs.fr, ?_⟩
      rfl
    · refine s_q hs (c_loadW ty54 ag54 (hs.ev rfl) (hs.seg (i := 6) rfl) (by rfl)) rfl fun ac hs => ?_
      refine s_q hs (c_loadW ty35 rfl (hs.ev rfl) (hs.seg (i := 5) rfl) (by rw [List.length_map, hnx])) rfl fun ac hs => ?_
      refine s_q hs (c_loadW ty66 ag66 (hs.ev rfl) (hs.seg (i := 4) rfl) (by simp [hlf])) rfl fun ac hs => ?_
      refine s_call hs fu35 (.cons (hs.ev rfl) (.cons (hs.ev rfl) (.cons (hs.ev rfl) .nil))) (ref09_Learn d mt sn ep sq nx lf _ _ np (ps.map B) hnx hlf (by omega) _ hwo (hqp.fr0 hs.fr)) rfl fun ac ww v44 hf hp hs => ?_
      obtain rfl := hp
      replace hs := hs [] (.nil _ _)
      refine s_alloc hs ty76 rfl fun ac ww g12 hs => ?_
      refine s_storeW (i := 0) hs ty76 rfl rfl rfl (knC_length hnx) (by simp [knC, Value.oneCell', Go.Fw.B]) rfl fun ww hs => ?_
      refine s_end ?_
      replace hs := hs.sub (F' := [(4, _), (5, _), (10, _), (11, _), (12, _)]) ⟨rfl, rfl, rfl, rfl, rfl, trivial⟩
      refine then_n ?_
      refine wp_seq ?_
      refine wp_seq ?_
      refine wp_region_rg pmix 18 (by kernel_rfl) rfl hs ?_
      simp only [List.take_succ_cons, List.take_zero]
      refine rg_q (fun ac ww h => c_fld fl72_0 (h.ev rfl)) rfl ?_
      refine rg_q (fun ac ww h => c_loadS un3 rfl (h.ev rfl) (h.blk (hs.seg (i := 1) rfl)) rfl) rfl ?_
      refine rg_q (fun ac ww h => c_fld fl76_0 (h.ev rfl)) rfl ?_
      refine rg_q (fun ac ww h => c_loadS un3 rfl (h.ev rfl) (h.blk (hs.seg (i := 0) rfl)) rfl) rfl ?_
      refine rg_q (fun ac ww h => c_ff (c_neqI (h.ev rfl) (h.ev rfl)) (by simp)) rfl ?_
      refine rg_q (fun ac ww h => c_move (h.ev rfl)) rfl ?_
      refine rg_yes rfl rfl (fun ac ww h => c_fld fl72_1 (h.ev rfl)) rfl ?_
      refine rg_yes rfl rfl (fun ac ww h => c_loadA ty59 ag59 (h.ev rfl) (h.blk (hs.seg (i := 1) rfl)) (show ((knC d ep sq (mt + 1) nx _).drop 1).take 3 = [U ep, U sq, I (mt + 1)] from rfl) (by rfl)) rfl ?_
      refine rg_strip rfl rfl ?_
      refine rg_call fu36 (fun ac ww h => (.cons (h.ev rfl) .nil)) (fun ww hf => law01_From ep sq (mt + 1) ww) rfl ?_
      refine rg_yes rfl rfl (fun ac ww h => c_fld fl76_1 (h.ev rfl)) rfl ?_
      refine rg_yes rfl rfl (fun ac ww h => c_loadA ty52 ag52 (h.ev rfl) (h.blk (hs.seg (i := 0) rfl)) (show ((knC d ep sq (mt + 1) nx _).drop 1).take 3 = [U ep, U sq, I (mt + 1)] from rfl) (by rfl)) rfl ?_
      refine rg_yes rfl rfl (fun ac ww h => c_ff (c_neqKey (h.ev rfl) (h.ev rfl)) (by simp)) rfl ?_
      refine rg_q (fun ac ww h => c_pick (h.ev rfl) (h.ev rfl) (h.ev rfl)) rfl ?_
      refine rg_q (fun ac ww h => c_move (h.ev rfl)) rfl ?_
      refine rg_yes rfl rfl (fun ac ww h => c_fld fl72_2 (h.ev rfl)) rfl ?_
      refine rg_yes rfl rfl (fun ac ww h => c_loadA ty36 rfl (h.ev rfl) (h.blk (hs.seg (i := 1) rfl)) (kn_el hnx) (by rw [List.length_map, hnx])) rfl ?_
      refine rg_yes rfl rfl (fun ac ww h => c_fld fl76_2 (h.ev rfl)) rfl ?_
      refine rg_yes rfl rfl (fun ac ww h => c_loadA ty35 rfl (h.ev rfl) (h.blk (hs.seg (i := 0) rfl)) (kn_el hnx) (by rw [List.length_map, hnx])) rfl ?_
      refine rg_nil fun ac ww L' hf hfe hs => ?_
      simp only [List.drop_succ_cons, List.drop_zero]
      obtain rfl : L' = [] := hfe
      replace hs := hs.toL (List.nil_append _)
      refine s_yes hs rfl rfl ?_
      refine s_q hs (c_ff (c_neqAB un36 ty5 eg36 (hs.ev rfl) (hs.ev rfl) hnx hnx) (by simp)) rfl fun ac hs => ?_
      refine s_q hs (c_pick (hs.ev rfl) (hs.ev rfl) (hs.ev rfl)) rfl fun ac hs => ?_
      refine s_end ?_
      replace hs := hs.sub (F' := [(4, _), (5, _), (10, _), (11, _), (12, _), (64, _)]) ⟨rfl, rfl, rfl, rfl, rfl, rfl, trivial⟩
      refine then_n ?_
      refine wp_cond_false (hs.ev rfl) ?_
      refine wp_skip ?_
      refine then_n ?_
      refine wp_seq ?_
      refine wp_region_rgXK (J := [7, 8]) pmix 11 1 (by kernel_rfl) (by kernel_rfl) rfl hs ?_
      simp only [List.take_succ_cons, List.take_zero]
      refine rg_q (fun ac ww h => c_loadW ty23 ag23 (h.ev rfl) (h.blk (hs.seg (i := 8) rfl)) (by rfl)) rfl ?_
      refine rg_call fu15 (fun ac ww h => (.cons (h.ev rfl) .nil)) (fun ww hf => law08_To W S H ww) rfl ?_
      refine rg_q (fun ac ww h => c_loadW ty72 ag72 (h.ev rfl) (h.blk (hs.seg (i := 1) rfl)) (knC_length hnx)) rfl ?_
      refine rg_q (fun ac ww h => c_move (h.ev rfl)) rfl ?_
      refine rg_callE (tupG [.agg #[I d, U ep, U sq, I (mt + 1), I nid]] [I 0] (crE 36 (shL d ep sq (mt + 1) nx W nid) (shN (mt + 1) W nid) (shW d ep sq (mt + 1) nx W nid) np ps)) (fun _ _ _ _ _ h => h) fu37 (fun ac ww h => ?_) rfl ?_
      · exact ⟨_, .cons (h.ev rfl) (.cons (h.ev rfl) (.cons (h.ev rfl) (.nil))), proof_PassE hcr hnx hpl (by omega) (Rd.fr0 (Rd.of_row (hs.get (i := 2) rfl)) h.fr)⟩
      refine rg_moveG rfl rfl rfl ?_
      refine rg_extGc rfl rfl rfl (fun _ => rfl) ?_
      refine rg_extGe rfl rfl rfl rfl ?_
      refine rg_extGc rfl rfl rfl (fun _ => rfl) ?_
      refine rg_alloc ty61 rfl ?_
      refine rg_alloc ty56 rfl ?_
      refine rg_nil fun ac ww L' hf hfe hs hlk => ?_
      simp only [List.drop_succ_cons, List.drop_zero]
      obtain ⟨v14, L14, M14, h14, e14, ⟨v13, L13, M13, h13, e13, ⟨v72, L72, M72, h72, e72, ⟨v65, L65, M65, h65, e65, ⟨v70, L70, M70, h70, e70, rfl, rfl⟩, rfl⟩, rfl⟩, rfl⟩, rfl⟩ := hfe
      replace hs := hs.add h14
      replace hs := hs.add h13
      replace hs := hs.add h72
      replace hs := hs.add h65
      replace hs := hs.add h70
      obtain ⟨g14, rfl, rfl⟩ := e14
      obtain ⟨g13, rfl, rfl⟩ := e13
      obtain ⟨tv70, rfl, e70⟩ := e70
      obtain ⟨-, rfl⟩ := e65
      obtain rfl := lk_move (j := 5) hlk (by decide) rfl (by kernel_rfl) h65 h70
      obtain ⟨-, rfl⟩ := e72
      obtain rfl := lk_ext (j := 7) hlk (by decide) rfl (by kernel_rfl) h72 h65 rfl
      obtain ⟨wv3, pv3, rfl, rfl⟩ := e70
      have hq3w := Rd.of_row (hs.get (i := 3) rfl)
      have hq3p := Rd.of_row (hs.get (i := 2) rfl)
      have hwo3 := hq3w.one
      have hpo3 := hq3p.one
      have hsl : (shL d ep sq (mt + 1) nx W nid).length = 16 := shL_length _ _ _ _ _ _ _
      have hswl : (shW d ep sq (mt + 1) nx W nid).length = (shN (mt + 1) W nid) * 16 := shW_length _ _ _ _ _ _ _
      have hsn9 := shN_le (mt + 1) W nid
      refine sf_storeW (i := 1) hs ty61 rfl rfl rfl (by rfl) (by rfl) (by simp) (fun ww hs => late_turn rfl rfl (late_turn rfl rfl (late_nil))) fun ww hs => ?_
      refine sf_storeW (i := 0) hs ty56 rfl rfl rfl (cred_length hsl _ _) (by simp [hwo3, hpo3]; exact fun x _ => rfl) rfl (fun ww hs => late_turn rfl rfl (late_turn rfl rfl (late_nil))) fun ww hs => ?_
      refine s_q hs (c_assign (hs.ev rfl)) rfl fun ac hs => ?_
      refine s_end ?_
      replace hs := hs.sub (F' := [(4, _), (5, _), (10, _), (12, _), (13, _), (14, _), (15, _)]) ⟨rfl, rfl, rfl, rfl, rfl, rfl, rfl, trivial⟩
      refine then_n ?_
      refine wp_seq ?_
      refine wp_reg ?_
      refine s_q hs (c_loadW ty23 ag23 (hs.ev rfl) (hs.seg (i := 12) rfl) (by rfl)) rfl fun ac hs => ?_
      refine s_q hs (c_loadW ty76 ag76 (hs.ev rfl) (hs.seg (i := 4) rfl) (knC_length hnx)) rfl fun ac hs => ?_
      refine s_q hs (c_move (hs.ev rfl)) rfl fun ac hs => ?_
      refine s_call hs fu38 (.cons (hs.ev rfl) (.cons (hs.ev rfl) (.cons (hs.ev rfl) .nil))) (ref09_PassE hcr hnx (hqp.fr0 hs.fr)) rfl fun ac ww v78 hf hp hs => ?_
      obtain ⟨L', ⟨wv4, rfl, rfl⟩, hh⟩ := hp
      replace hs := hs _ hh
      refine s_q hs (c_move (hs.ev rfl)) rfl fun ac hs => ?_
      refine s_q hs (c_extract (hs.ev rfl) rfl) rfl fun ac hs => ?_
      refine s_q hs (c_extract (hs.ev rfl) rfl) rfl fun ac hs => ?_
      refine s_q hs (c_extract (hs.ev rfl) rfl) rfl fun ac hs => ?_
      refine s_alloc hs ty54 rfl fun ac ww g16 hs => ?_
      refine s_alloc hs ty66 rfl fun ac ww g17 hs => ?_
      refine s_storeW (i := 1) hs ty54 rfl rfl rfl (by rfl) (by rfl) (by simp) fun ww hs => ?_
      have hwo4 := (Rd.of_row (hs.get (i := 2) rfl)).one
      refine s_storeW (i := 0) hs ty66 rfl rfl rfl (cred_length hsl _ _) (by simp [hwo4]; exact ⟨fun x _ => rfl, rfl⟩) rfl fun ww hs => ?_
      refine s_q hs (c_assign (hs.ev rfl)) rfl fun ac hs => ?_
      refine s_end ?_
      replace hs := hs.sub (F' := [(10, _), (13, _), (14, _), (15, _), (16, _), (17, _), (18, _)]) ⟨rfl, rfl, rfl, rfl, rfl, rfl, rfl, trivial⟩
      refine then_n ?_
      refine wp_seq ?_
      refine wp_region_rg pmix 16 (by kernel_rfl) rfl hs ?_
      simp only [List.take_succ_cons, List.take_zero]
      refine rg_call fu25 (fun ac ww h => .nil) (fun ww hf => law09_awake ww) rfl ?_
      refine rg_q (fun ac ww h => c_move (h.ev rfl)) rfl ?_
      refine rg_yes rfl rfl (fun ac ww h => c_move (h.ev rfl)) rfl ?_
      refine rg_yes rfl rfl (fun ac ww h => c_move (h.ev rfl)) rfl ?_
      refine rg_yes rfl rfl (fun ac ww h => c_tt (c_eqlI (h.ev rfl) (h.ev rfl)) (by rfl)) rfl ?_
      refine rg_q (fun ac ww h => c_pick (h.ev rfl) (h.ev rfl) (h.ev rfl)) rfl ?_
      refine rg_q (fun ac ww h => c_move (h.ev rfl)) rfl ?_
      refine rg_yes rfl rfl (fun ac ww h => c_loadW ty61 ag61 (h.ev rfl) (h.blk (hs.seg (i := 4) rfl)) (by rfl)) rfl ?_
      refine rg_strip rfl rfl ?_
      refine rg_call fu39 (fun ac ww h => (.cons (h.ev rfl) .nil)) (fun ww hf => law09_From d (mt + 1) nid ep sq ww) rfl ?_
      refine rg_yes rfl rfl (fun ac ww h => c_loadW ty54 ag54 (h.ev rfl) (h.blk (hs.seg (i := 1) rfl)) (by rfl)) rfl ?_
      refine rg_yes rfl rfl (fun ac ww h => c_tt (c_eqlClaim (h.ev rfl) (h.ev rfl)) (by simp)) rfl ?_
      refine rg_q (fun ac ww h => c_pick (h.ev rfl) (h.ev rfl) (h.ev rfl)) rfl ?_
      refine rg_q (fun ac ww h => c_move (h.ev rfl)) rfl ?_
      refine rg_yes rfl rfl (fun ac ww h => c_loadW ty56 ag56 (h.ev rfl) (h.blk (hs.seg (i := 3) rfl)) (cred_length hsl _ _)) rfl ?_
      refine rg_strip rfl rfl ?_
      refine rg_callE (crE 35 (shL d ep sq (mt + 1) nx W nid) (shN (mt + 1) W nid) (shW d ep sq (mt + 1) nx W nid) np ps) (fun _ _ _ _ _ h => h) fu30 (fun ac ww h => ?_) rfl ?_
      · exact ⟨_, .cons (h.ev rfl) (.nil), law09_FromCred _ _ _ _ _ _ _ hsl hswl hpl (by omega) (by omega) _ (Rd.fr0 (Rd.of_row (hs.get (i := 6) rfl)) h.fr) (Rd.fr0 (Rd.of_row (hs.get (i := 5) rfl)) h.fr)⟩
      refine rg_yes rfl rfl (fun ac ww h => c_loadW ty66 ag66 (h.ev rfl) (h.blk (hs.seg (i := 0) rfl)) (cred_length hsl _ _)) rfl ?_
      refine rg_nil fun ac ww L' hf hfe hs => ?_
      simp only [List.drop_succ_cons, List.drop_zero]
      obtain ⟨v96, L96, M96, h96, e96, rfl, rfl⟩ := hfe
      replace hs := hs.add h96
      obtain ⟨wv5, pv5, rfl, rfl⟩ := e96
      refine s_yes hs rfl rfl ?_
      refine s_call hs fu29 (.cons (hs.ev rfl) (.cons (hs.ev rfl) .nil)) (ref09_SameCredY _ _ _ _ _ _ _ _ _ hsl hswl hpl _ (Rd.of_row (hs.get (i := 1) rfl)) (Rd.of_row (hs.get (i := 0) rfl)) (Rd.of_row (hs.get (i := 4) rfl)) (hqp.fr0 hs.fr)) rfl fun ac ww v98 hf hp hs => ?_
      obtain rfl := hp
      replace hs := hs [] (.nil _ _)
      refine s_q hs (c_pick (hs.ev rfl) (hs.ev rfl) (hs.ev rfl)) rfl fun ac hs => ?_
      refine s_q hs (c_assign (hs.ev rfl)) rfl fun ac hs => ?_
      refine s_end ?_
      replace hs := hs.sub (F' := [(10, _)]) ⟨rfl, trivial⟩
      refine then_n ?_
      refine wp_ret ?_
      refine s_ret hs rfl (.tmp (hs.tmp rfl) .nil) rfl ⟨_, rfl, hs.fr, ?_⟩
      rfl
end Go.Proofs.YtklajbdbnnceiaaGreat
end
