/- Plain: each line with tokens fits exactly one of the templates, and the counts are those of the lines that fit. -/
import Derived.Test.YtmofaabndjnhjaaFinding
import Derived.Test.YtmofaabndjnhjaaPlain
import Derived.Test.YtmofaabndjnhjaaOrder
import Derived.Laws.MakeOwn
set_option linter.unusedVariables false
namespace Go.Proofs.Ytmofaabndjnhjaa
open Go Go.Aw Go.Pl Go.RowKit
theorem fitsB_iff {ps ts : List ByteArray} : fitsB ps ts = true ↔ ps.length = ts.length ∧ ∀ p, p < ts.length → ps.getD p em = em ∨ ps.getD p em = ts.getD p em := by
  unfold fitsB
  rw [Bool.and_eq_true, decide_eq_true_eq, List.all_eq_true]
  constructor
  · rintro ⟨h1, h2⟩
    refine ⟨h1, fun p hp => ?_⟩
    have hp1 : p < ps.length := by omega
    have := h2 (ps[p], ts[p]) (by rw [List.mem_iff_getElem]; exact ⟨p, by rw [List.length_zip]; omega, by simp⟩)
    simp only [fit1, Bool.or_eq_true, decide_eq_true_eq] at this
    rw [List.getD_eq_getElem?_getD, List.getD_eq_getElem?_getD, List.getElem?_eq_getElem hp1, List.getElem?_eq_getElem hp]
    exact this
  · rintro ⟨h1, h2⟩
    refine ⟨h1, fun x hx => ?_⟩
    obtain ⟨p, hp, rfl⟩ := List.mem_iff_getElem.1 hx
    rw [List.length_zip] at hp
    have := h2 p (by omega)
    rw [List.getD_eq_getElem?_getD, List.getD_eq_getElem?_getD, List.getElem?_eq_getElem (by omega), List.getElem?_eq_getElem (by omega)] at this
    simp only [List.getElem_zip, fit1, Bool.or_eq_true, decide_eq_true_eq]
    exact this
theorem walkQ_at {q : List El} : ∀ {n p : Nat} {acc r : List ByteArray}, walkQ q n p acc = .inl r → acc.length = p → (∀ i, i < p → r.getD i em = acc.getD i em) ∧ ∀ i, p ≤ i → i < p + n → r.getD i em = tokQ (atQ q i)
  | 0, p, acc, r, h, _ => by
    simp [walkQ] at h
    subst h
    exact ⟨fun i _ => rfl, fun i h1 h2 => by omega⟩
  | n + 1, p, acc, r, h, hl => by
    unfold walkQ at h
    split at h
    · cases h
    · obtain ⟨h1, h2⟩ := walkQ_at h (by simp [hl])
      refine ⟨fun i hi => ?_, fun i hi1 hi2 => ?_⟩
      · rw [h1 i (by omega), List.getD_eq_getElem?_getD, List.getD_eq_getElem?_getD, List.getElem?_append_left (by omega)]
      · by_cases e : i = p
        · subst e
          rw [h1 i (by omega), List.getD_eq_getElem?_getD, List.getElem?_append_right (by omega), hl]
          simp
        · exact h2 i (by omega) (by omega)
theorem tokQ_fits {q : List El} {t : El} (ht : t ∈ q) (p : Nat) : tokQ (atQ q p) = em ∨ tokQ (atQ q p) = t.1.getD p em := by
  obtain ⟨a, ha, e⟩ := atQ_keys.2 ⟨t, ht, rfl⟩
  unfold tokQ
  by_cases h : 1 < (atQ q p).length
  · exact .inl (if_pos h)
  · rw [if_neg h]
    right
    match hq : atQ q p, ha, h with
    | [b], ha, _ => rw [List.mem_singleton.1 ha] at e; exact e
    | b :: c :: r, _, h => exact absurd (by simp) h
theorem tokQ_const {q : List El} {p : Nat} {k : ByteArray} (hne : q ≠ []) (h : ∀ t ∈ q, t.1.getD p em = k) : tokQ (atQ q p) = k := by
  have hk : ∀ a ∈ atQ q p, a.1 = k := fun a ha => by
    obtain ⟨t, ht, e⟩ := atQ_keys.1 ⟨a, ha, rfl⟩
    rw [← e]; exact h t ht
  have hA := atQ_asc q p
  have hn := atQ_ne (p := p) hne
  match hq : atQ q p, hk, hA, hn with
  | [], _, _, hn => exact absurd rfl hn
  | [b], hk, _, _ => unfold tokQ; rw [if_neg (by simp)]; exact hk b (List.mem_singleton.2 rfl)
  | b :: c :: r, hk, hA, _ =>
    have h1 := List.rel_of_pairwise_cons hA (List.mem_cons_self ..)
    have e1 := hk b (List.mem_cons_self ..)
    have e2 := hk c (List.mem_cons_of_mem _ (List.mem_cons_self ..))
    rw [e1, e2] at h1
    exact absurd h1 (cmpS_self k)
theorem part_ne {q : List El} {p : Nat} {a : ByteArray × Int} (ha : a ∈ atQ q p) : q.filter (fun t => decide (t.1.getD p em = a.1)) ≠ [] := by
  obtain ⟨t, ht, e⟩ := atQ_keys.1 ⟨a, ha, rfl⟩
  exact List.ne_nil_of_mem (List.mem_filter.2 ⟨ht, decide_eq_true e⟩)
theorem mineQ_tok {w p : Nat} {k : ByteArray} (hp : p < w) : ∀ (f : Nat) {q : List El}, (∀ t ∈ q, t.1.length = w) → q ≠ [] → (∀ t ∈ q, t.1.getD p em = k) → ∀ a ∈ mineQ f q, a.1.getD p em = k
  | 0, q, _, _, _, a, ha => by simp [mineQ] at ha
  | f + 1, q, hq, hne, hk, a, ha => by
    unfold mineQ at ha
    split at ha
    · rename_i acc h
      rw [List.mem_singleton] at ha
      rw [widQ_of hq hne] at h
      rw [ha, (walkQ_at h rfl).2 p (by omega) (by omega)]
      exact tokQ_const hne hk
    · obtain ⟨b, hb, ha⟩ := List.mem_flatMap.1 ha
      exact mineQ_tok hp f (fun t ht => hq t (List.mem_filter.1 ht).1) (part_ne hb) (fun t ht => hk t (List.mem_filter.1 ht).1) a ha
theorem countP_flatMap_one {α β : Type} (pr : β → Bool) (f : α → List β) : ∀ (l : List α) (a : α), l.Nodup → a ∈ l → (f a).countP pr = 1 → (∀ b ∈ l, b ≠ a → (f b).countP pr = 0) → (l.flatMap f).countP pr = 1
  | [], a, _, h, _, _ => by cases h
  | b :: l, a, hn, ha, h1, h0 => by
    rw [List.flatMap_cons, List.countP_append]
    have hb := List.nodup_cons.1 hn
    have hz : ∀ (l : List α), (∀ b ∈ l, (f b).countP pr = 0) → (l.flatMap f).countP pr = 0 := by
      intro l
      induction l with
      | nil => intro _; rfl
      | cons c l ih =>
        intro h
        rw [List.flatMap_cons, List.countP_append, h c (List.mem_cons_self ..), ih fun b hb => h b (List.mem_cons_of_mem _ hb)]
    rcases List.mem_cons.1 ha with rfl | ha'
    · rw [h1, hz l fun c hc => h0 c (List.mem_cons_of_mem _ hc) (fun e => hb.1 (e ▸ hc))]
    · have hba : b ≠ a := fun e => hb.1 (e ▸ ha')
      rw [h0 b (List.mem_cons_self ..) hba, countP_flatMap_one pr f l a hb.2 ha' h1 fun c hc hca => h0 c (List.mem_cons_of_mem _ hc) hca]
theorem asc_nodup {L : KV} (h : Asc L) : L.Nodup := by
  unfold List.Nodup
  exact List.Pairwise.imp (R := fun a b : ByteArray × Int => cmpS a.1 b.1 < 0) (fun {a b} hab e => by subst e; exact cmpS_self _ hab) h
theorem mineQ_one {w : Nat} : ∀ (f : Nat) {q : List El}, (∀ t ∈ q, t.1.length = w) → q.length ≤ f → ∀ t ∈ q, (mineQ f q).countP (fun a => fitsB a.1 t.1) = 1
  | 0, q, _, hf, t, ht => by
    have := List.eq_nil_of_length_eq_zero (Nat.le_zero.1 hf)
    rw [this] at ht; cases ht
  | f + 1, q, hq, hf, t, ht => by
    have hne : q ≠ [] := List.ne_nil_of_mem ht
    unfold mineQ
    split
    · rename_i acc h
      rw [widQ_of hq hne] at h
      have h2 := walkQ_inl h
      have hfit : fitsB acc t.1 = true := by
        rw [fitsB_iff]
        refine ⟨by rw [h2, hq t ht]; simp, fun p hp => ?_⟩
        rw [(walkQ_at h rfl).2 p (by omega) (by rw [hq t ht] at hp; omega)]
        exact tokQ_fits ht p
      rw [List.countP_cons, List.countP_nil, hfit]; rfl
    · rename_i p h
      have hsp := walkQ_inr h
      have h2 := splQ_two hsp
      obtain ⟨a0, ha0, e0⟩ := atQ_keys.2 ⟨t, ht, rfl⟩
      have hnoem : ∀ a ∈ atQ q p, a.1 ≠ em := fun a ha e => by
        simp only [splQ, Bool.and_eq_true, Bool.not_eq_true', List.any_eq_false] at hsp
        have := hsp.2 a ha
        simp [e] at this
      refine countP_flatMap_one _ _ _ a0 (asc_nodup (atQ_asc q p)) ha0 ?_ fun a ha hne2 => ?_
      · exact mineQ_one f (fun x hx => hq x (List.mem_filter.1 hx).1) (by have := part_short ha0 h2; omega) t (List.mem_filter.2 ⟨ht, decide_eq_true e0.symm⟩)
      · rw [List.countP_eq_zero]
        intro b hb
        rw [fitsB_iff]
        rintro ⟨_, h4⟩
        have hpw : p < w := by
          rcases Nat.lt_or_ge p w with h5 | h5
          · exact h5
          · have hall : ∀ x ∈ q, x.1.getD p em = em := fun x hx => by
              rw [List.getD_eq_getElem?_getD, List.getElem?_eq_none (by rw [hq x hx]; exact h5)]; rfl
            obtain ⟨x, hx, ex⟩ := atQ_keys.1 ⟨a, ha, rfl⟩
            exact absurd (ex.symm.trans (hall x hx)) (hnoem a ha)
        have hbt := mineQ_tok (k := a.1) hpw f (fun x hx => hq x (List.mem_filter.1 hx).1) (part_ne ha) (fun x hx => of_decide_eq_true (List.mem_filter.1 hx).2) b hb
        rcases h4 p (by rw [hq t ht]; exact hpw) with h6 | h6
        · exact hnoem a ha (hbt.symm.trans h6)
        · have e7 : a.1 = a0.1 := by rw [e0, ← h6]; exact hbt.symm
          have hA := atQ_asc q p
          obtain ⟨i, hi⟩ := List.mem_iff_getElem?.1 ha
          obtain ⟨j, hj⟩ := List.mem_iff_getElem?.1 ha0
          rcases Nat.lt_trichotomy i j with hlt | rfl | hlt
          · exact asc_take hA hj (List.mem_iff_getElem?.2 ⟨i, by rw [List.getElem?_take_of_lt hlt, hi]⟩) e7
          · rw [hi] at hj; exact hne2 (Option.some.inj hj)
          · exact asc_take hA hi (List.mem_iff_getElem?.2 ⟨j, by rw [List.getElem?_take_of_lt hlt, hj]⟩) e7.symm
theorem mineQ_cnt {w : Nat} : ∀ (f : Nat) {q : List El}, (∀ t ∈ q, t.1.length = w) → q ≠ [] → ∀ a ∈ mineQ f q, a.2 = totQ (q.filter fun t => fitsB a.1 t.1) ∧ ∃ t ∈ q, fitsB a.1 t.1 = true
  | 0, q, _, _, a, ha => by simp [mineQ] at ha
  | f + 1, q, hq, hne, a, ha => by
    unfold mineQ at ha
    split at ha
    · rename_i acc h
      rw [List.mem_singleton] at ha
      subst ha
      rw [widQ_of hq hne] at h
      have h2 := walkQ_inl h
      have hfit : ∀ t ∈ q, fitsB acc t.1 = true := fun t ht => by
        rw [fitsB_iff]
        refine ⟨by rw [h2, hq t ht]; simp, fun p hp => ?_⟩
        rw [(walkQ_at h rfl).2 p (by omega) (by rw [hq t ht] at hp; omega)]
        exact tokQ_fits ht p
      refine ⟨by rw [List.filter_eq_self.2 hfit], ?_⟩
      obtain ⟨t, ht⟩ := List.exists_mem_of_ne_nil _ hne
      exact ⟨t, ht, hfit t ht⟩
    · rename_i p h
      obtain ⟨b, hb, ha⟩ := List.mem_flatMap.1 ha
      have hsp := walkQ_inr h
      have hnoem : b.1 ≠ em := fun e => by
        simp only [splQ, Bool.and_eq_true, Bool.not_eq_true', List.any_eq_false] at hsp
        have := hsp.2 b hb
        simp [e] at this
      have hpw : p < w := by
        rcases Nat.lt_or_ge p w with h5 | h5
        · exact h5
        · have hall : ∀ x ∈ q, x.1.getD p em = em := fun x hx => by
            rw [List.getD_eq_getElem?_getD, List.getElem?_eq_none (by rw [hq x hx]; exact h5)]; rfl
          obtain ⟨x, hx, ex⟩ := atQ_keys.1 ⟨b, hb, rfl⟩
          exact absurd (ex.symm.trans (hall x hx)) hnoem
      have hlen : ∀ x ∈ q.filter (fun t => decide (t.1.getD p em = b.1)), x.1.length = w := fun x hx => hq x (List.mem_filter.1 hx).1
      have hbt := mineQ_tok (k := b.1) hpw f hlen (part_ne hb) (fun x hx => of_decide_eq_true (List.mem_filter.1 hx).2) a ha
      obtain ⟨h1, t, ht, h2⟩ := mineQ_cnt f hlen (part_ne hb) a ha
      refine ⟨?_, t, (List.mem_filter.1 ht).1, h2⟩
      rw [h1, List.filter_filter]
      congr 1
      refine List.filter_congr fun x hx => ?_
      cases hf : fitsB a.1 x.1 with
      | false => rfl
      | true =>
        rw [Bool.true_and]
        refine decide_eq_true ?_
        rcases (fitsB_iff.1 hf).2 p (by rw [hq x hx]; exact hpw) with h6 | h6
        · exact absurd (hbt.symm.trans h6) hnoem
        · exact h6.symm.trans hbt
theorem allQ_one {q : List El} {t : El} (ht : t ∈ q) (hv : vE t = true) : (allQ q).countP (fun a => fitsB a.1 t.1) = 1 := by
  have h3 := vE_iff.1 hv
  have hg : t ∈ grpQ t.1.length q := grpQ_mem.2 ⟨ht, hv, rfl⟩
  refine countP_flatMap_one _ _ _ t.1.length List.nodup_range (List.mem_range.2 (by omega)) ?_ fun n hn hne => ?_
  · have hne : grpQ t.1.length q ≠ [] := List.ne_nil_of_mem hg
    rw [mineG, if_neg hne]
    exact mineQ_one _ (fun x hx => (grpQ_mem.1 hx).2.2) (Nat.le_refl _) t hg
  · rw [List.countP_eq_zero]
    intro a ha
    unfold mineG at ha
    split at ha
    · cases ha
    · rename_i hgn
      have := mineQ_len (w := n) _ (fun x hx => (grpQ_mem.1 hx).2.2) hgn a ha
      rw [fitsB_iff]
      rintro ⟨h, _⟩
      exact hne (this.symm.trans h)
theorem allQ_cnt {q : List El} (hv : ∀ t ∈ q, vE t = true) {a : El} (ha : a ∈ allQ q) : a.2 = totQ (q.filter fun t => fitsB a.1 t.1) ∧ ∃ t ∈ q, fitsB a.1 t.1 = true := by
  obtain ⟨n, _, ha⟩ := List.mem_flatMap.1 ha
  unfold mineG at ha
  split at ha
  · cases ha
  · rename_i hgn
    have hl := mineQ_len (w := n) _ (fun x hx => (grpQ_mem.1 hx).2.2) hgn a ha
    obtain ⟨h1, t, ht, h2⟩ := mineQ_cnt (w := n) _ (fun x hx => (grpQ_mem.1 hx).2.2) hgn a ha
    refine ⟨?_, t, (grpQ_mem.1 ht).1, h2⟩
    rw [h1, grpQ, List.filter_filter]
    congr 1
    refine List.filter_congr fun x hx => ?_
    cases hf : fitsB a.1 x.1 with
    | false => rfl
    | true =>
      rw [Bool.true_and, hv x hx, Bool.true_and]
      exact decide_eq_true ((fitsB_iff.1 hf).1.symm.trans hl)
/-- The templates of lines. -/
theorem toks_vE {s : ByteArray} {ts : List ByteArray} (h : toksOf s = some ts) : vE (ts, 1) = true := by
  unfold toksOf at h
  split at h
  · cases h
  · rename_i h2
    cases h
    rw [vE_iff]
    simp only [List.length_map]
    omega
theorem lineE_v (ls : List ByteArray) : ∀ t ∈ lineE ls, vE t = true ∧ t.2 = 1 := fun t ht => by
  obtain ⟨s, _, h2⟩ := List.mem_filterMap.1 ht
  obtain ⟨ts, h4, h3⟩ := Option.map_eq_some_iff.1 h2
  rw [← h3]
  exact ⟨toks_vE h4, rfl⟩
theorem tot_ones : ∀ (q : List El) (n : Int), (∀ t ∈ q, t.2 = 1) → 0 ≤ n → n + q.length ≤ 9223372036854775807 → q.foldl (fun n t => sumK n t.2) n = n + q.length
  | [], n, _, _, _ => by simp
  | t :: q, n, h, h0, h1 => by
    have h2 := h t (List.mem_cons_self ..)
    simp only [List.length_cons] at h1
    have h3 : sumK n t.2 = n + 1 := by rw [h2, sumK, if_neg (by omega)]
    rw [List.foldl_cons, h3, tot_ones q (n + 1) (fun x hx => h x (List.mem_cons_of_mem _ hx)) (by omega) (by omega), List.length_cons]; omega
def cntF (q : List El) (a : El) : Int := ((q.filter fun t => fitsB a.1 t.1).length : Nat)
theorem mineL_cnt {ls : List ByteArray} (hl : ls.length ≤ 1048576) {a : El} (ha : a ∈ mineL ls) : a.2 = cntF (lineE ls) a ∧ ∃ t ∈ lineE ls, fitsB a.1 t.1 = true := by
  have h1 := (srtE_perm _).mem_iff.1 ha
  obtain ⟨h2, h3⟩ := allQ_cnt (fun t ht => (lineE_v ls t ht).1) h1
  refine ⟨?_, h3⟩
  have hle := lineE_len ls
  have hf := List.length_filter_le (fun t : El => fitsB a.1 t.1) (lineE ls)
  rw [h2, totQ, tot_ones _ 0 (fun t ht => (lineE_v ls t (List.mem_filter.1 ht).1).2) (by omega) (by omega), cntF]; omega
theorem mineL_one {ls : List ByteArray} {s : ByteArray} {ts : List ByteArray} (hs : s ∈ ls) (ht : toksOf s = some ts) : (mineL ls).countP (fun a => fitsB a.1 ts) = 1 := by
  have hm : (ts, (1 : Int)) ∈ lineE ls := List.mem_filterMap.2 ⟨s, hs, by rw [ht]; rfl⟩
  rw [mineL, ofQ, (srtE_perm _).countP_eq]
  exact allQ_one hm (toks_vE ht)
theorem mineL_strict {ls : List ByteArray} (hl : ls.length ≤ 1048576) : (mineL ls).Pairwise fun a b => cmpE a b < 0 := by
  have hs : Srt (mineL ls) := srtE_srt _
  rw [List.pairwise_iff_getElem]
  intro i j hi hj hij
  have h1 := List.pairwise_iff_getElem.1 hs i j hi hj hij
  rcases cmpE_tri (mineL ls)[i] (mineL ls)[j] with h | h | h
  · exact h
  · obtain ⟨_, t, ht, hf⟩ := mineL_cnt hl (List.getElem_mem hi)
    obtain ⟨s, hs2, h5⟩ := List.mem_filterMap.1 ht
    obtain ⟨ts, h6, h7⟩ := Option.map_eq_some_iff.1 h5
    have h8 := mineL_one hs2 h6
    have hf1 : fitsB (mineL ls)[i].1 ts = true := by rw [← h7] at hf; exact hf
    have hf2 : fitsB (mineL ls)[j].1 ts = true := by rw [← h]; exact hf1
    have : 2 ≤ (mineL ls).countP (fun a => fitsB a.1 ts) := by
      have e1 : (mineL ls) = (mineL ls).take j ++ (mineL ls)[j] :: (mineL ls).drop (j + 1) := by rw [← List.drop_eq_getElem_cons hj, List.take_append_drop]
      rw [e1, List.countP_append, List.countP_cons, hf2, if_pos rfl]
      have : 0 < ((mineL ls).take j).countP (fun a => fitsB a.1 ts) := List.countP_pos_iff.2 ⟨(mineL ls)[i], List.mem_iff_getElem?.2 ⟨i, by rw [List.getElem?_take_of_lt hij, List.getElem?_eq_getElem hi]⟩, hf1⟩
      omega
    omega
  · exact absurd h h1
/-- One more line: only its template counts one more. -/
theorem one_index {α : Type} {pr : α → Bool} {l : List α} (h : l.countP pr = 1) : ∃ k, l.findIdx pr = k ∧ k < l.length ∧ ∀ j x, l[j]? = some x → (pr x = true ↔ j = k) := by
  have hpos : 0 < l.countP pr := by omega
  obtain ⟨x, hx, hpx⟩ := List.countP_pos_iff.1 hpos
  have hlt : l.findIdx pr < l.length := List.findIdx_lt_length_of_exists ⟨x, hx, hpx⟩
  refine ⟨_, rfl, hlt, fun j y hy => ⟨fun hp => ?_, fun e => ?_⟩⟩
  · obtain ⟨hj, e⟩ := List.getElem?_eq_some_iff.1 hy
    rcases Nat.lt_trichotomy j (l.findIdx pr) with hlt2 | h2 | hgt
    · have := List.not_of_lt_findIdx hlt2
      rw [e, hp] at this; cases this
    · exact h2
    · have h3 : pr l[l.findIdx pr] = true := List.findIdx_getElem (w := hlt)
      have e1 : l = l.take j ++ l[j] :: l.drop (j + 1) := by rw [← List.drop_eq_getElem_cons hj, List.take_append_drop]
      have : 2 ≤ l.countP pr := by
        rw [e1, List.countP_append, List.countP_cons, e, hp, if_pos rfl]
        have : 0 < (l.take j).countP pr := List.countP_pos_iff.2 ⟨l[l.findIdx pr], List.mem_iff_getElem?.2 ⟨l.findIdx pr, by rw [List.getElem?_take_of_lt hgt, List.getElem?_eq_getElem hlt]⟩, h3⟩
        omega
      omega
  · subst e
    obtain ⟨hj, e⟩ := List.getElem?_eq_some_iff.1 hy
    rw [← e]; exact List.findIdx_getElem (w := hj)
end Go.Proofs.Ytmofaabndjnhjaa
/- The law TemplatePartition: its walk. -/
set_option linter.unusedVariables false
namespace Go.Proofs.Ytmofaabndjnhjaa
open Go Go.Aw Go.Pl Go.RowKit
theorem rc_as {P : Program} {f : FuncId} {args : Array Value} {m : Hp} {v : Value} (h : Go.As.RC P f args m v) : RC P f args m v := fun sg w hs =>
  (h w w ⟨rfl, rfl, rfl, Nat.le_refl _, hs.h⟩).mono fun e w' ⟨he, hb⟩ => ⟨he, .of hb.toBelow⟩
theorem F45a (m : Hp) (a b : Tm) (ha : a.Ok m) (hb : b.Ok m) (hl : a.toks.length ≤ 1099511627776) : RC Try.prog 45 #[a.val, b.val] m (.int .i64 (cmpE a.key b.key)) :=
  rc_as (Go.Proofs.Ytmofaabndjnhjaa.Q.F45 m (toAs a) (toAs b) (ok_as ha) (ok_as hb) hl)
theorem e30 : Enters Try.prog 30 := enters_of Try.func30 (by kernel_rfl) rfl
set_option maxRecDepth 100000 in
theorem F30 (m : Hp) (a b : Tm) (ha : a.Ok m) (hb : b.Ok m) (hl : a.toks.length ≤ 1099511627776) : RC Try.prog 30 #[a.val, b.val] m (.bool (decide (cmpE a.key b.key < 0))) := by
  refine rc_of_gc fun m1 hm => gc_intro (vs := [_, _]) Try.func30 rfl Try.ntmps30 (by simp) ?_
  refine awp_rs ?_
  refine ao_x (ex_boxR rfl rfl) rfl fun v m2 ⟨p2, hv, hl2, hc2⟩ => ?_
  subst hv
  refine ao_x (ex_boxR rfl rfl) rfl fun v m3 ⟨p3, hv, hl3, hc3⟩ => ?_
  subst hv
  have hc2' := hc2.le hl3
  have hle := hl2.trans hl3
  refine ao_r (rig_assign rfl rfl) rfl (ao_nil ?_)
  refine awp_rs ?_
  refine ao_r (rig_loadN (vs := encT a) rfl rfl Try.isAgg33 Try.sizeOf33 hc2') rfl (ao_r (rig_loadN (vs := encT b) rfl rfl Try.isAgg33 Try.sizeOf33 hc3) rfl (ao_r (rig_call rfl rfl e45 (F45a m3 a b (ha.le (hm.trans hle)) (hb.le (hm.trans hle)) hl)) rfl (ao_r (rig_lss rfl rfl rfl) rfl (ao_r (rig_assign rfl rfl) rfl (ao_nil ?_)))))
  exact awp_ret ⟨_, res1 Try.results30 rfl, rfl, hle⟩
theorem ex_make {P : Program} {o : Oper} {r : Env} {L : List Hp} {T E : TypeId} {x y : Operand} {n by_ : Nat} {k k2 : IntKind} {z : Value} (h : o.op = .makeSlice T x y) (hD : Dj L) (ex : ev r x = some (.int k n)) (ey : ev r y = some (.int k2 n)) (hT : P.underlying T = some (.slice E)) (inf : Inf P E z 1 by_) (hz : z.cells = #[z]) (hby : by_ ≤ 64) (hn : n ≤ 1099511627776) :
    Ex P o r (U L) (fun u m' => ∃ b, u = .slice (some ⟨b, 0, none⟩) n n ∧ m' = U (Go.Aw.one b (.cells (List.replicate n z).toArray E (0, 0)) :: L) ∧ Dj (Go.Aw.one b (.cells (List.replicate n z).toArray E (0, 0)) :: L)) := ex_val fun n' sg a w hf hs => by
  obtain ⟨i, hi, hz0, hs1, hb⟩ := inf
  have hr := run_make (P := P) (w := w) T E i z hT hi hz0 k k2 n n (by omega) (Int.le_refl _) (by
    rw [hb]
    have : by_ * n ≤ 64 * 1099511627776 := Nat.mul_le_mul hby hn
    have h2 : ((by_ * n : Nat) : Int) = (by_ : Int) * n := by simp
    omega) (by omega)
  have hc : madeCells z.cells ((n : Int).toNat * i.size) = (List.replicate n z).toArray := by
    rw [hs1, hz]
    apply Array.ext
    · simp [madeCells]
    · intro j h1 h2
      simp [madeCells, Nat.mod_one]
  rw [hc] at hr
  have := new_block hs hD (.cells (List.replicate n z).toArray E (0, 0))
  exact ⟨_, _, _, by simp [execOp, h, hf.eval ex, hf.eval ey, hr], this.1, _, rfl, rfl, this.2⟩
def encI (i : Int) : List Value := [.int .i64 i]
theorem encI_len (i : Int) : (encI i).length = 1 := rfl
theorem rows_encI (l : List Int) : rows encI l = l.map (Value.int .i64) := by
  induction l with
  | nil => rfl
  | cons x l ih => rw [rows_cons, ih]; rfl
theorem inf3 : Inf Try.prog 3 (.int .i64 0) 1 8 := inf_of (by kernel_rfl)
set_option maxHeartbeats 2000000 in
set_option maxRecDepth 100000 in
theorem L8_4 (m : Hp) (y : Tm) (b14 : Nat) (v8 : Value) (x : List ByteArray) (hy : y.Ok m) (hc : CellsAt m b14 0 (encT y)) (hx : Strs m v8 x) (hl : x.length ≤ 1048576) (V4 V5 V10 V12 V28 V29 V30 V50 V51 V52 : Value) :
    AWp Try.prog 141 (blkOf Try.f8 4) (fun e r mm => e = .normal ∧ EnvLe [(4, V4), (5, V5), (8, v8), (10, V10), (12, V12), (15, .bool (fitsB y.toks x)), (28, V28), (29, V29), (30, V30), (50, V50), (51, V51), (52, V52)] r ∧ mm = m)
      [(4, V4), (5, V5), (8, v8), (10, V10), (12, V12), (14, .pointer (some ⟨b14, 0, none⟩)), (15, .bool (decide (y.toks.length = x.length))), (16, .int .i64 (0 : Nat)), (28, V28), (29, V29), (30, V30), (50, V50), (51, V51), (52, V52)] m := by
  obtain ⟨A8, c8, rfl, _⟩ := RdSl.form encS_len (by decide) hx
  refine awp_block ?_
  refine awp_loop (fun kk r mm => ∃ (i : Nat) (b : Bool), i ≤ x.length ∧ kk = x.length - i ∧ r = [(4, V4), (5, V5), (8, .slice A8 x.length c8), (10, V10), (12, V12), (14, .pointer (some ⟨b14, 0, none⟩)), (15, .bool b), (16, .int .i64 i), (28, V28), (29, V29), (30, V30), (50, V50), (51, V51), (52, V52)] ∧ mm = m ∧ b = (decide (y.toks.length = x.length) && ((y.toks.zip x).take i).all fun z => fit1 z.1 z.2)) _
    ⟨0, _, by omega, rfl, rfl, rfl, by simp⟩ ?_
  rintro kk r mm ⟨i, b, hi, rfl, rfl, rfl, hb⟩
  refine awp_sk fun K11 hK11 => awp_rs ?_
  refine ao_r (rig_move rfl rfl) rfl (ao_r (rig_move rfl rfl) rfl ?_)
  cases b with
  | false =>
    refine ao_no rfl rfl rfl rfl (ao_no rfl rfl rfl rfl (ao_no rfl rfl rfl rfl (ao_no rfl rfl rfl rfl (ao_r (rig_pickF rfl rfl rfl) rfl (ao_nil ?_)))))
    refine awp_false rfl (awp_exit ⟨rfl, ?_, rfl⟩)
    have : fitsB y.toks x = false := by
      unfold fitsB
      by_cases h : y.toks.length = x.length
      · rw [decide_eq_true h, Bool.true_and] at hb
        rw [decide_eq_true h, Bool.true_and, all_take_false hb.symm]
      · rw [decide_eq_false h, Bool.false_and]
    rw [this]
    exact ⟨rfl, rfl, rfl, rfl, rfl, rfl, rfl, rfl, rfl, rfl, rfl, rfl, trivial⟩
  | true =>
    refine ao_on rfl rfl (ao_r (rig_move rfl rfl) rfl (ao_on rfl rfl (ao_r (rig_move rfl rfl) rfl (ao_on rfl rfl (ao_r (rig_lenSl rfl rfl Try.underlying22) rfl (ao_on rfl rfl (ao_r (rig_lss rfl rfl rfl) rfl (ao_r (rig_pickT rfl rfl rfl) rfl (ao_nil ?_)))))))))
    have hb2 := hb.symm
    rw [Bool.and_eq_true, decide_eq_true_eq] at hb2
    refine awp_if rfl (fun h => ?_) (fun h => ?_)
    · refine awp_skip (hK11 _ _ (awp_sk fun K12 hK12 => awp_block ?_))
      obtain ⟨p, hp⟩ := get_lt (l := y.toks) (i := i) (by omega)
      obtain ⟨q, hq⟩ := get_lt (l := x) (i := i) (by omega)
      obtain ⟨y0, y1, _⟩ := id hc
      have hyn := hy.len
      obtain ⟨bp, op, hAp, hcp⟩ := hy.get hp
      obtain ⟨bq, oq1, cq, eq, hcq⟩ := Strs.get hx hq
      simp only [Value.slice.injEq] at eq
      obtain ⟨rfl, _, rfl⟩ := eq
      have hstep : ∀ (b' : Bool), b' = fit1 p q → ∀ r', EnvLe [(4, V4), (5, V5), (8, .slice (some ⟨bq, oq1, none⟩) x.length c8), (10, V10), (12, V12), (14, .pointer (some ⟨b14, 0, none⟩)), (15, .bool b'), (16, .int .i64 i), (28, V28), (29, V29), (30, V30), (50, V50), (51, V51), (52, V52)] r' → K12 r' mm := fun b' hb' r' hr => by
        refine hK12 _ _ (awp_le _ hr (awp_region ?_))
        refine ao_r (rig_move rfl rfl) rfl (ao_r (rig_add (c := ((i + 1 : Nat) : Int)) rfl rfl rfl (w64 _ (by omega) (by omega))) rfl (ao_r (rig_assign rfl rfl) rfl (ao_nil ?_)))
        exact ⟨[(4, V4), (5, V5), (8, .slice (some ⟨bq, oq1, none⟩) x.length c8), (10, V10), (12, V12), (14, .pointer (some ⟨b14, 0, none⟩)), (15, .bool b'), (16, .int .i64 (i + 1 : Nat)), (28, V28), (29, V29), (30, V30), (50, V50), (51, V51), (52, V52)], _, ⟨rfl, rfl, rfl, rfl, rfl, rfl, rfl, rfl, rfl, rfl, rfl, rfl, rfl, rfl, trivial⟩, by omega, i + 1, b', by omega, rfl, rfl, rfl, by
          rw [zip_take_all hp hq, hb2.2, decide_eq_true hb2.1, hb']; rfl⟩
      refine awp_draw (.q 0 (.q 1 (.q 2 (.q 3 (.q 4 (.q 5 (.q 6 (.q 7 (.q 8 (.q 9 (.q 10 (.q 11 (.q 12 (.q 13 (.q 14 (.q 15 (.q 16 (.q 17 (.q 18 .fin))))))))))))))))))) [] (by kernel_rfl) (by kernel_rfl) ?_
      refine oq rfl (rig_fieldAddr rfl rfl Try.underlying33 rfl Try.sizeOf22 rfl) rfl (oq rfl (rig_load1 rfl rfl Try.isAgg22 y0) rfl (oq rfl (rig_move rfl rfl) rfl (oq rfl (rig_ix i rfl rfl rfl Try.underlying22 Try.sizeOf9 hAp rfl (by omega)) rfl (oq rfl (rig_load1 rfl rfl Try.isAgg9 hcp) rfl (oq rfl (rig_seql rfl rfl rfl) rfl (oq rfl (rig_move rfl rfl) rfl ?_))))))
      by_cases he : p = ⟨#[]⟩
      · rw [decide_eq_true he]
        refine oqno rfl rfl rfl rfl rfl (oqno rfl rfl rfl rfl rfl (oqno rfl rfl rfl rfl rfl (oqno rfl rfl rfl rfl rfl (oqno rfl rfl rfl rfl rfl (oqno rfl rfl rfl rfl rfl (oqno rfl rfl rfl rfl rfl (oqno rfl rfl rfl rfl rfl (oqno rfl rfl rfl rfl rfl (oqno rfl rfl rfl rfl rfl ?_)))))))))
        refine oq rfl (rig_pickT rfl rfl rfl) rfl (oq rfl (rig_assign rfl rfl) rfl (od_fin ?_))
        exact hstep true (by rw [fit1, decide_eq_true (show p = em from he)]; rfl) _ ⟨rfl, rfl, rfl, rfl, rfl, rfl, rfl, rfl, rfl, rfl, rfl, rfl, rfl, rfl, trivial⟩
      · rw [decide_eq_false he]
        refine oqon rfl rfl rfl (rig_fieldAddr rfl rfl Try.underlying33 rfl Try.sizeOf22 rfl) rfl (oqon rfl rfl rfl (rig_load1 rfl rfl Try.isAgg22 y0) rfl (oqon rfl rfl rfl (rig_move rfl rfl) rfl (oqon rfl rfl rfl (rig_ix i rfl rfl rfl Try.underlying22 Try.sizeOf9 hAp rfl (by omega)) rfl (oqon rfl rfl rfl (rig_load1 rfl rfl Try.isAgg9 hcp) rfl (oqon rfl rfl rfl (rig_move rfl rfl) rfl (oqon rfl rfl rfl (rig_move rfl rfl) rfl (oqon rfl rfl rfl (rig_ix i rfl rfl rfl Try.underlying22 Try.sizeOf9 rfl rfl (by omega)) rfl (oqon rfl rfl rfl (rig_load1 rfl rfl Try.isAgg9 hcq) rfl (oqon rfl rfl rfl (rig_seql rfl rfl rfl) rfl ?_)))))))))
        refine oq rfl (rig_pickF rfl rfl rfl) rfl (oq rfl (rig_assign rfl rfl) rfl (od_fin ?_))
        exact hstep (decide (p = q)) (by rw [fit1, decide_eq_false (show ¬ p = em from he)]; rfl) _ ⟨rfl, rfl, rfl, rfl, rfl, rfl, rfl, rfl, rfl, rfl, rfl, rfl, rfl, rfl, trivial⟩
    · refine awp_exit ⟨rfl, ?_, rfl⟩
      have : fitsB y.toks x = true := by
        unfold fitsB
        rw [List.take_of_length_le (by rw [List.length_zip]; omega)] at hb2
        rw [decide_eq_true hb2.1, hb2.2]; rfl
      rw [this]
      exact ⟨rfl, rfl, rfl, rfl, rfl, rfl, rfl, rfl, rfl, rfl, rfl, rfl, trivial⟩
set_option maxHeartbeats 2000000 in
set_option maxRecDepth 100000 in
theorem L8_2 (m : Hp) (A4 : Option Addr) (c4 : Nat) (out : List Tm) (v8 : Value) (x : List ByteArray) (ho : Tms m (.slice A4 out.length c4) out) (hok : ∀ t ∈ out, t.Ok m) (hx : Strs m v8 x) (hl : x.length ≤ 1048576) (hol : out.length ≤ 1099511627776) (V5 V10 V28 V29 V30 : Value) :
    AWp Try.prog 141 (blkOf Try.f8 2) (fun e r mm => e = .normal ∧ EnvLe [(4, .slice A4 out.length c4), (5, V5), (10, V10), (12, .int .i64 ((out.countP fun t => fitsB t.toks x : Nat) : Int)), (28, V28), (29, V29), (30, V30)] r ∧ HpLe m mm)
      [(4, .slice A4 out.length c4), (5, V5), (8, v8), (10, V10), (12, .int .i64 (0 : Nat)), (28, V28), (29, V29), (30, V30), (50, .slice A4 out.length c4), (51, .int .i64 out.length), (52, .int .i64 (0 : Nat))] m := by
  refine awp_block ?_
  refine awp_loop (fun kk r mm => ∃ (i : Nat), i ≤ out.length ∧ kk = out.length - i ∧ r = [(4, .slice A4 out.length c4), (5, V5), (8, v8), (10, V10), (12, .int .i64 (((out.take i).countP fun t => fitsB t.toks x : Nat) : Int)), (28, V28), (29, V29), (30, V30), (50, .slice A4 out.length c4), (51, .int .i64 out.length), (52, .int .i64 i)] ∧ HpLe m mm) _
    ⟨0, by omega, rfl, rfl, HpLe.refl _⟩ ?_
  rintro kk r mm ⟨i, hi, rfl, rfl, hle⟩
  refine awp_rs (ao_r (rig_lss rfl rfl rfl) rfl (ao_nil ?_))
  refine awp_sk fun K8 hK8 => ?_
  refine awp_if rfl (fun h => ?_) (fun h => ?_)
  · refine awp_skip (hK8 _ _ (awp_sk fun K9 hK9 => awp_block (awp_rs ?_)))
    obtain ⟨y, hy⟩ := get_lt (l := out) (i := i) (by omega)
    obtain ⟨b, off, cap', e, hyc⟩ := Tms.get (RdSl.le ho hle) hy
    simp only [Value.slice.injEq] at e
    obtain ⟨rfl, _, rfl⟩ := e
    refine ao_r (rig_ix i rfl rfl rfl Try.underlying29 Try.sizeOf33 rfl rfl (by omega)) rfl (ao_r (rig_loadN (vs := encT y) rfl rfl Try.isAgg33 Try.sizeOf33 hyc) rfl ?_)
    refine ao_var Try.zeroValue33 rfl rfl (fun t h => by cases h; rfl) Try.sizeOf33 rfl (encT_one y) fun b14 m14 hl14 hc14 => ao_nil ?_
    have hle2 := hle.trans hl14
    have hyok := (hok y (List.mem_of_getElem? hy)).le hle2
    have hyn := hyok.len
    obtain ⟨y0, y1, _⟩ := id hc14
    obtain ⟨A8, c8, rfl, _⟩ := RdSl.form encS_len (by decide) hx
    refine awp_rs ?_
    refine ao_r (rig_fieldAddr rfl rfl Try.underlying33 rfl Try.sizeOf22 rfl) rfl (ao_r (rig_load1 rfl rfl Try.isAgg22 y0) rfl (ao_r (rig_lenSl rfl rfl Try.underlying22) rfl (ao_r (rig_move rfl rfl) rfl (ao_r (rig_lenSl rfl rfl Try.underlying22) rfl (ao_r (rig_eql rfl rfl rfl) rfl (ao_r (rig_assign rfl rfl) rfl (ao_nil ?_)))))))
    rw [show decide ((y.n : Int) = (x.length : Int)) = decide (y.toks.length = x.length) by rw [decide_eq_decide, hyn]; omega]
    refine awp_sk fun K10 hK10 => awp_rs (ao_r (rig_assign rfl rfl) rfl (ao_nil ?_))
    refine awp_lemma (s := [(4, .slice (some ⟨b, off, none⟩) out.length c4), (5, V5), (8, .slice A8 x.length c8), (10, V10), (12, .int .i64 (((out.take i).countP fun t => fitsB t.toks x : Nat) : Int)), (14, .pointer (some ⟨b14, 0, none⟩)), (15, .bool (decide (y.toks.length = x.length))), (16, .int .i64 (0 : Nat)), (28, V28), (29, V29), (30, V30), (50, .slice (some ⟨b, off, none⟩) out.length c4), (51, .int .i64 out.length), (52, .int .i64 i)]) ⟨rfl, rfl, rfl, rfl, rfl, rfl, rfl, rfl, rfl, rfl, rfl, rfl, rfl, rfl, trivial⟩
      (L8_4 m14 y b14 (.slice A8 x.length c8) x hyok hc14 (RdSl.le hx hle2) hl _ _ _ _ _ _ _ _ _ _) fun r mm ⟨hE, hmm⟩ => ?_
    subst hmm
    have hcl : (out.take i).countP (fun t => fitsB t.toks x) ≤ out.length := Nat.le_trans List.countP_le_length (by rw [List.length_take]; omega)
    have htk : (out.take (i + 1)).countP (fun t => fitsB t.toks x) = (out.take i).countP (fun t => fitsB t.toks x) + if fitsB y.toks x = true then 1 else 0 := by
      rw [take_succ_get hy, List.countP_append, List.countP_cons, List.countP_nil, Nat.zero_add]
    refine hK10 _ _ (awp_le _ hE (awp_rs (ao_r (rig_move rfl rfl) rfl (ao_nil ?_))))
    refine awp_cond rfl (fun h2 => ?_) (fun h2 => ?_)
    · refine awp_region ?_
      rw [h2, if_pos rfl] at htk
      refine ao_r (rig_move rfl rfl) rfl (ao_r (rig_add (c := (((out.take (i + 1)).countP fun t => fitsB t.toks x : Nat) : Int)) rfl rfl rfl (by rw [htk, w64 _ (by omega) (by omega)]; omega)) rfl (ao_r (rig_assign rfl rfl) rfl (ao_nil ?_)))
      refine hK9 _ _ (awp_region ?_)
      refine ao_r (rig_add (c := ((i + 1 : Nat) : Int)) rfl rfl rfl (w64 _ (by omega) (by omega))) rfl (ao_r (rig_move rfl rfl) rfl (ao_nil ?_))
      exact ⟨[(4, .slice (some ⟨b, off, none⟩) out.length c4), (5, V5), (8, .slice A8 x.length c8), (10, V10), (12, .int .i64 (((out.take (i + 1)).countP fun t => fitsB t.toks x : Nat) : Int)), (28, V28), (29, V29), (30, V30), (50, .slice (some ⟨b, off, none⟩) out.length c4), (51, .int .i64 out.length), (52, .int .i64 (i + 1 : Nat))], _, ⟨rfl, rfl, rfl, rfl, rfl, rfl, rfl, rfl, rfl, rfl, rfl, trivial⟩, by omega, i + 1, by omega, rfl, rfl, hle2⟩
    · rw [h2, if_neg (by decide), Nat.add_zero] at htk
      refine awp_skip (hK9 _ _ (awp_region ?_))
      refine ao_r (rig_add (c := ((i + 1 : Nat) : Int)) rfl rfl rfl (w64 _ (by omega) (by omega))) rfl (ao_r (rig_move rfl rfl) rfl (ao_nil ?_))
      exact ⟨[(4, .slice (some ⟨b, off, none⟩) out.length c4), (5, V5), (8, .slice A8 x.length c8), (10, V10), (12, .int .i64 (((out.take (i + 1)).countP fun t => fitsB t.toks x : Nat) : Int)), (28, V28), (29, V29), (30, V30), (50, .slice (some ⟨b, off, none⟩) out.length c4), (51, .int .i64 out.length), (52, .int .i64 (i + 1 : Nat))], _, ⟨rfl, rfl, rfl, rfl, by rw [htk]; rfl, rfl, rfl, rfl, rfl, rfl, rfl, trivial⟩, by omega, i + 1, by omega, rfl, rfl, hle2⟩
  · obtain rfl : i = out.length := by omega
    rw [List.take_length]
    exact awp_exit ⟨rfl, ⟨rfl, rfl, rfl, rfl, rfl, rfl, rfl, trivial⟩, hle⟩
end Go.Proofs.Ytmofaabndjnhjaa
