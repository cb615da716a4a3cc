/- Plain: the reference's way to the templates. -/
import Derived.Test.YtmofaabndjnhjaaGreatPlain
import Derived.Test.YtmofaabndjnhjaaGreatMining
import Derived.Test.YtmofaabndjnhjaaGreatHeap
import Derived.Test.YtmofaabndjnhjaaGreatReference
import Derived.Test.YtmofaabndjnhjaaGreatAnswers
set_option linter.unusedVariables false
namespace Go.Pl
open Go
def insO : KV → ByteArray → Int → KV
  | [], k, n => [(k, sumK 0 n)]
  | (a, x) :: r, k, n => if a = k then (a, sumK x n) :: r else (a, x) :: insO r k n
def foldO (q : List El) (p : Nat) (acc : KV) : KV := q.foldl (fun acc t => insO acc (t.1.getD p em) t.2) acc
def Nd (l : KV) : Prop := l.Pairwise fun a b => a.1 ≠ b.1
theorem Nd.perm {l l' : KV} (h : l.Perm l') (hn : Nd l) : Nd l' := (List.Perm.pairwise_iff (R := fun a b : ByteArray × Int => a.1 ≠ b.1) (fun h => Ne.symm h) h).1 hn
theorem asc_nd {l : KV} (h : Asc l) : Nd l := List.Pairwise.imp (R := fun a b : ByteArray × Int => cmpS a.1 b.1 < 0) (S := fun a b : ByteArray × Int => a.1 ≠ b.1) (fun hab e => cmpS_self _ (by rw [e] at hab; exact hab)) h
theorem insO_new {k : ByteArray} {n : Int} : ∀ {l : KV}, (∀ a ∈ l, a.1 ≠ k) → insO l k n = l ++ [(k, sumK 0 n)]
  | [], _ => rfl
  | (a, x) :: r, h => by
    rw [insO, if_neg (h (a, x) (List.mem_cons_self ..)), insO_new fun b hb => h b (List.mem_cons_of_mem _ hb)]; rfl
theorem insO_mem {k : ByteArray} {n : Int} {b : ByteArray × Int} : ∀ {l : KV}, b ∈ insO l k n → b.1 = k ∨ ∃ c ∈ l, c.1 = b.1
  | [], h => by simp [insO] at h; exact .inl (by rw [h])
  | (a, x) :: r, h => by
    unfold insO at h
    split at h
    · rename_i e
      rcases List.mem_cons.1 h with rfl | h
      · exact .inl e
      · exact .inr ⟨b, List.mem_cons_of_mem _ h, rfl⟩
    · rcases List.mem_cons.1 h with rfl | h
      · exact .inr ⟨_, List.mem_cons_self .., rfl⟩
      · rcases insO_mem h with h | ⟨c, hc, e⟩
        · exact .inl h
        · exact .inr ⟨c, List.mem_cons_of_mem _ hc, e⟩
theorem insO_nd {k : ByteArray} {n : Int} : ∀ {l : KV}, Nd l → Nd (insO l k n)
  | [], _ => List.pairwise_singleton _ _
  | (a, x) :: r, h => by
    unfold insO
    have h1 := List.pairwise_cons.1 h
    split
    · exact List.pairwise_cons.2 ⟨h1.1, h1.2⟩
    · rename_i hne
      refine List.pairwise_cons.2 ⟨fun b hb => ?_, insO_nd h1.2⟩
      rcases insO_mem hb with e | ⟨c, hc, e⟩
      · rw [e]; exact hne
      · rw [← e]; exact h1.1 c hc
theorem insO_len (k : ByteArray) (n : Int) : ∀ (l : KV), l.length ≤ (insO l k n).length ∧ (insO l k n).length ≤ l.length + 1
  | [] => by simp [insO]
  | (a, x) :: r => by
    unfold insO
    have := insO_len k n r
    split <;> simp only [List.length_cons] <;> omega
theorem insO_perm {k : ByteArray} {n : Int} {l l' : KV} (h : l.Perm l') : Nd l → (insO l k n).Perm (insO l' k n) := by
  induction h with
  | nil => exact fun _ => List.Perm.refl _
  | cons a h ih =>
    intro hn
    obtain ⟨a, x⟩ := a
    unfold insO
    split
    · exact h.cons _
    · exact (ih (List.pairwise_cons.1 hn).2).cons _
  | swap a b l =>
    intro hn
    obtain ⟨a, x⟩ := a
    obtain ⟨b, y⟩ := b
    have hab : b ≠ a := (List.pairwise_cons.1 hn).1 (a, x) (List.mem_cons_self ..)
    simp only [insO]
    by_cases h1 : b = k
    · have h2 : a ≠ k := fun e => hab (h1.trans e.symm)
      rw [if_pos h1, if_neg h2, if_pos h1]
      exact List.Perm.swap _ _ _
    · rw [if_neg h1]
      by_cases h2 : a = k
      · rw [if_pos h2, if_pos h2]
        exact List.Perm.swap _ _ _
      · rw [if_neg h2, if_neg h2, if_neg h1]
        exact List.Perm.swap _ _ _
  | trans h1 _ ih1 ih2 => exact fun hn => (ih1 hn).trans (ih2 (hn.perm h1))
theorem insK_insO {k : ByteArray} {n : Int} : ∀ {l : KV}, Asc l → (insK l k n).Perm (insO l k n)
  | [], _ => List.Perm.refl _
  | (a, x) :: r, h => by
    have h1 := List.pairwise_cons.1 h
    unfold insK
    by_cases hc : cmpS a k < 0
    · have hne : a ≠ k := fun e => cmpS_self k (by rw [e] at hc; exact hc)
      rw [if_pos hc, insO, if_neg hne]
      exact (insK_insO h1.2).cons _
    · rw [if_neg hc]
      by_cases he : a = k
      · rw [if_pos he, insO, if_pos he]
      · rw [if_neg he, insO_new]
        · exact (List.perm_append_singleton _ _).symm
        · intro b hb e
          rcases List.mem_cons.1 hb with rfl | hb
          · exact he e
          · have := h1.1 b hb
            rw [e] at this
            exact hc this
theorem foldO_perm {p : Nat} : ∀ (q : List El) {acc acc' : KV}, acc'.Perm acc → Asc acc' → (q.foldl (fun acc t => insK acc (t.1.getD p em) t.2) acc').Perm (foldO q p acc)
  | [], _, _, h, _ => h
  | t :: q, acc, acc', h, hA => foldO_perm q ((insK_insO hA).trans (insO_perm h (asc_nd hA))) (insK_asc hA)
theorem foldO_at (q : List El) (p : Nat) : (foldO q p []).Perm (atQ q p) := (foldO_perm q (List.Perm.refl _) List.Pairwise.nil).symm
theorem foldO_len {p : Nat} : ∀ (q : List El) (acc : KV), acc.length ≤ (foldO q p acc).length
  | [], acc => Nat.le_refl _
  | t :: q, acc => Nat.le_trans (insO_len _ _ acc).1 (foldO_len q _)
/-- What words answers: the tokens with their counts, or nothing. -/
def wrdGo (p : Nat) : List El → KV → Option KV
  | [], acc => some acc
  | t :: q, acc => if t.1.getD p em = em then none else if 4 < (insO acc (t.1.getD p em) t.2).length then none else wrdGo p q (insO acc (t.1.getD p em) t.2)
theorem wrd_some {p : Nat} {L : KV} : ∀ {q : List El} {acc : KV}, acc.length ≤ 4 → wrdGo p q acc = some L → L = foldO q p acc ∧ (∀ t ∈ q, t.1.getD p em ≠ em) ∧ L.length ≤ 4
  | [], acc, h4, h => by simp [wrdGo] at h; exact ⟨h.symm, by simp, by rw [← h]; exact h4⟩
  | t :: q, acc, h4, h => by
    unfold wrdGo at h
    split at h
    · cases h
    · rename_i h1
      split at h
      · cases h
      · rename_i h2
        obtain ⟨a, b, c⟩ := wrd_some (by omega) h
        exact ⟨a, fun u hu => by
          rcases List.mem_cons.1 hu with rfl | hu
          · exact h1
          · exact b u hu, c⟩
theorem wrd_none {p : Nat} : ∀ {q : List El} {acc : KV}, wrdGo p q acc = none → (∃ t ∈ q, t.1.getD p em = em) ∨ 4 < (foldO q p acc).length
  | [], acc, h => by simp [wrdGo] at h
  | t :: q, acc, h => by
    unfold wrdGo at h
    split at h
    · rename_i h1; exact .inl ⟨t, List.mem_cons_self .., h1⟩
    · split at h
      · rename_i h2; exact .inr (Nat.lt_of_lt_of_le h2 (foldO_len q _))
      · rcases wrd_none h with ⟨u, hu, e⟩ | h
        · exact .inl ⟨u, List.mem_cons_of_mem _ hu, e⟩
        · exact .inr h
def splW (L : KV) : Bool := decide (2 ≤ L.length) && L.all fun a => decide (2 ≤ a.2)
theorem splQ_iff {t : KV} : splQ t = true ↔ 2 ≤ t.length ∧ t.length ≤ 4 ∧ ∀ a ∈ t, a.1 ≠ em ∧ 2 ≤ a.2 := by
  simp only [splQ, Bool.and_eq_true, decide_eq_true_eq, Bool.not_eq_true', List.any_eq_false, Bool.or_eq_true, not_or, Int.not_lt]
  constructor
  · rintro ⟨⟨a, b⟩, c⟩; exact ⟨a, b, c⟩
  · rintro ⟨a, b, c⟩; exact ⟨⟨a, b⟩, c⟩
theorem splQ_none {q : List El} {p : Nat} (h : wrdGo p q [] = none) : splQ (atQ q p) = false := by
  rw [Bool.eq_false_iff, ne_eq, splQ_iff]
  rintro ⟨h1, h2, h3⟩
  rcases wrd_none h with h | h
  · obtain ⟨b, hb, e⟩ := atQ_keys.2 h
    exact (h3 b hb).1 e
  · rw [(foldO_at q p).length_eq] at h; omega
theorem splQ_some {q : List El} {p : Nat} {L : KV} (h : wrdGo p q [] = some L) : splQ (atQ q p) = splW L ∧ L.Perm (atQ q p) := by
  obtain ⟨rfl, hne, h4⟩ := wrd_some (by simp) h
  have hp := foldO_at q p
  refine ⟨?_, hp⟩
  rw [Bool.eq_iff_iff, splQ_iff]
  simp only [splW, Bool.and_eq_true, decide_eq_true_eq, List.all_eq_true]
  rw [← hp.length_eq]
  constructor
  · rintro ⟨a, b, c⟩; exact ⟨a, fun x hx => (c x (hp.mem_iff.1 hx)).2⟩
  · rintro ⟨a, c⟩
    refine ⟨a, h4, fun x hx => ⟨fun e => ?_, c x (hp.mem_iff.2 hx)⟩⟩
    obtain ⟨t, ht, e2⟩ := atQ_keys.1 ⟨x, hx, e⟩
    exact hne t ht e2
/-- How many templates a group has at most. -/
theorem parts_len {p : Nat} : ∀ (L : KV), Nd L → ∀ q : List El, (L.map fun a => (q.filter fun t => decide (t.1.getD p em = a.1)).length).sum ≤ q.length
  | [], _, q => by simp
  | a :: L, hL, q => by
    have h1 := List.pairwise_cons.1 hL
    have ih := parts_len (p := p) L h1.2 (q.filter fun t => !decide (t.1.getD p em = a.1))
    have e : (L.map fun b => ((q.filter fun t => !decide (t.1.getD p em = a.1)).filter fun t => decide (t.1.getD p em = b.1)).length) = L.map fun b => (q.filter fun t => decide (t.1.getD p em = b.1)).length := by
      refine List.map_congr_left fun b hb => ?_
      rw [List.filter_filter]
      congr 1
      refine List.filter_congr fun t _ => ?_
      by_cases hb2 : t.1.getD p em = b.1
      · have : t.1.getD p em ≠ a.1 := fun e => h1.1 b hb (e.symm.trans hb2)
        rw [decide_eq_true hb2, decide_eq_false this]; rfl
      · rw [decide_eq_false hb2]; rfl
    rw [e] at ih
    rw [List.map_cons, List.sum_cons]
    have h2 : (q.filter fun t => decide (t.1.getD p em = a.1)).length + (q.filter fun t => !decide (t.1.getD p em = a.1)).length = q.length := by
      clear ih e
      induction q with
      | nil => rfl
      | cons t q ih =>
        by_cases ht : t.1.getD p em = a.1
        · rw [List.filter_cons, if_pos (by simpa using ht), List.filter_cons, if_neg (by simpa using ht)]
          simp only [List.length_cons]; omega
        · rw [List.filter_cons, if_neg (by simpa using ht), List.filter_cons, if_pos (by simpa using ht)]
          simp only [List.length_cons]; omega
    omega
theorem flat_len {α β : Type} (f : α → List β) (g : α → Nat) : ∀ (L : List α), (∀ a ∈ L, (f a).length ≤ g a) → (L.flatMap f).length ≤ (L.map g).sum
  | [], _ => by simp
  | a :: L, h => by
    have := flat_len f g L fun b hb => h b (List.mem_cons_of_mem _ hb)
    have := h a (List.mem_cons_self ..)
    simp only [List.flatMap_cons, List.length_append, List.map_cons, List.sum_cons]
    omega
theorem part_ne {q : List El} {p : Nat} {a : ByteArray × Int} (ha : a ∈ atQ q p) : (q.filter fun t => decide (t.1.getD p em = a.1)) ≠ [] := by
  obtain ⟨t, ht, e⟩ := atQ_keys.1 ⟨a, ha, rfl⟩
  exact List.ne_nil_of_mem (List.mem_filter.2 ⟨ht, decide_eq_true e⟩)
theorem mineQ_most : ∀ (f : Nat) (q : List El), q ≠ [] → (mineQ f q).length ≤ q.length
  | 0, q, _ => by simp [mineQ]
  | f + 1, q, hne => by
    unfold mineQ
    split
    · simp only [List.length_singleton]
      exact List.length_pos_iff.2 hne
    · rename_i p _
      refine Nat.le_trans (flat_len _ (fun a => (q.filter fun t => decide (t.1.getD p em = a.1)).length) _ fun a ha => mineQ_most f _ (part_ne ha)) ?_
      exact parts_len _ (asc_nd (atQ_asc q p)) q
/-- The tokens of a template: those that all have. -/
def combB (ts xs : List ByteArray) : List ByteArray := ts.zipWith (fun a b => if b = a then a else em) xs
def combQ (q : List El) (ts : List ByteArray) : List ByteArray := q.foldl (fun ts u => combB ts u.1) ts
theorem combB_len {ts xs : List ByteArray} (h : xs.length = ts.length) : (combB ts xs).length = ts.length := by simp [combB, h]
theorem combB_get {ts xs : List ByteArray} (h : xs.length = ts.length) {p : Nat} (hp : p < ts.length) : (combB ts xs).getD p em = if xs.getD p em = ts.getD p em then ts.getD p em else em := by
  simp only [combB, List.getD_eq_getElem?_getD, List.getElem?_zipWith, List.getElem?_eq_getElem hp, List.getElem?_eq_getElem (show p < xs.length by omega), Option.getD_some]
theorem combQ_len {w : Nat} : ∀ (q : List El) {ts : List ByteArray}, (∀ u ∈ q, u.1.length = w) → ts.length = w → (combQ q ts).length = w
  | [], ts, _, h => h
  | u :: q, ts, hq, h => combQ_len q (fun v hv => hq v (List.mem_cons_of_mem _ hv)) (by rw [combB_len (by rw [hq u (List.mem_cons_self ..), h]), h])
theorem combQ_get {w : Nat} : ∀ (q : List El) {ts : List ByteArray}, (∀ u ∈ q, u.1.length = w) → ts.length = w → ∀ p, p < w → (combQ q ts).getD p em = if ∀ u ∈ q, u.1.getD p em = ts.getD p em then ts.getD p em else em
  | [], ts, _, _, p, _ => by simp [combQ]
  | u :: q, ts, hq, h, p, hp => by
    have hu := hq u (List.mem_cons_self ..)
    have h1 := combQ_get q (ts := combB ts u.1) (fun v hv => hq v (List.mem_cons_of_mem _ hv)) (by rw [combB_len (by rw [hu, h]), h]) p hp
    show (combQ q (combB ts u.1)).getD p em = _
    rw [h1, combB_get (by rw [hu, h]) (by omega)]
    by_cases e : u.1.getD p em = ts.getD p em
    · rw [if_pos e]
      congr 1
      exact propext ⟨fun k v hv => by
        rcases List.mem_cons.1 hv with rfl | hv
        · exact e
        · exact k v hv, fun k v hv => k v (List.mem_cons_of_mem _ hv)⟩
    · have h2 : ¬ (∀ v ∈ u :: q, v.1.getD p em = ts.getD p em) := fun k => e (k u (List.mem_cons_self ..))
      rw [if_neg e, if_neg h2]
      split <;> rfl
theorem tokQ_at {q : List El} {t : El} {p : Nat} (ht : t ∈ q) : tokQ (atQ q p) = if ∀ u ∈ q, u.1.getD p em = t.1.getD p em then t.1.getD p em else em := by
  have hA := atQ_asc q p
  split
  · rename_i h
    obtain ⟨b, hb, e⟩ := atQ_keys.2 ⟨t, ht, rfl⟩
    have hall : ∀ a ∈ atQ q p, a.1 = t.1.getD p em := fun a ha => by
      obtain ⟨u, hu, e⟩ := atQ_keys.1 ⟨a, ha, rfl⟩
      rw [← e]; exact h u hu
    cases hl : atQ q p with
    | nil => rw [hl] at hb; cases hb
    | cons a r =>
      cases r with
      | nil => rw [hl] at hall; rw [tokQ, if_neg (by simp)]; exact hall a (List.mem_cons_self ..)
      | cons c r =>
        rw [hl] at hall hA
        have h1 := (List.pairwise_cons.1 hA).1 c (List.mem_cons_self ..)
        rw [hall a (List.mem_cons_self ..), hall c (List.mem_cons_of_mem _ (List.mem_cons_self ..))] at h1
        exact absurd h1 (cmpS_self _)
  · rename_i h
    have h2 : 1 < (atQ q p).length := by
      refine Nat.lt_of_not_le fun hle => h fun u hu => ?_
      obtain ⟨b, hb, e⟩ := atQ_keys.2 ⟨t, ht, rfl⟩
      obtain ⟨c, hc, e2⟩ := atQ_keys.2 ⟨u, hu, rfl⟩
      cases hl : atQ q p with
      | nil => rw [hl] at hb; cases hb
      | cons a r =>
        rw [hl] at hle hb hc
        have hr : r = [] := List.eq_nil_of_length_eq_zero (by simp only [List.length_cons] at hle; omega)
        subst hr
        rw [List.mem_singleton] at hb hc
        rw [← e, ← e2, hb, hc]
    rw [tokQ, if_pos h2]
theorem walkQ_miss {q : List El} : ∀ (n p : Nat) (acc : List ByteArray), (∀ i, i < n → splQ (atQ q (p + i)) = false) → walkQ q n p acc = .inl (acc ++ (List.range n).map fun i => tokQ (atQ q (p + i)))
  | 0, p, acc, _ => by simp [walkQ]
  | n + 1, p, acc, h => by
    unfold walkQ
    have h0 := h 0 (by omega)
    rw [Nat.add_zero] at h0
    rw [h0, if_neg (by decide), walkQ_miss n (p + 1) _ (fun i hi => by have := h (i + 1) (by omega); rwa [show p + (i + 1) = p + 1 + i by omega] at this)]
    rw [List.range_succ_eq_map, List.map_cons, List.map_map, List.append_assoc]
    congr 2
    rw [List.singleton_append, Nat.add_zero]
    congr 1
    refine List.map_congr_left fun i _ => ?_
    show tokQ (atQ q (p + 1 + i)) = tokQ (atQ q (p + (i + 1)))
    rw [show p + 1 + i = p + (i + 1) by omega]
theorem walkQ_hit {q : List El} : ∀ (n p r : Nat) (acc : List ByteArray), (∀ i, i < r → splQ (atQ q (p + i)) = false) → splQ (atQ q (p + r)) = true → r < n → walkQ q n p acc = .inr (p + r)
  | 0, p, r, acc, _, _, h => by omega
  | n + 1, p, 0, acc, _, h, _ => by unfold walkQ; rw [Nat.add_zero] at h; rw [h, if_pos rfl]; rfl
  | n + 1, p, r + 1, acc, h1, h, hr => by
    unfold walkQ
    have h0 := h1 0 (by omega)
    rw [Nat.add_zero] at h0
    rw [h0, if_neg (by decide), walkQ_hit n (p + 1) r _ (fun i hi => by have := h1 (i + 1) (by omega); rwa [show p + (i + 1) = p + 1 + i by omega] at this) (by rwa [show p + (r + 1) = p + 1 + r by omega] at h) (by omega)]
    congr 1; omega
theorem mineQ_leaf {w : Nat} {q : List El} {t : El} (ht : q.head? = some t) (hw : ∀ u ∈ q, u.1.length = w) (h : ∀ p, p < w → splQ (atQ q p) = false) (f : Nat) : mineQ (f + 1) q = [(combQ q t.1, totQ q)] := by
  have htq : t ∈ q := List.mem_of_head? ht
  have hne : q ≠ [] := fun e => by rw [e] at ht; cases ht
  unfold mineQ
  rw [widQ_of hw hne, walkQ_miss w 0 [] (fun i hi => by rw [Nat.zero_add]; exact h i hi)]
  have hlen := combQ_len q hw (hw t htq)
  have : [] ++ (List.range w).map (fun i => tokQ (atQ q (0 + i))) = combQ q t.1 := by
    rw [List.nil_append]
    apply List.ext_getElem?
    intro p
    rw [List.getElem?_map]
    by_cases hp : p < w
    · rw [List.getElem?_range hp]
      have h2 := combQ_get q hw (hw t htq) p hp
      rw [← tokQ_at htq, List.getD_eq_getElem?_getD, List.getElem?_eq_getElem (by omega), Option.getD_some] at h2
      rw [List.getElem?_eq_getElem (by omega), h2]
      simp
    · rw [List.getElem?_eq_none (by simp; omega), List.getElem?_eq_none (by omega)]; rfl
  simp only [this]
theorem mineQ_node {w p : Nat} {q : List El} {L : KV} (hne : q ≠ []) (hw : ∀ u ∈ q, u.1.length = w) (h1 : ∀ i, i < p → splQ (atQ q i) = false) (h2 : splQ (atQ q p) = true) (hp : p < w) (hL : L.Perm (atQ q p)) (f : Nat) :
    (L.flatMap fun a => mineQ f (q.filter fun t => decide (t.1.getD p em = a.1))).Perm (mineQ (f + 1) q) := by
  rw [mineQ, widQ_of hw hne, walkQ_hit w 0 p [] (fun i hi => by rw [Nat.zero_add]; exact h1 i hi) (by rw [Nat.zero_add]; exact h2) hp, Nat.zero_add]
  exact hL.flatMap_right _
end Go.Pl
/- The walk of the reference's words. -/
set_option linter.unusedVariables false
namespace Go.Proofs.YtmofaabndjnhjaaGreat
open Go Go.Aw Go.Pl Go.RowKit
def TkR (F : Hp) (x : Tm) : Prop := x.Ok F ∧ x.toks[0]? = some (hdk x)
theorem TkR.le {F F' : Hp} {x : Tm} (h : TkR F x) (hl : HpLe F F') : TkR F' x := ⟨h.1.le hl, h.2⟩
theorem keys_get {l : List Tm} {i : Nat} {x : Tm} (h : l[i]? = some x) : (keys l)[i]? = some x.key := by rw [keys, List.getElem?_map, h]; rfl
theorem drop_get {α : Type} {l : List α} {i : Nat} {x : α} (h : l[i]? = some x) : l.drop i = x :: l.drop (i + 1) := by
  obtain ⟨h1, h2⟩ := List.getElem?_eq_some_iff.1 h
  rw [List.drop_eq_getElem_cons h1, h2]
theorem kv_get {l : List Tm} {i : Nat} {x : Tm} (h : l[i]? = some x) : (kv l)[i]? = some (hdk x, x.cnt) := by rw [kv, List.getElem?_map, h]; rfl
theorem kv_len (l : List Tm) : (kv l).length = l.length := by simp [kv]
theorem insO_hit {k : ByteArray} {n x : Int} : ∀ {l : KV} {i : Nat}, (∀ a ∈ l.take i, a.1 ≠ k) → l[i]? = some (k, x) → insO l k n = l.set i (k, sumK x n)
  | [], i, _, h => by simp at h
  | (a, y) :: r, 0, _, h => by
    simp only [List.getElem?_cons_zero, Option.some.injEq, Prod.mk.injEq] at h
    rw [insO, if_pos h.1, h.1, h.2]; rfl
  | (a, y) :: r, i + 1, ha, h => by
    rw [insO, if_neg (ha (a, y) (by simp)), insO_hit (fun b hb => ha b (by rw [List.take_succ_cons]; exact List.mem_cons_of_mem _ hb)) (by simpa using h)]; rfl
theorem wrd_step {p : Nat} {l : List Tm} {i : Nat} {x : Tm} (h : l[i]? = some x) (acc : KV) : wrdGo p ((keys l).drop i) acc = if x.toks.getD p em = em then none else if 4 < (insO acc (x.toks.getD p em) x.cnt).length then none else wrdGo p ((keys l).drop (i + 1)) (insO acc (x.toks.getD p em) x.cnt) := by
  rw [drop_get (keys_get h)]; rfl
theorem ez98 : Enters Tryz.prog 98 := enters_of Tryz.func98 (by kernel_rfl) rfl
set_option maxHeartbeats 4000000 in
set_option maxRecDepth 100000 in
theorem Fz98 (F : Hp) (va : Value) (l : List Tm) (p : Nat) (ha : Tms F va l) (hok : ∀ t ∈ l, t.Ok F ∧ p < t.toks.length ∧ Cnt t) (hl : l.length ≤ 1048576) (hp : p ≤ 1048576) :
    GC Tryz.prog 98 #[va, .int .i64 p] F (fun u m' => HpLe F m' ∧ ((u = .tuple #[.slice none 0 0, .bool false] ∧ wrdGo p (keys l) [] = none) ∨ ∃ A cap out, u = .tuple #[.slice A (List.length out) cap, .bool true] ∧ Tms m' (.slice A out.length cap) out ∧ (∀ x ∈ out, TkR m' x) ∧ wrdGo p (keys l) [] = some (kv out) ∧ out.length ≤ 4 ∧ ∀ x ∈ out, Cnt x)) := by
  obtain ⟨A, ca, rfl, _⟩ := RdSl.form encT_len (by decide) ha
  refine gc_intro (vs := [_, _]) Tryz.func98 rfl Tryz.ntmps98 (by simp) ?_
  refine awp_rs (ao_r (rig_assign rfl rfl) rfl (ao_r (rig_assign rfl rfl) rfl (ao_nil ?_)))
  refine awp_rs (ao_r (rig_assign rfl rfl) rfl (ao_nil ?_))
  refine awp_sk fun K1 hK1 => awp_rs (ao_r (rig_assign rfl rfl) rfl (ao_nil ?_))
  refine awp_block ?_
  refine awp_le [(0, .slice A l.length ca), (1, .int .i64 p), (6, .slice none 0 0), (7, .int .i64 (0 : Nat))] ⟨rfl, rfl, rfl, rfl, trivial⟩ ?_
  refine awp_loop (fun kk r mm => ∃ (i : Nat) (v : Value) (out : List Tm) (c F1 : Hp), i ≤ l.length ∧ kk = l.length - i ∧ r = [(0, .slice A l.length ca), (1, .int .i64 p), (6, v), (7, .int .i64 i)] ∧ mm = U [c, F1] ∧ Dj [c, F1] ∧ HpLe F F1 ∧ Own 32 2 c v (rows encT out) ∧ (∀ x ∈ out, TkR F1 x) ∧ out.length ≤ 4 ∧ (∀ x ∈ out, Cnt x) ∧ wrdGo p (keys l) [] = wrdGo p ((keys l).drop i) (kv out)) _
    ⟨0, _, [], hp0, F, by omega, rfl, rfl, by rw [U_hp0, U_single], Dj_hp0 (Dj_single F), HpLe.refl _, Own.nil 32 2, by simp, by simp, by simp, rfl⟩ ?_
  rintro kk r mm ⟨i, v, out, c, F1, hi, rfl, rfl, rfl, hD, hF, hO, hT, h4, hcn, hw⟩
  refine awp_sk fun K2 hK2 => awp_rs ?_
  refine ao_r (rig_move rfl rfl) rfl (ao_r (rig_move rfl rfl) rfl (ao_r (rig_lenSl rfl rfl Tryz.underlying23) rfl (ao_r (rig_lss rfl rfl rfl) rfl (ao_nil ?_))))
  refine awp_if rfl (fun h => ?_) (fun h => ?_)
  · refine awp_skip (hK2 _ _ (awp_sk fun K3 hK3 => awp_block (awp_rs ?_)))
    have hil : i < l.length := by omega
    obtain ⟨x, hx⟩ := get_lt hil
    have hxm := List.mem_of_getElem? hx
    obtain ⟨hox, hpx, hcx⟩ := hok x hxm
    obtain ⟨b, off, cap', e, hxc⟩ := Tms.get (RdSl.le ha hF) hx
    simp only [Value.slice.injEq] at e
    obtain ⟨rfl, _, rfl⟩ := e
    obtain ⟨x0, x1, _⟩ := hxc.le (le_at 1 hD rfl)
    obtain ⟨w, hwk⟩ := get_lt hpx
    obtain ⟨bt, ot, hAt, hct⟩ := (hox.le (hF.trans (le_at 1 hD rfl))).get hwk
    have hn := hox.len
    have hgw : x.toks.getD p em = w := by rw [List.getD_eq_getElem?_getD, hwk]; rfl
    have hst := wrd_step (p := p) hx (kv out)
    rw [hgw] at hst
    refine ao_r (rig_move rfl rfl) rfl (ao_r (rig_move rfl rfl) rfl (ao_r (rig_ix i rfl rfl rfl Tryz.underlying23 Tryz.sizeOf32 rfl rfl hil) rfl (ao_r (rig_fieldAddr rfl rfl Tryz.underlying32 rfl Tryz.sizeOf27 rfl) rfl (ao_r (rig_load1 rfl rfl Tryz.isAgg27 x0) rfl (ao_r (rig_move rfl rfl) rfl (ao_r (rig_ix p rfl rfl rfl Tryz.underlying27 Tryz.sizeOf9 hAt rfl (by omega)) rfl (ao_r (rig_load1 rfl rfl Tryz.isAgg9 hct) rfl (ao_r (rig_assign rfl rfl) rfl (ao_nil ?_)))))))))
    refine awp_sk fun K4 hK4 => awp_rs (ao_r (rig_move rfl rfl) rfl (ao_r (rig_seql rfl rfl rfl) rfl (ao_nil ?_)))
    refine awp_if rfl (fun h1 => ?_) (fun h1 => ?_)
    · refine awp_rs (ao_r (rig_assign rfl rfl) rfl (ao_r (rig_assign rfl rfl) rfl (ao_nil ?_)))
      exact awp_ret ⟨_, res2 Tryz.results98 rfl rfl, hF.trans (le_at 1 hD rfl), .inl ⟨rfl, by rw [hw, hst, if_pos (show w = em from h1)]⟩⟩
    · rw [if_neg (show ¬ w = em from h1)] at hst
      refine awp_skip (hK4 _ _ (awp_rs (ao_r (rig_assign rfl rfl) rfl (ao_nil ?_))))
      obtain ⟨A5, cap5, rfl⟩ := hO.len encT_len (by decide)
      refine awp_mid (fun r mm => ∃ k : Nat, k ≤ out.length ∧ (∀ a ∈ (kv out).take k, a.1 ≠ w) ∧ (k < out.length → ∃ y, out[k]? = some y ∧ hdk y = w) ∧ r = [(0, .slice (some ⟨b, off, none⟩) l.length ca), (1, .int .i64 p), (6, .slice A5 out.length cap5), (7, .int .i64 i), (8, .string w), (9, .int .i64 k)] ∧ mm = U [c, F1]) (awp_block ?_) ?_
      · refine awp_le [(0, .slice (some ⟨b, off, none⟩) l.length ca), (1, .int .i64 p), (6, .slice A5 out.length cap5), (7, .int .i64 i), (8, .string w), (9, .int .i64 (0 : Nat))] ⟨rfl, rfl, rfl, rfl, rfl, rfl, trivial⟩ ?_
        refine awp_loop (fun kk r mm => ∃ k : Nat, k ≤ out.length ∧ kk = out.length - k ∧ (∀ a ∈ (kv out).take k, a.1 ≠ w) ∧ r = [(0, .slice (some ⟨b, off, none⟩) l.length ca), (1, .int .i64 p), (6, .slice A5 out.length cap5), (7, .int .i64 i), (8, .string w), (9, .int .i64 k)] ∧ mm = U [c, F1]) _ ⟨0, by omega, rfl, by simp, rfl, rfl⟩ ?_
        rintro kk r mm ⟨k, hk, rfl, hne, rfl, rfl⟩
        refine awp_sk fun K6 hK6 => awp_rs ?_
        refine ao_r (rig_move rfl rfl) rfl (ao_r (rig_move rfl rfl) rfl (ao_r (rig_lenSl rfl rfl Tryz.underlying23) rfl (ao_r (rig_lss rfl rfl rfl) rfl (ao_r (rig_move rfl rfl) rfl ?_))))
        by_cases hkl : (k : Int) < (out.length : Int)
        · rw [decide_eq_true hkl]
          have hkl' : k < out.length := by omega
          obtain ⟨y, hy⟩ := get_lt hkl'
          have hym := List.mem_of_getElem? hy
          have hrd : Tms (U [c, F1]) (.slice A5 out.length cap5) out := RdSl.le hO.rd (le_at 0 hD rfl)
          obtain ⟨b8, o8, cap8, e8, hyc⟩ := Tms.get hrd hy
          simp only [Value.slice.injEq] at e8
          obtain ⟨rfl, _, rfl⟩ := e8
          obtain ⟨y0, y1, _⟩ := id hyc
          have hTy := (hT y hym).le (le_at 1 hD rfl)
          obtain ⟨bk, ok, hAk, hck⟩ := hTy.1.get hTy.2
          have hny := hTy.1.len
          have hy0 : 0 < y.toks.length := (List.getElem?_eq_some_iff.1 hTy.2).1
          refine ao_on rfl rfl (ao_r (rig_move rfl rfl) rfl ?_)
          refine ao_on rfl rfl (ao_r (rig_move rfl rfl) rfl ?_)
          refine ao_on rfl rfl (ao_r (rig_ix k rfl rfl rfl Tryz.underlying23 Tryz.sizeOf32 rfl rfl hkl') rfl ?_)
          refine ao_on rfl rfl (ao_r (rig_fieldAddr rfl rfl Tryz.underlying32 rfl Tryz.sizeOf27 rfl) rfl ?_)
          refine ao_on rfl rfl (ao_r (rig_load1 rfl rfl Tryz.isAgg27 y0) rfl ?_)
          refine ao_on rfl rfl (ao_r (rig_ix 0 rfl rfl rfl Tryz.underlying27 Tryz.sizeOf9 hAk rfl (by omega)) rfl ?_)
          refine ao_on rfl rfl (ao_r (rig_load1 rfl rfl Tryz.isAgg9 hck) rfl ?_)
          refine ao_on rfl rfl (ao_r (rig_move rfl rfl) rfl ?_)
          refine ao_on rfl rfl (ao_r (rig_sneq rfl rfl rfl) rfl ?_)
          refine ao_r (rig_pickT rfl rfl rfl) rfl (ao_nil ?_)
          refine awp_ifn rfl (fun h2 => ?_) (fun h2 => ?_)
          · refine awp_skip (hK6 _ _ (awp_block (awp_region ?_)))
            refine ao_r (rig_move rfl rfl) rfl (ao_r (rig_add (c := ((k + 1 : Nat) : Int)) rfl rfl rfl (w64 _ (by omega) (by omega))) rfl (ao_r (rig_assign rfl rfl) rfl (ao_nil ?_)))
            refine ⟨[(0, .slice (some ⟨b, off, none⟩) l.length ca), (1, .int .i64 p), (6, .slice _ out.length _), (7, .int .i64 i), (8, .string w), (9, .int .i64 (k + 1 : Nat))], _, ⟨rfl, rfl, rfl, rfl, rfl, rfl, trivial⟩, by omega, k + 1, by omega, rfl, fun a hta => ?_, rfl, rfl⟩
            rw [take_succ_get (kv_get hy)] at hta
            rcases List.mem_append.1 hta with h3 | h3
            · exact hne a h3
            · rw [List.mem_singleton.1 h3]; exact h2
          · refine awp_exit ⟨[(0, .slice (some ⟨b, off, none⟩) l.length ca), (1, .int .i64 p), (6, .slice _ out.length _), (7, .int .i64 i), (8, .string w), (9, .int .i64 k)], ⟨rfl, rfl, rfl, rfl, rfl, rfl, trivial⟩, k, by omega, hne, fun _ => ⟨y, hy, h2⟩, rfl, rfl⟩
        · rw [decide_eq_false hkl]
          refine ao_no rfl rfl rfl rfl (ao_no rfl rfl rfl rfl (ao_no rfl rfl rfl rfl (ao_no rfl rfl rfl rfl (ao_no rfl rfl rfl rfl (ao_no rfl rfl rfl rfl (ao_no rfl rfl rfl rfl (ao_no rfl rfl rfl rfl (ao_no rfl rfl rfl rfl ?_))))))))
          refine ao_r (rig_pickF rfl rfl rfl) rfl (ao_nil ?_)
          refine awp_false rfl (awp_exit ⟨[(0, .slice (some ⟨b, off, none⟩) l.length ca), (1, .int .i64 p), (6, .slice _ out.length _), (7, .int .i64 i), (8, .string w), (9, .int .i64 k)], ⟨rfl, rfl, rfl, rfl, rfl, rfl, trivial⟩, k, by omega, hne, fun h => by omega, rfl, rfl⟩)
      · rintro r mm ⟨k, hk, hne, hky, rfl, rfl⟩
        refine awp_mid (fun r mm => ∃ (v2 : Value) (out2 : List Tm) (y : Tm) (c2 F2 : Hp), mm = U [c2, F2] ∧ Dj [c2, F2] ∧ HpLe F1 F2 ∧ Own 32 2 c2 v2 (rows encT out2) ∧ (∀ x ∈ out2, TkR F2 x) ∧ (∀ x ∈ out2, Cnt x) ∧ out2.length ≤ 5 ∧ out2[k]? = some y ∧ insO (kv out) w x.cnt = (kv out2).set k (hdk y, sumK y.cnt x.cnt) ∧ r = [(0, .slice (some ⟨b, off, none⟩) l.length ca), (1, .int .i64 p), (6, v2), (7, .int .i64 i), (9, .int .i64 k)]) (awp_rs ?_) ?_
        · refine ao_r (rig_move rfl rfl) rfl (ao_r (rig_move rfl rfl) rfl (ao_r (rig_lenSl rfl rfl Tryz.underlying23) rfl (ao_r (rig_eql rfl rfl rfl) rfl (ao_nil ?_))))
          refine awp_if rfl (fun h2 => ?_) (fun h2 => ?_)
          · obtain rfl : k = out.length := by omega
            refine awp_region ?_
            refine ao_r (rig_move rfl rfl) rfl (ao_r (rig_move rfl rfl) rfl ?_)
            refine ao_x (ex_buildSlice rfl hD rfl Tryz.underlying27 Tryz.sizeOf9 Tryz.zeroValue9 (by decide) (by decide) (fill_one rfl (rangeMap_size _ _))) rfl fun w2 m2 ⟨b3, hw2, hm2, hD3⟩ => ?_
            subst hw2 hm2
            refine ao_r (rig_build (pl := #[(0, 1), (1, 1)]) (cs := #[.slice (some ⟨b3, 0, none⟩) 1 1, .int .i64 0]) rfl rfl Tryz.underlying32 Tryz.zeroValue32 (fun w => by kernel_rfl) (by kernel_rfl)) rfl ?_
            refine ao_x (ex_buildSlice rfl hD3 rfl Tryz.underlying23 Tryz.sizeOf32 Tryz.zeroValue32 (by decide) (by decide) (fill_one rfl (rangeMap_size _ _))) rfl fun w3 m3 ⟨b4, hw3, hm3, hD4⟩ => ?_
            subst hw3 hm3
            have hsrc : Go.Aw.Src (U [Go.Aw.one b4 (.cells #[.slice (some ⟨b3, 0, none⟩) 1 1, .int .i64 0] 32 (0, 0)), Go.Aw.one b3 (.cells #[.string w] 9 (0, 0)), c, F1]) 2 (.slice (some ⟨b4, 0, none⟩) 1 1) (rows encT [⟨some ⟨b3, 0, none⟩, 1, 1, [w], 0⟩]) := src_one encT_len ((cellsAt_one b4 #[.slice (some ⟨b3, 0, none⟩) 1 1, .int .i64 0] 32).le U_le_head)
            refine ao_x (ex_append 2 (by_ := 32) rfl hD4 rfl rfl Tryz.underlying23 inf32 rfl (by decide) (by decide) hO rfl hsrc (one_rows encT_one _) (by rw [rows_length encT_len, rows_length encT_len]; simp; omega)) rfl fun u4 m4 ⟨c5, hO5, hm5, hD5⟩ => ?_
            subst hm5
            rw [← rows_append] at hO5
            refine ao_r (rig_assign rfl rfl) rfl (ao_nil ?_)
            have hp5 : U [Go.Aw.one b4 (.cells #[.slice (some ⟨b3, 0, none⟩) 1 1, .int .i64 0] 32 (0, 0)), Go.Aw.one b3 (.cells #[.string w] 9 (0, 0)), c5, F1] = U [c5, Go.Aw.one b4 (.cells #[.slice (some ⟨b3, 0, none⟩) 1 1, .int .i64 0] 32 (0, 0)), Go.Aw.one b3 (.cells #[.string w] 9 (0, 0)), F1] ∧ Dj [c5, Go.Aw.one b4 (.cells #[.slice (some ⟨b3, 0, none⟩) 1 1, .int .i64 0] 32 (0, 0)), Go.Aw.one b3 (.cells #[.string w] 9 (0, 0)), F1] := U_pm [2, 0, 1, 3] rfl hD5
            have hF6 : HpLe F1 (U [Go.Aw.one b4 (.cells #[.slice (some ⟨b3, 0, none⟩) 1 1, .int .i64 0] 32 (0, 0)), Go.Aw.one b3 (.cells #[.string w] 9 (0, 0)), F1]) := le_at 2 hp5.2.2 rfl
            have hkn : insO (kv out) w x.cnt = kv out ++ [(w, sumK 0 x.cnt)] := insO_new fun a ha => hne a (by rw [List.take_of_length_le (by rw [kv_len]; omega)]; exact ha)
            refine ⟨[(0, .slice (some ⟨b, off, none⟩) l.length ca), (1, .int .i64 p), (6, u4), (7, .int .i64 i), (9, .int .i64 out.length)], ⟨rfl, rfl, rfl, rfl, rfl, trivial⟩, u4, out ++ [⟨some ⟨b3, 0, none⟩, 1, 1, [w], 0⟩], ⟨some ⟨b3, 0, none⟩, 1, 1, [w], 0⟩, c5, _, hp5.1.trans (U_flat [c5] _).symm, Dj_unflat (A := [c5]) hp5.2, hF6, hO5, fun y hy => ?_, fun y hy => ?_, by simp; omega, by simp, ?_, rfl⟩
            · rcases List.mem_append.1 hy with h3 | h3
              · exact (hT y h3).le hF6
              · rw [List.mem_singleton.1 h3]
                refine ⟨?_, rfl⟩
                exact RdSl.le (enc := encS) (k := 1) ⟨some ⟨b3, 0, none⟩, 1, 1, rfl, rfl, .inr ⟨b3, 0, rfl, cellsAt_one b3 #[.string w] 9⟩⟩ (le_at 1 hp5.2.2 rfl)
            · rcases List.mem_append.1 hy with h3 | h3
              · exact hcn y h3
              · rw [List.mem_singleton.1 h3]; exact ⟨by simp, by simp⟩
            · rw [hkn]
              show _ = (kv (out ++ [_])).set out.length (w, sumK 0 x.cnt)
              rw [show kv (out ++ [(⟨some ⟨b3, 0, none⟩, 1, 1, [w], 0⟩ : Tm)]) = kv out ++ [(w, 0)] by rw [kv, List.map_append]; rfl, List.set_append_right _ _ (Nat.le_of_eq (kv_len out)), kv_len, Nat.sub_self]; rfl
          · obtain ⟨y, hy, hyw⟩ := hky (by omega)
            refine awp_skip ⟨[(0, .slice (some ⟨b, off, none⟩) l.length ca), (1, .int .i64 p), (6, .slice A5 out.length cap5), (7, .int .i64 i), (9, .int .i64 k)], ⟨rfl, rfl, rfl, rfl, rfl, trivial⟩, _, out, y, c, F1, rfl, hD, HpLe.refl _, hO, hT, hcn, by omega, hy, ?_, rfl⟩
            have h3 := kv_get hy
            rw [hyw] at h3
            rw [insO_hit hne h3, hyw]
        · rintro r mm ⟨v2, out2, y, c2, F2, rfl, hD2, hF2, hO2, hT2, hcn2, h5, hy, hins, rfl⟩
          have hkl := (List.getElem?_eq_some_iff.1 hy).1
          have hym := List.mem_of_getElem? hy
          obtain ⟨g, cap3, sp, rfl, rfl, hsp, hnc, hcm⟩ := hO2.some_ encT_len (by decide) (by omega)
          have hrow : Tms (U [Go.Aw.one g (.cells (rows encT out2 ++ sp).toArray 32 (0, 0)), F2]) (.slice (some ⟨g, 0, none⟩) out2.length cap3) out2 := RdSl.le hO2.rd (le_at 0 hD2 rfl)
          obtain ⟨b8, o8, cap8, e8, hyc⟩ := Tms.get hrow hy
          simp only [Value.slice.injEq, Option.some.injEq, Addr.mk.injEq] at e8
          obtain ⟨⟨rfl, rfl, _⟩, _, rfl⟩ := e8
          obtain ⟨y0, y1, _⟩ := id hyc
          obtain ⟨z0, z1, _⟩ := hxc.le (hF2.trans (le_at 1 hD2 rfl))
          have hcy := hcn2 y hym
          have hsr := sumS_range hcy.1 hcy.2 hcx.1
          refine awp_ds (.q 0 (.q 1 (.q 2 (.q 3 (.q 4 (.q 5 (.q 6 (.q 7 (.q 8 (.q 9 (.q 10 (.q 11 (.q 12 (.q 13 (.q 14 (.s 15 .fin)))))))))))))))) [15] (by kernel_rfl) (by kernel_rfl) ?_
          refine oq rfl (rig_move rfl rfl) rfl (oq rfl (rig_move rfl rfl) rfl (oq rfl (rig_move rfl rfl) rfl (oq rfl (rig_move rfl rfl) rfl (oq rfl (rig_ix k rfl rfl rfl Tryz.underlying23 Tryz.sizeOf32 rfl rfl hkl) rfl (oq rfl (rig_fieldAddr rfl rfl Tryz.underlying32 rfl Tryz.sizeOf3 rfl) rfl (oq rfl (rig_load1 rfl rfl Tryz.isAgg3 y1) rfl ?_))))))
          refine oq rfl (rig_move rfl rfl) rfl (oq rfl (rig_move rfl rfl) rfl (oq rfl (rig_ix i rfl rfl rfl Tryz.underlying23 Tryz.sizeOf32 rfl rfl hil) rfl (oq rfl (rig_fieldAddr rfl rfl Tryz.underlying32 rfl Tryz.sizeOf3 rfl) rfl (oq rfl (rig_load1 rfl rfl Tryz.isAgg3 z1) rfl ?_))))
          refine oq rfl (rig_call rfl rfl ez37 (Fz37 _ y.cnt x.cnt (by have h0 : 0 ≤ y.cnt := hcy.1; omega) hcx.1 hcx.2)) rfl (oq rfl (rig_ix k rfl rfl rfl Tryz.underlying23 Tryz.sizeOf32 rfl rfl hkl) rfl (oq rfl (rig_fieldAddr rfl rfl Tryz.underlying32 rfl Tryz.sizeOf3 rfl) rfl ?_))
          refine os0 rfl (ex_store (i := 0) rfl hD2 rfl rfl Tryz.sizeOf3 (by simp [Value.cells, Value.oneCell']) rfl (by simp [Value.cells, rows_length encT_len]; omega)) fun u m1 ⟨_, hm, hD4⟩ => ⟨fun h => by simp at h, ?_⟩
          subst hm
          have erow : putR (rows encT out2 ++ sp).toArray (0 + k * 2 + 1) [.int .i64 (sumS y.cnt x.cnt)] = (rows encT (out2.set k { y with cnt := sumS y.cnt x.cnt }) ++ sp).toArray := by
            rw [Nat.zero_add]; exact putR_cnt out2 _ y _ sp hy
          have hkv3 : kv (out2.set k { y with cnt := sumS y.cnt x.cnt }) = insO (kv out) w x.cnt := by rw [hins, kv_set]; rfl
          have key : ∃ mm, mm = U [Go.Aw.one g (.cells (rows encT (out2.set k { y with cnt := sumS y.cnt x.cnt }) ++ sp).toArray 32 (0, 0)), F2] ∧ Dj [Go.Aw.one g (.cells (rows encT (out2.set k { y with cnt := sumS y.cnt x.cnt }) ++ sp).toArray 32 (0, 0)), F2] ∧ mm = U ([Go.Aw.one g (.cells (rows encT out2 ++ sp).toArray 32 (0, 0)), F2].set 0 (Go.Aw.one g (.cells (putR (rows encT out2 ++ sp).toArray (0 + k * 2 + 1) [.int .i64 (sumS y.cnt x.cnt)]) 32 (0, 0)))) :=
            ⟨_, rfl, by have := hD4; rw [List.set_cons_zero] at this; rw [← erow]; exact this, by rw [erow]; rfl⟩
          obtain ⟨mm, hmm, hD5, hmm2⟩ := key
          have hln : (out2.set k { y with cnt := sumS y.cnt x.cnt }).length = out2.length := by simp
          have hmem : ∀ z ∈ out2.set k { y with cnt := sumS y.cnt x.cnt }, z ∈ out2 ∨ z = { y with cnt := sumS y.cnt x.cnt } := fun z hz => List.mem_or_eq_of_mem_set hz
          have hil2 : (insO (kv out) w x.cnt).length = out2.length := by rw [← hkv3, kv_len, hln]
          refine od_fin (awp_rs ?_)
          refine ao_r (rig_move rfl rfl) rfl (ao_r (rig_lenSl rfl rfl Tryz.underlying23) rfl (ao_r (rig_gtr rfl rfl rfl) rfl (ao_nil ?_)))
          refine awp_if rfl (fun h6 => ?_) (fun h6 => ?_)
          · rw [if_pos (by omega)] at hst
            refine awp_rs (ao_r (rig_assign rfl rfl) rfl (ao_r (rig_assign rfl rfl) rfl (ao_nil ?_)))
            refine awp_ret ⟨_, res2 Tryz.results98 rfl rfl, ?_, .inl ⟨rfl, by rw [hw, hst]⟩⟩
            show HpLe F (U ([Go.Aw.one g (.cells (rows encT out2 ++ sp).toArray 32 (0, 0)), F2].set 0 (Go.Aw.one g (.cells (putR (rows encT out2 ++ sp).toArray (0 + k * 2 + 1) [.int .i64 (sumS y.cnt x.cnt)]) 32 (0, 0)))))
            rw [← hmm2, hmm]
            exact hF.trans (hF2.trans (le_at 1 hD5 rfl))
          · rw [if_neg (by omega)] at hst
            refine awp_skip (hK3 _ _ (awp_region ?_))
            refine ao_r (rig_move rfl rfl) rfl (ao_r (rig_add (c := ((i + 1 : Nat) : Int)) rfl rfl rfl (w64 _ (by omega) (by omega))) rfl (ao_r (rig_assign rfl rfl) rfl (ao_nil ?_)))
            refine ⟨[(0, .slice (some ⟨b, off, none⟩) l.length ca), (1, .int .i64 p), (6, .slice (some ⟨g, 0, none⟩) out2.length cap3), (7, .int .i64 (i + 1 : Nat))], _, ⟨rfl, rfl, rfl, rfl, trivial⟩, by omega, i + 1, _, out2.set k { y with cnt := sumS y.cnt x.cnt }, _, F2, by omega, rfl, rfl, hmm2.symm.trans hmm, hD5, hF.trans hF2, ?_, fun z hz => ?_, by omega, fun z hz => ?_, ?_⟩
            · rw [← hln]
              refine Own.mk_ encT_len ?_ (by rw [hln]; exact hnc) hcm
              rw [List.length_append, rows_length encT_len] at hsp ⊢
              rw [hln]; exact hsp
            · rcases hmem z hz with h | h
              · exact hT2 z h
              · rw [h]; exact hT2 y hym
            · rcases hmem z hz with h | h
              · exact hcn2 z h
              · rw [h]; exact hsr
            · rw [hw, hst, hkv3]
  · obtain rfl : i = l.length := by omega
    obtain ⟨A5, cap5, rfl⟩ := hO.len encT_len (by decide)
    refine awp_exit (hK1 _ _ (awp_rs (ao_r (rig_move rfl rfl) rfl (ao_r (rig_assign rfl rfl) rfl (ao_r (rig_assign rfl rfl) rfl (ao_nil ?_))))))
    rw [List.drop_of_length_le (by simp [keys])] at hw
    exact awp_ret ⟨_, res2 Tryz.results98 rfl rfl, hF.trans (le_at 1 hD rfl), .inr ⟨A5, cap5, out, rfl, RdSl.le hO.rd (le_at 0 hD rfl), fun x hx => (hT x hx).le (le_at 1 hD rfl), hw, h4, hcn⟩⟩
end Go.Proofs.YtmofaabndjnhjaaGreat
/- The walk of the reference's position. -/
set_option linter.unusedVariables false
namespace Go.Proofs.YtmofaabndjnhjaaGreat
open Go Go.Aw Go.Pl Go.RowKit
theorem ez78 : Enters Tryz.prog 78 := enters_of Tryz.func78 (by kernel_rfl) rfl
set_option maxHeartbeats 4000000 in
set_option maxRecDepth 100000 in
theorem Fz78 (F : Hp) (va : Value) (l : List Tm) (w : Nat) (ha : Tms F va l) (hok : ∀ t ∈ l, t.Ok F ∧ t.toks.length = w ∧ Cnt t) (hne : l ≠ []) (hl : l.length ≤ 1048576) (hw : w ≤ 1048576) :
    GC Tryz.prog 78 #[va] F (fun u m' => HpLe F m' ∧ ((u = .tuple #[.int .i64 0, .slice none 0 0, .bool false] ∧ ∀ i, i < w → splQ (atQ (keys l) i) = false) ∨ ∃ p A cap out, u = .tuple #[.int .i64 (p : Nat), .slice A (List.length out) cap, .bool true] ∧ p < w ∧ (∀ i, i < p → splQ (atQ (keys l) i) = false) ∧ splQ (atQ (keys l) p) = true ∧ (kv out).Perm (atQ (keys l) p) ∧ Tms m' (.slice A out.length cap) out ∧ (∀ x ∈ out, TkR m' x) ∧ out.length ≤ 4)) := by
  obtain ⟨A, ca, rfl, _⟩ := RdSl.form encT_len (by decide) ha
  obtain ⟨x, hx⟩ := get_lt (l := l) (i := 0) (List.length_pos_iff.2 hne)
  have hxm := List.mem_of_getElem? hx
  obtain ⟨b, off, cap', e, hxc⟩ := Tms.get ha hx
  simp only [Value.slice.injEq] at e
  obtain ⟨rfl, _, rfl⟩ := e
  have hwx := (hok x hxm).2.1
  have hnx := (hok x hxm).1.len
  refine gc_intro (vs := [_]) Tryz.func78 rfl Tryz.ntmps78 (by simp) ?_
  refine awp_rs (ao_r (rig_assign rfl rfl) rfl (ao_r (rig_assign rfl rfl) rfl (ao_r (rig_assign rfl rfl) rfl (ao_nil ?_))))
  refine awp_sk fun K1 hK1 => awp_rs (ao_r (rig_assign rfl rfl) rfl (ao_nil ?_))
  refine awp_block ?_
  refine awp_le [(0, .slice (some ⟨b, off, none⟩) l.length ca), (5, .int .i64 (0 : Nat))] ⟨rfl, rfl, trivial⟩ ?_
  refine awp_loop (fun kk r mm => ∃ (i : Nat), i ≤ w ∧ kk = w - i ∧ r = [(0, .slice (some ⟨b, off, none⟩) l.length ca), (5, .int .i64 i)] ∧ HpLe F mm ∧ ∀ j, j < i → splQ (atQ (keys l) j) = false) _
    ⟨0, by omega, rfl, rfl, HpLe.refl _, fun j hj => by omega⟩ ?_
  rintro kk r mm ⟨i, hi, rfl, rfl, hF, hno⟩
  obtain ⟨x0, x1, _⟩ := hxc.le hF
  refine awp_sk fun K2 hK2 => awp_rs ?_
  refine ao_r (rig_move rfl rfl) rfl (ao_r (rig_move rfl rfl) rfl (ao_r (rig_ix 0 rfl rfl rfl Tryz.underlying23 Tryz.sizeOf32 rfl rfl (List.length_pos_iff.2 hne)) rfl (ao_r (rig_fieldAddr rfl rfl Tryz.underlying32 rfl Tryz.sizeOf27 rfl) rfl (ao_r (rig_load1 rfl rfl Tryz.isAgg27 x0) rfl (ao_r (rig_lenSl rfl rfl Tryz.underlying27) rfl (ao_r (rig_lss rfl rfl rfl) rfl (ao_nil ?_)))))))
  refine awp_if rfl (fun h => ?_) (fun h => ?_)
  · have hiw : i < w := by omega
    refine awp_skip (hK2 _ _ (awp_sk fun K3 hK3 => awp_block (awp_rs ?_)))
    have hfin : ∀ (m' : Hp), HpLe F m' → splQ (atQ (keys l) i) = false → ∀ r', EnvLe [(0, .slice (some ⟨b, off, none⟩) l.length ca), (5, .int .i64 i)] r' → K3 r' m' := fun m' hF' hs r' hr => by
      refine hK3 _ _ (awp_le _ hr (awp_region ?_))
      refine ao_r (rig_move rfl rfl) rfl (ao_r (rig_add (c := ((i + 1 : Nat) : Int)) rfl rfl rfl (w64 _ (by omega) (by omega))) rfl (ao_r (rig_assign rfl rfl) rfl (ao_nil ?_)))
      refine ⟨[(0, .slice (some ⟨b, off, none⟩) l.length ca), (5, .int .i64 (i + 1 : Nat))], _, ⟨rfl, rfl, trivial⟩, by omega, i + 1, by omega, rfl, rfl, hF', fun j hj => ?_⟩
      by_cases e : j = i
      · rw [e]; exact hs
      · exact hno j (by omega)
    refine ao_r (rig_move rfl rfl) rfl (ao_r (rig_move rfl rfl) rfl ?_)
    refine ao_x (ex_call rfl rfl ez98 (Fz98 mm _ l i (RdSl.le ha hF) (fun t ht => ⟨(hok t ht).1.le hF, by rw [(hok t ht).2.1]; exact hiw, (hok t ht).2.2⟩) hl (by omega))) rfl fun u m2 ⟨hF2, hR⟩ => ?_
    rcases hR with ⟨rfl, hnone⟩ | ⟨A2, c2, out, rfl, hO, hT, hsome, h4, hcn⟩
    · refine ao_r (rig_move rfl rfl) rfl (ao_r (rig_extract rfl rfl rfl) rfl (ao_r (rig_extract rfl rfl rfl) rfl (ao_r (rig_assign rfl rfl) rfl (ao_r (rig_assign rfl rfl) rfl (ao_nil ?_)))))
      refine awp_sk fun K4 hK4 => awp_rs ?_
      refine ao_r (rig_move rfl rfl) rfl (ao_r (rig_not rfl rfl) rfl (ao_r (rig_move rfl rfl) rfl ?_))
      refine ao_no rfl rfl rfl rfl (ao_no rfl rfl rfl rfl (ao_no rfl rfl rfl rfl (ao_r (rig_pickT rfl rfl rfl) rfl (ao_nil ?_))))
      refine awp_true rfl (awp_exit (hfin m2 (hF.trans hF2) (splQ_none hnone) _ ⟨rfl, rfl, trivial⟩))
    · obtain ⟨hsW, hper⟩ := splQ_some hsome
      refine ao_r (rig_move rfl rfl) rfl (ao_r (rig_extract rfl rfl rfl) rfl (ao_r (rig_extract rfl rfl rfl) rfl (ao_r (rig_assign rfl rfl) rfl (ao_r (rig_assign rfl rfl) rfl (ao_nil ?_)))))
      refine awp_sk fun K4 hK4 => awp_rs ?_
      refine ao_r (rig_move rfl rfl) rfl (ao_r (rig_not rfl rfl) rfl (ao_r (rig_move rfl rfl) rfl ?_))
      refine ao_on rfl rfl (ao_r (rig_move rfl rfl) rfl ?_)
      refine ao_on rfl rfl (ao_r (rig_lenSl rfl rfl Tryz.underlying23) rfl ?_)
      refine ao_on rfl rfl (ao_r (rig_lss rfl rfl rfl) rfl ?_)
      refine ao_r (rig_pickF rfl rfl rfl) rfl (ao_nil ?_)
      refine awp_if rfl (fun h2 => ?_) (fun h2 => ?_)
      · refine awp_exit (hfin m2 (hF.trans hF2) ?_ _ ⟨rfl, rfl, trivial⟩)
        rw [hsW, splW, kv_len, decide_eq_false (by omega)]; rfl
      · refine awp_skip (hK4 _ _ (awp_sk fun K5 hK5 => awp_rs (ao_r (rig_assign rfl rfl) rfl (ao_nil ?_))))
        refine awp_block ?_
        refine awp_le [(0, .slice (some ⟨b, off, none⟩) l.length ca), (5, .int .i64 i), (6, .slice A2 out.length c2), (7, .bool true), (8, .int .i64 (0 : Nat))] ⟨rfl, rfl, rfl, rfl, rfl, trivial⟩ ?_
        refine awp_loop (fun kk r mm => ∃ (k : Nat) (ok : Bool), k ≤ out.length ∧ kk = out.length - k ∧ r = [(0, .slice (some ⟨b, off, none⟩) l.length ca), (5, .int .i64 i), (6, .slice A2 out.length c2), (7, .bool ok), (8, .int .i64 k)] ∧ mm = m2 ∧ ok = ((kv out).take k).all fun a => decide (2 ≤ a.2)) _ ⟨0, true, by omega, rfl, rfl, rfl, rfl⟩ ?_
        rintro kk r mm ⟨k, ok, hk, rfl, rfl, rfl, hokk⟩
        refine awp_sk fun K6 hK6 => awp_rs ?_
        refine ao_r (rig_move rfl rfl) rfl (ao_r (rig_move rfl rfl) rfl (ao_r (rig_lenSl rfl rfl Tryz.underlying23) rfl (ao_r (rig_lss rfl rfl rfl) rfl (ao_nil ?_))))
        refine awp_if rfl (fun h3 => ?_) (fun h3 => ?_)
        · have hkl : k < out.length := by omega
          obtain ⟨y, hy⟩ := get_lt hkl
          obtain ⟨b8, o8, cap8, e8, hyc⟩ := Tms.get hO hy
          simp only [Value.slice.injEq] at e8
          obtain ⟨rfl, _, rfl⟩ := e8
          obtain ⟨y0, y1, _⟩ := id hyc
          refine awp_skip (hK6 _ _ (awp_sk fun K7 hK7 => awp_block (awp_region ?_)))
          have hend : ∀ (ok' : Bool), ok' = (ok && decide (2 ≤ y.cnt)) → ∀ r', EnvLe [(0, .slice (some ⟨b, off, none⟩) l.length ca), (5, .int .i64 i), (6, .slice (some ⟨b8, o8, none⟩) out.length c2), (7, .bool ok'), (8, .int .i64 k)] r' → K7 r' mm := fun ok' ho r' hr => by
            refine hK7 _ _ (awp_le _ hr (awp_region ?_))
            refine ao_r (rig_move rfl rfl) rfl (ao_r (rig_add (c := ((k + 1 : Nat) : Int)) rfl rfl rfl (w64 _ (by omega) (by omega))) rfl (ao_r (rig_assign rfl rfl) rfl (ao_nil ?_)))
            refine ⟨[(0, .slice (some ⟨b, off, none⟩) l.length ca), (5, .int .i64 i), (6, .slice (some ⟨b8, o8, none⟩) out.length c2), (7, .bool ok'), (8, .int .i64 (k + 1 : Nat))], _, ⟨rfl, rfl, rfl, rfl, rfl, trivial⟩, by omega, k + 1, ok', by omega, rfl, rfl, rfl, ?_⟩
            rw [ho, take_succ_get (kv_get hy), List.all_append, ← hokk]; simp
          refine ao_r (rig_move rfl rfl) rfl (ao_r (rig_move rfl rfl) rfl ?_)
          cases ok with
          | true =>
            refine ao_on rfl rfl (ao_r (rig_move rfl rfl) rfl ?_)
            refine ao_on rfl rfl (ao_r (rig_move rfl rfl) rfl ?_)
            refine ao_on rfl rfl (ao_r (rig_ix k rfl rfl rfl Tryz.underlying23 Tryz.sizeOf32 rfl rfl hkl) rfl ?_)
            refine ao_on rfl rfl (ao_r (rig_fieldAddr rfl rfl Tryz.underlying32 rfl Tryz.sizeOf3 rfl) rfl ?_)
            refine ao_on rfl rfl (ao_r (rig_load1 rfl rfl Tryz.isAgg3 y1) rfl ?_)
            refine ao_on rfl rfl (ao_r (rig_geq rfl rfl rfl) rfl ?_)
            refine ao_r (rig_pickT rfl rfl rfl) rfl (ao_r (rig_assign rfl rfl) rfl (ao_nil ?_))
            exact hend (decide (2 ≤ y.cnt)) rfl _ ⟨rfl, rfl, rfl, rfl, rfl, trivial⟩
          | false =>
            refine ao_no rfl rfl rfl rfl (ao_no rfl rfl rfl rfl (ao_no rfl rfl rfl rfl (ao_no rfl rfl rfl rfl (ao_no rfl rfl rfl rfl (ao_no rfl rfl rfl rfl ?_)))))
            refine ao_r (rig_pickF rfl rfl rfl) rfl (ao_r (rig_assign rfl rfl) rfl (ao_nil ?_))
            exact hend false rfl _ ⟨rfl, rfl, rfl, rfl, rfl, trivial⟩
        · obtain rfl : k = out.length := by omega
          have hall : splQ (atQ (keys l) i) = ok := by
            rw [hsW, splW, kv_len, decide_eq_true (by omega), Bool.true_and, hokk, List.take_of_length_le (Nat.le_of_eq (kv_len out))]
          refine awp_exit (hK5 _ _ (awp_rs (ao_r (rig_move rfl rfl) rfl (ao_nil ?_))))
          refine awp_cond rfl (fun h4' => ?_) (fun h4' => ?_)
          · refine awp_rs (ao_r (rig_move rfl rfl) rfl (ao_r (rig_move rfl rfl) rfl (ao_r (rig_assign rfl rfl) rfl (ao_r (rig_assign rfl rfl) rfl (ao_r (rig_assign rfl rfl) rfl (ao_nil ?_))))))
            exact awp_ret ⟨_, res3 Tryz.results78 rfl rfl rfl, hF.trans hF2, .inr ⟨i, _, _, out, rfl, hiw, hno, by rw [hall, h4'], hper, hO, hT, h4⟩⟩
          · exact awp_skip (hfin mm (hF.trans hF2) (by rw [hall, h4']) _ ⟨rfl, rfl, trivial⟩)
  · refine awp_exit (hK1 _ _ (awp_rs (ao_r (rig_assign rfl rfl) rfl (ao_r (rig_assign rfl rfl) rfl (ao_r (rig_assign rfl rfl) rfl (ao_nil ?_))))))
    exact awp_ret ⟨_, res3 Tryz.results78 rfl rfl rfl, hF, .inl ⟨rfl, fun j hj => hno j (by omega)⟩⟩
end Go.Proofs.YtmofaabndjnhjaaGreat
/- What the reference's Less and Insert answer, on keys. -/
set_option linter.unusedVariables false
namespace Go.Proofs.YtmofaabndjnhjaaGreat
open Go Go.Aw Go.Pl Go.RowKit
theorem bless_cmp (a b : ByteArray) : bless a b = decide (cmpS a b < 0) := by
  rw [Bool.eq_iff_iff, decide_eq_true_eq, cmpS_neg]; rfl
theorem lessGo_cmp {d : Bool} : ∀ (x y : List ByteArray), x.length = y.length → lessGo x y d = (decide (cmpSL x y < 0) || (decide (x = y) && d))
  | [], [], _ => by
    rw [lessGo, decide_eq_false (cmpSL_self _), decide_eq_true rfl]; rfl
    · intro _ _ _ _ e; cases e
  | [], _ :: _, h => by simp at h
  | _ :: _, [], h => by simp at h
  | a :: x, b :: y, h => by
    rw [lessGo]
    by_cases e : a = b
    · subst e
      rw [if_pos rfl, lessGo_cmp x y (by simpa using h)]
      congr 1
      · rw [decide_eq_decide, cmpSL_cons]
        constructor
        · exact fun h => .inr ⟨rfl, h⟩
        · rintro (h | ⟨_, h⟩)
          · exact absurd h (cmpS_self a)
          · exact h
      · congr 1
        rw [decide_eq_decide]; simp
    · rw [if_neg e, bless_cmp, decide_eq_false (show ¬ (a :: x = b :: y) by simp [e]), Bool.false_and, Bool.or_false, decide_eq_decide, cmpSL_cons]
      constructor
      · exact fun h => .inl h
      · rintro (h | ⟨h, _⟩)
        · exact h
        · exact absurd h e
theorem lessT_cmp (a b : Tm) : lessT a b = decide (cmpE a.key b.key < 0) := by
  rw [Bool.eq_iff_iff, decide_eq_true_eq, cmpE_neg]
  show _ ↔ a.toks.length < b.toks.length ∨ (a.toks.length = b.toks.length ∧ (cmpSL a.toks b.toks < 0 ∨ (a.toks = b.toks ∧ a.cnt < b.cnt)))
  unfold lessT
  by_cases e : a.toks.length = b.toks.length
  · rw [if_pos e, lessGo_cmp _ _ e]
    simp only [Bool.or_eq_true, Bool.and_eq_true, decide_eq_true_eq]
    constructor
    · exact fun h => .inr ⟨e, h⟩
    · rintro (h | ⟨_, h⟩)
      · omega
      · exact h
  · rw [if_neg e, decide_eq_true_eq]
    constructor
    · exact fun h => .inl h
    · rintro (h | ⟨h, _⟩)
      · exact h
      · exact absurd h e
def Dsc (q : List El) : Prop := q.Pairwise fun a b => ¬ cmpE a b < 0
theorem srt_rev (q : List El) : Srt q ↔ Dsc q.reverse := by rw [Dsc, List.pairwise_reverse]; exact Iff.rfl
theorem insRev_perm (t : Tm) : ∀ xs : List Tm, (insRev xs t).Perm (t :: xs)
  | [] => List.Perm.refl _
  | x :: xs => by
    unfold insRev
    split
    · exact ((insRev_perm t xs).cons x).trans (List.Perm.swap _ _ _)
    · exact List.Perm.refl _
theorem ge_trans {a b c : El} (h : ¬ cmpE a b < 0) (k : ¬ cmpE b c < 0) : ¬ cmpE a c < 0 := fun h2 => by
  rcases cmpE_tri a b with h3 | rfl | h3
  · exact h h3
  · exact k h2
  · exact k (cmpE_trans h3 h2)
theorem insRev_dsc (t : Tm) : ∀ xs : List Tm, Dsc (keys xs) → Dsc (keys (insRev xs t))
  | [], _ => List.pairwise_singleton _ _
  | x :: xs, h => by
    have h1 := List.pairwise_cons.1 (show Dsc (x.key :: keys xs) from h)
    unfold insRev
    rw [lessT_cmp]
    by_cases hc : cmpE t.key x.key < 0
    · rw [if_pos (decide_eq_true hc)]
      refine List.pairwise_cons.2 ⟨fun b hb => ?_, insRev_dsc t xs h1.2⟩
      have hb2 := ((insRev_perm t xs).map Tm.key).mem_iff.1 hb
      rcases List.mem_cons.1 hb2 with rfl | hb2
      · exact fun h2 => cmpE_irr _ (cmpE_trans hc h2)
      · exact h1.1 b hb2
    · rw [if_neg (by simpa using hc)]
      refine List.pairwise_cons.2 ⟨fun b hb => ?_, h⟩
      rcases List.mem_cons.1 hb with rfl | hb
      · exact hc
      · exact ge_trans hc (h1.1 b hb)
theorem insT_perm (l : List Tm) (t : Tm) : (insT l t).Perm (t :: l) :=
  (List.reverse_perm _).trans ((insRev_perm t _).trans ((List.reverse_perm l).cons t))
theorem insT_srt {l : List Tm} (t : Tm) (h : Srt (keys l)) : Srt (keys (insT l t)) := by
  rw [srt_rev] at h ⊢
  have e : (keys (insT l t)).reverse = keys (insRev l.reverse t) := by rw [insT, keys, keys, List.map_reverse, List.reverse_reverse]
  rw [e]
  refine insRev_dsc t _ ?_
  rw [keys, List.map_reverse]
  exact h
theorem insT_len (l : List Tm) (t : Tm) : (insT l t).length = l.length + 1 := by rw [(insT_perm l t).length_eq]; rfl
end Go.Proofs.YtmofaabndjnhjaaGreat
/- The walk of the reference's split. -/
set_option linter.unusedVariables false
namespace Go.Proofs.YtmofaabndjnhjaaGreat
open Go Go.Aw Go.Pl Go.RowKit
theorem ez59 : Enters Tryz.prog 59 := enters_of Tryz.func59 (by kernel_rfl) rfl
/-- A row of tokens while it is compared with another. -/
def halfC (ts xs : List ByteArray) (k : Nat) : List ByteArray := (combB ts xs).take k ++ ts.drop k
theorem halfC_zero (ts xs : List ByteArray) : halfC ts xs 0 = ts := by simp [halfC]
theorem halfC_len {ts xs : List ByteArray} (h : xs.length = ts.length) {k : Nat} (hk : k ≤ ts.length) : (halfC ts xs k).length = ts.length := by
  simp only [halfC, List.length_append, List.length_take, List.length_drop, combB_len h]; omega
theorem halfC_all {ts xs : List ByteArray} (h : xs.length = ts.length) : halfC ts xs ts.length = combB ts xs := by
  rw [halfC, List.drop_of_length_le (Nat.le_refl _), List.append_nil, List.take_of_length_le (by rw [combB_len h]; exact Nat.le_refl _)]
theorem halfC_get {ts xs : List ByteArray} (h : xs.length = ts.length) {k : Nat} {t : ByteArray} (hk : ts[k]? = some t) : (halfC ts xs k)[k]? = some t := by
  have hl := (List.getElem?_eq_some_iff.1 hk).1
  have h1 : ((combB ts xs).take k).length = k := by rw [List.length_take, combB_len h]; omega
  rw [halfC, List.getElem?_append_right (by omega), h1, Nat.sub_self, List.getElem?_drop, Nat.add_zero]; exact hk
theorem combB_at {ts xs : List ByteArray} {k : Nat} {t x : ByteArray} (hk : ts[k]? = some t) (hx : xs[k]? = some x) : (combB ts xs)[k]? = some (if x = t then t else em) := by
  rw [combB, List.getElem?_zipWith, hk, hx]
theorem halfC_succ {ts xs : List ByteArray} (h : xs.length = ts.length) {k : Nat} {t x : ByteArray} (hk : ts[k]? = some t) (hx : xs[k]? = some x) : halfC ts xs (k + 1) = (halfC ts xs k).set k (if x = t then t else em) := by
  have h1 : ((combB ts xs).take k).length = k := by rw [List.length_take, combB_len h]; have := (List.getElem?_eq_some_iff.1 hk).1; omega
  rw [halfC, halfC, take_succ_get (combB_at hk hx), drop_get hk, List.set_append_right _ _ (by omega), h1, Nat.sub_self, List.set_cons_zero, List.append_assoc]; rfl
theorem set_same {α : Type} {l : List α} {i : Nat} {x : α} (h : l[i]? = some x) : l.set i x = l := by
  apply List.ext_getElem?
  intro j
  rw [List.getElem?_set]
  split
  · rename_i e; subst e; rw [if_pos (List.getElem?_eq_some_iff.1 h).1, h]
  · rfl
theorem keys_comb {l : List Tm} {i : Nat} {x : Tm} (h : l[i]? = some x) (ts : List ByteArray) : combQ (keys (l.take (i + 1))) ts = combB (combQ (keys (l.take i)) ts) x.toks := by
  rw [take_succ_get h, keys, List.map_append, combQ, List.foldl_append]; rfl
theorem keys_width {l : List Tm} {w : Nat} (h : ∀ t ∈ l, t.toks.length = w ∧ Cnt t) : (∀ u ∈ keys l, u.1.length = w) ∧ ∀ u ∈ keys l, okC u.2 := by
  refine ⟨fun u hu => ?_, fun u hu => ?_⟩
  · obtain ⟨t, ht, rfl⟩ := List.mem_map.1 hu; exact (h t ht).1
  · obtain ⟨t, ht, rfl⟩ := List.mem_map.1 hu; exact (h t ht).2
theorem keys_len (l : List Tm) : (keys l).length = l.length := by simp [keys]
/-- The parts told so far, and the next. -/
theorem parts_room {q : List El} {p f j : Nat} {L : KV} {a : ByteArray × Int} (hL : Nd L) (ha : L[j]? = some a) (hm : ∀ b ∈ L, (q.filter fun t => decide (t.1.getD p em = b.1)) ≠ []) :
    ((L.take j).flatMap fun b => mineQ f (q.filter fun t => decide (t.1.getD p em = b.1))).length + (q.filter fun t => decide (t.1.getD p em = a.1)).length ≤ q.length := by
  have h1 := flat_len (fun b : ByteArray × Int => mineQ f (q.filter fun t => decide (t.1.getD p em = b.1))) (fun b => (q.filter fun t => decide (t.1.getD p em = b.1)).length) (L.take j) fun b hb => mineQ_most f _ (hm b (List.mem_of_mem_take hb))
  have h2 := parts_len (p := p) (L.take (j + 1)) (List.Pairwise.sublist (List.take_sublist _ _) hL) q
  rw [take_succ_get ha, List.map_append, List.sum_append] at h2
  simp only [List.map_cons, List.map_nil, List.sum_cons, List.sum_nil] at h2
  omega
def Spl (w : Nat) (l : List Tm) : Prop := ∀ (F : Hp) (vo va : Value) (outs : List Tm), Tms F vo outs → (∀ t ∈ outs, t.Ok F ∧ t.toks.length ≤ 16777216) → Srt (keys outs) → Tms F va l → (∀ t ∈ l, t.Ok F) → outs.length + l.length ≤ 1048576 →
  GC Tryz.prog 59 #[vo, va] F (fun u m' => ∃ outs', HpLe F m' ∧ Tms m' u outs' ∧ (∀ t ∈ outs', t.Ok m' ∧ t.toks.length ≤ 16777216) ∧ Srt (keys outs') ∧ (keys outs').Perm (keys outs ++ mineQ l.length (keys l)))
set_option maxHeartbeats 4000000 in
set_option maxRecDepth 100000 in
theorem Fz59s (w : Nat) (l : List Tm) (hne : l ≠ []) (hw : ∀ t ∈ l, t.toks.length = w ∧ Cnt t) (hw1 : 1 ≤ w) (hw2 : w ≤ 1048576)
    (IH : ∀ l' : List Tm, l'.length < l.length → l' ≠ [] → (∀ t ∈ l', t.toks.length = w ∧ Cnt t) → Spl w l') : Spl w l := by
  intro F vo va outs hvo hoo hso ha hok hb
  obtain ⟨A, ca, rfl, _⟩ := RdSl.form encT_len (by decide) ha
  obtain ⟨x, hx⟩ := get_lt (l := l) (i := 0) (List.length_pos_iff.2 hne)
  have hxm := List.mem_of_getElem? hx
  obtain ⟨b, off, cap', e, hxc⟩ := Tms.get ha hx
  simp only [Value.slice.injEq] at e
  obtain ⟨rfl, _, rfl⟩ := e
  have hwx := (hw x hxm).1
  have hnx := (hok x hxm).len
  obtain ⟨hkw, hkc⟩ := keys_width hw
  obtain ⟨f, hf⟩ : ∃ f, l.length = f + 1 := ⟨l.length - 1, by have := List.length_pos_iff.2 hne; omega⟩
  have hkne : keys l ≠ [] := fun e => hne (by simpa [keys] using e)
  refine gc_intro (vs := [_, _]) Tryz.func59 rfl Tryz.ntmps59 (by simp) ?_
  refine awp_rs (ao_r (rig_assign rfl rfl) rfl (ao_nil ?_))
  refine awp_rs (ao_r (rig_move rfl rfl) rfl ?_)
  refine ao_x (ex_call rfl rfl ez78 (Fz78 F _ l w ha (fun t ht => ⟨hok t ht, (hw t ht).1, (hw t ht).2⟩) hne (by omega) hw2)) rfl fun u m1 ⟨hF1, hR⟩ => ?_
  rcases hR with ⟨rfl, hmiss⟩ | ⟨p, A2, c2, out, rfl, hpw, hbef, hsp, hper, hO, hT, h4⟩
  · -- one template
    refine ao_r (rig_move rfl rfl) rfl (ao_r (rig_extract rfl rfl rfl) rfl (ao_r (rig_extract rfl rfl rfl) rfl (ao_r (rig_extract rfl rfl rfl) rfl (ao_r (rig_assign rfl rfl) rfl (ao_r (rig_assign rfl rfl) rfl (ao_r (rig_assign rfl rfl) rfl (ao_nil ?_)))))))
    refine awp_sk fun K8 hK8 => awp_rs (ao_r (rig_move rfl rfl) rfl (ao_nil ?_))
    refine awp_false rfl (awp_skip (hK8 _ _ (awp_u (awp_rs ?_))))
    obtain ⟨x0, x1, _⟩ := hxc.le (hF1.trans (show HpLe m1 (U [m1]) by rw [U_single]; exact HpLe.refl _))
    have hx1 : x.Ok m1 := (hok x hxm).le hF1
    have hsrc0 : Go.Aw.Src (U [m1]) 1 (.slice x.A x.n x.cap) (rows encS x.toks) := by rw [U_single]; exact hx1
    refine ao_r (rig_move rfl rfl) rfl (ao_r (rig_ix 0 rfl rfl rfl Tryz.underlying23 Tryz.sizeOf32 rfl rfl (List.length_pos_iff.2 hne)) rfl (ao_r (rig_fieldAddr rfl rfl Tryz.underlying32 rfl Tryz.sizeOf27 rfl) rfl (ao_r (rig_load1 rfl rfl Tryz.isAgg27 x0) rfl ?_)))
    refine ao_x (ex_appendNil (by_ := 16) rfl (Dj_single m1) rfl rfl Tryz.underlying27 inf9 rfl (by decide) (by decide) hsrc0 (one_rows encS_one _) (by rw [rows_length encS_len]; omega)) rfl fun u2 m2 ⟨c4, hO4, hm2, hD2⟩ => ?_
    subst hm2
    obtain ⟨g, cap4, sp, rfl, rfl, hsl, hnc, hcm⟩ := hO4.some_ encS_len (by decide) (by omega)
    rw [hwx] at hnc ⊢
    refine ao_r (rig_build (pl := #[(0, 1), (1, 1)]) (cs := #[.slice (some ⟨g, 0, none⟩) w cap4, .int .i64 0]) rfl rfl Tryz.underlying32 Tryz.zeroValue32 (fun w => by kernel_rfl) (by rfl)) rfl ?_
    refine ao_x (ex_alloc rfl hD2 Tryz.zeroValue32) rfl fun u3 m3 ⟨b11, hu, hm3, hD3⟩ => ?_
    subst hu hm3
    refine ao_x0 (ex_store (i := 0) rfl hD3 rfl rfl Tryz.sizeOf32 (by simp [Value.cells, Value.oneCell']) rfl (by simp [Value.cells])) fun u4 m4 ⟨_, hm4, hD4⟩ => ao_nil ?_
    subst hm4
    refine awp_sk fun K15 hK15 => awp_rs (ao_r (rig_assign rfl rfl) rfl (ao_nil ?_))
    refine awp_block ?_
    refine awp_le [(0, vo), (1, .slice (some ⟨b, off, none⟩) l.length ca), (11, .pointer (some ⟨b11, 0, none⟩)), (12, .int .i64 (0 : Nat))] ⟨rfl, rfl, rfl, rfl, trivial⟩ ?_
    refine awp_loop (fun kk r mm => ∃ (i : Nat) (ts : List ByteArray), i ≤ l.length ∧ kk = l.length - i ∧ r = [(0, vo), (1, .slice (some ⟨b, off, none⟩) l.length ca), (11, .pointer (some ⟨b11, 0, none⟩)), (12, .int .i64 i)] ∧ ts = combQ (keys (l.take i)) x.toks ∧ mm = U [Go.Aw.one b11 (.cells #[.slice (some ⟨g, 0, none⟩) w cap4, .int .i64 (totS 0 (l.take i))] 32 (0, 0)), Go.Aw.one g (.cells (rows encS ts ++ sp).toArray 9 (0, 0)), m1] ∧ Dj [Go.Aw.one b11 (.cells #[.slice (some ⟨g, 0, none⟩) w cap4, .int .i64 (totS 0 (l.take i))] 32 (0, 0)), Go.Aw.one g (.cells (rows encS ts ++ sp).toArray 9 (0, 0)), m1]) _
      ⟨0, x.toks, by omega, rfl, rfl, rfl, rfl, hD4⟩ ?_
    clear hD2 hD3 hD4
    rintro kk r mm ⟨i, ts, hi, rfl, rfl, hts, rfl, hD⟩
    have htl : ts.length = w := by rw [hts]; exact combQ_len _ (fun u hu => hkw u (List.mem_map.2 (by obtain ⟨t, ht, e⟩ := List.mem_map.1 hu; exact ⟨t, List.mem_of_mem_take ht, e⟩))) hwx
    have hcnt := totS_range (l.take i) 0 (by omega) (by omega) fun t ht => (hw t (List.mem_of_mem_take ht)).2
    refine awp_sk fun K16 hK16 => awp_rs ?_
    refine ao_r (rig_move rfl rfl) rfl (ao_r (rig_move rfl rfl) rfl (ao_r (rig_lenSl rfl rfl Tryz.underlying23) rfl (ao_r (rig_lss rfl rfl rfl) rfl (ao_nil ?_))))
    refine awp_if rfl (fun h => ?_) (fun h => ?_)
    · have hil : i < l.length := by omega
      obtain ⟨y, hy⟩ := get_lt hil
      have hym := List.mem_of_getElem? hy
      have hcy := (hw y hym).2
      have hyw := (hw y hym).1
      obtain ⟨b8, o8, cap8, e8, hyc⟩ := Tms.get (RdSl.le ha hF1) hy
      simp only [Value.slice.injEq] at e8
      obtain ⟨e8, _, rfl⟩ := e8
      have hoy : y.Ok m1 := (hok y hym).le hF1
      have hny := hoy.len
      obtain ⟨y0, y1, _⟩ := hyc.le (le_at 2 hD rfl)
      have z1 : cell (U [Go.Aw.one b11 (.cells #[.slice (some ⟨g, 0, none⟩) w cap4, .int .i64 (totS 0 (l.take i))] 32 (0, 0)), Go.Aw.one g (.cells (rows encS ts ++ sp).toArray 9 (0, 0)), m1]) b11 (0 + 1) = some (.int .i64 (totS 0 (l.take i))) := cell_at 0 hD rfl rfl
      refine awp_skip (hK16 _ _ (awp_sk fun K17 hK17 => awp_block ?_))
      refine awp_ds (.q 0 (.q 1 (.q 2 (.q 3 (.q 4 (.q 5 (.q 6 (.q 7 (.q 8 (.s 9 .fin)))))))))) [9] (by kernel_rfl) (by kernel_rfl) ?_
      refine oq rfl (rig_fieldAddr rfl rfl Tryz.underlying32 rfl Tryz.sizeOf3 rfl) rfl (oq rfl (rig_load1 rfl rfl Tryz.isAgg3 z1) rfl (oq rfl (rig_move rfl rfl) rfl (oq rfl (rig_move rfl rfl) rfl (oq rfl (rig_ix i rfl rfl rfl Tryz.underlying23 Tryz.sizeOf32 e8 rfl hil) rfl (oq rfl (rig_fieldAddr rfl rfl Tryz.underlying32 rfl Tryz.sizeOf3 rfl) rfl (oq rfl (rig_load1 rfl rfl Tryz.isAgg3 y1) rfl (oq rfl (rig_call rfl rfl ez37 (Fz37 _ (totS 0 (l.take i)) y.cnt (by omega) hcy.1 hcy.2)) rfl (oq rfl (rig_fieldAddr rfl rfl Tryz.underlying32 rfl Tryz.sizeOf3 rfl) rfl ?_))))))))
      refine os0 rfl (ex_store (i := 0) rfl hD rfl rfl Tryz.sizeOf3 (by simp [Value.cells, Value.oneCell']) rfl (by simp [Value.cells])) fun u m5 ⟨_, hm, hD5⟩ => ⟨fun h => by simp at h, ?_⟩
      subst hm
      have hsum : sumS (totS 0 (l.take i)) y.cnt = totS 0 (l.take (i + 1)) := by rw [take_succ_get hy, totS_snoc]
      rw [hsum] at hD5 ⊢
      have hD6 : Dj [Go.Aw.one b11 (.cells #[.slice (some ⟨g, 0, none⟩) w cap4, .int .i64 (totS 0 (l.take (i + 1)))] 32 (0, 0)), Go.Aw.one g (.cells (rows encS (halfC ts y.toks 0) ++ sp).toArray 9 (0, 0)), m1] := by rw [halfC_zero]; exact hD5
      refine od_fin (awp_rs (ao_r (rig_assign rfl rfl) rfl (ao_nil ?_)))
      refine awp_block ?_
      refine awp_le [(0, vo), (1, .slice (some ⟨b, off, none⟩) l.length ca), (11, .pointer (some ⟨b11, 0, none⟩)), (12, .int .i64 i), (13, .int .i64 (0 : Nat))] ⟨rfl, rfl, rfl, rfl, rfl, trivial⟩ ?_
      refine awp_loop (fun kk r mm => ∃ (k : Nat), k ≤ w ∧ kk = w - k ∧ r = [(0, vo), (1, .slice (some ⟨b, off, none⟩) l.length ca), (11, .pointer (some ⟨b11, 0, none⟩)), (12, .int .i64 i), (13, .int .i64 k)] ∧ mm = U [Go.Aw.one b11 (.cells #[.slice (some ⟨g, 0, none⟩) w cap4, .int .i64 (totS 0 (l.take (i + 1)))] 32 (0, 0)), Go.Aw.one g (.cells (rows encS (halfC ts y.toks k) ++ sp).toArray 9 (0, 0)), m1] ∧ Dj [Go.Aw.one b11 (.cells #[.slice (some ⟨g, 0, none⟩) w cap4, .int .i64 (totS 0 (l.take (i + 1)))] 32 (0, 0)), Go.Aw.one g (.cells (rows encS (halfC ts y.toks k) ++ sp).toArray 9 (0, 0)), m1]) _
        ⟨0, by omega, rfl, rfl, by rw [halfC_zero]; rfl, hD6⟩ ?_
      clear hD5 hD6
      rintro kk r mm ⟨k, hk, rfl, rfl, rfl, hD⟩
      have z0 : cell (U [Go.Aw.one b11 (.cells #[.slice (some ⟨g, 0, none⟩) w cap4, .int .i64 (totS 0 (l.take (i + 1)))] 32 (0, 0)), Go.Aw.one g (.cells (rows encS (halfC ts y.toks k) ++ sp).toArray 9 (0, 0)), m1]) b11 (0 + 0) = some (.slice (some ⟨g, 0, none⟩) w cap4) := cell_at 0 hD rfl rfl
      refine awp_sk fun K18 hK18 => awp_rs ?_
      refine ao_r (rig_move rfl rfl) rfl (ao_r (rig_fieldAddr rfl rfl Tryz.underlying32 rfl Tryz.sizeOf27 rfl) rfl (ao_r (rig_load1 rfl rfl Tryz.isAgg27 z0) rfl (ao_r (rig_lenSl rfl rfl Tryz.underlying27) rfl (ao_r (rig_lss rfl rfl rfl) rfl (ao_nil ?_)))))
      refine awp_if rfl (fun h2 => ?_) (fun h2 => ?_)
      · have hkw2 : k < w := by omega
        obtain ⟨t, ht⟩ := get_lt (l := ts) (i := k) (by omega)
        obtain ⟨s, hs⟩ := get_lt (l := y.toks) (i := k) (by omega)
        have hlts : y.toks.length = ts.length := by rw [hyw, htl]
        have hhl := halfC_len hlts (k := k) (by omega)
        have hget := halfC_get hlts ht
        obtain ⟨bs, os_, hsA, hsc⟩ := (hoy.le (le_at 2 hD rfl)).get hs
        obtain ⟨w0, w1, _⟩ := hyc.le (le_at 2 hD rfl)
        have hct : cell (U [Go.Aw.one b11 (.cells #[.slice (some ⟨g, 0, none⟩) w cap4, .int .i64 (totS 0 (l.take (i + 1)))] 32 (0, 0)), Go.Aw.one g (.cells (rows encS (halfC ts y.toks k) ++ sp).toArray 9 (0, 0)), m1]) g (0 + k * 1) = some (.string t) := by
          refine cell_at 1 hD rfl ?_
          have := rows_get encS_len _ k t hget 0 (.string t) rfl
          simp only [List.getElem?_toArray]
          rw [List.getElem?_append_left (by simpa using (List.getElem?_eq_some_iff.1 this).1)]
          simpa using this
        have hstep := halfC_succ hlts ht hs
        refine awp_skip (hK18 _ _ (awp_sk fun K19 hK19 => awp_block ?_))
        have hfin : Dj [Go.Aw.one b11 (.cells #[.slice (some ⟨g, 0, none⟩) w cap4, .int .i64 (totS 0 (l.take (i + 1)))] 32 (0, 0)), Go.Aw.one g (.cells (rows encS (halfC ts y.toks (k + 1)) ++ sp).toArray 9 (0, 0)), m1] → ∀ r', EnvLe [(0, vo), (1, .slice (some ⟨b, off, none⟩) l.length ca), (11, .pointer (some ⟨b11, 0, none⟩)), (12, .int .i64 i), (13, .int .i64 k)] r' → K19 r' (U [Go.Aw.one b11 (.cells #[.slice (some ⟨g, 0, none⟩) w cap4, .int .i64 (totS 0 (l.take (i + 1)))] 32 (0, 0)), Go.Aw.one g (.cells (rows encS (halfC ts y.toks (k + 1)) ++ sp).toArray 9 (0, 0)), m1]) := fun hd r' hr => by
          refine hK19 _ _ (awp_le _ hr (awp_region ?_))
          refine ao_r (rig_move rfl rfl) rfl (ao_r (rig_add (c := ((k + 1 : Nat) : Int)) rfl rfl rfl (w64 _ (by omega) (by omega))) rfl (ao_r (rig_assign rfl rfl) rfl (ao_nil ?_)))
          exact ⟨[(0, vo), (1, .slice (some ⟨b, off, none⟩) l.length ca), (11, .pointer (some ⟨b11, 0, none⟩)), (12, .int .i64 i), (13, .int .i64 (k + 1 : Nat))], _, ⟨rfl, rfl, rfl, rfl, rfl, trivial⟩, by omega, k + 1, by omega, rfl, rfl, rfl, hd⟩
        refine awp_ds (.q 0 (.q 1 (.q 2 (.q 3 (.q 4 (.q 5 (.q 6 (.q 7 (.q 8 (.q 9 (.q 10 (.q 11 (.q 12 (.q 13 .fin)))))))))))))) [] (by kernel_rfl) (by kernel_rfl) ?_
        refine oq rfl (rig_move rfl rfl) rfl (oq rfl (rig_move rfl rfl) rfl (oq rfl (rig_ix i rfl rfl rfl Tryz.underlying23 Tryz.sizeOf32 e8 rfl hil) rfl (oq rfl (rig_fieldAddr rfl rfl Tryz.underlying32 rfl Tryz.sizeOf27 rfl) rfl (oq rfl (rig_load1 rfl rfl Tryz.isAgg27 w0) rfl (oq rfl (rig_move rfl rfl) rfl (oq rfl (rig_ix k rfl rfl rfl Tryz.underlying27 Tryz.sizeOf9 hsA rfl (by omega)) rfl (oq rfl (rig_load1 rfl rfl Tryz.isAgg9 hsc) rfl ?_)))))))
        refine oq rfl (rig_fieldAddr rfl rfl Tryz.underlying32 rfl Tryz.sizeOf27 rfl) rfl (oq rfl (rig_load1 rfl rfl Tryz.isAgg27 z0) rfl (oq rfl (rig_move rfl rfl) rfl (oq rfl (rig_ix k rfl rfl rfl Tryz.underlying27 Tryz.sizeOf9 rfl rfl hkw2) rfl (oq rfl (rig_load1 rfl rfl Tryz.isAgg9 hct) rfl (oq rfl (rig_sneq rfl rfl rfl) rfl (od_fin ?_))))))
        refine awp_ifn rfl (fun h3 => ?_) (fun h3 => ?_)
        · refine awp_region ?_
          refine ao_r (rig_fieldAddr rfl rfl Tryz.underlying32 rfl Tryz.sizeOf27 rfl) rfl (ao_r (rig_load1 rfl rfl Tryz.isAgg27 z0) rfl (ao_r (rig_move rfl rfl) rfl (ao_r (rig_ix k rfl rfl rfl Tryz.underlying27 Tryz.sizeOf9 rfl rfl hkw2) rfl ?_)))
          refine ao_x0 (ex_store (i := 1) rfl hD rfl rfl Tryz.sizeOf9 (by simp [Value.cells, Value.oneCell']) rfl (by simp [Value.cells, rows_length encS_len, hhl]; omega)) fun u m6 ⟨_, hm, hd2⟩ => ao_nil ?_
          subst hm
          rw [if_neg h3] at hstep
          have e : putR (rows encS (halfC ts y.toks k) ++ sp).toArray (0 + k * 1) (Value.string ⟨#[]⟩).cells.toList = (rows encS (halfC ts y.toks (k + 1)) ++ sp).toArray := by
            rw [Nat.zero_add, show (Value.string ⟨#[]⟩).cells.toList = encS em from rfl, putR_rows encS_len _ k _ sp (by omega), hstep]
          rw [List.set_cons_succ, List.set_cons_zero, e] at hd2 ⊢
          exact hfin hd2 _ ⟨rfl, rfl, rfl, rfl, rfl, trivial⟩
        · rw [if_pos h3, set_same hget] at hstep
          rw [hstep] at hfin
          exact awp_skip (hfin hD _ ⟨rfl, rfl, rfl, rfl, rfl, trivial⟩)
      · obtain rfl : k = w := by omega
        rw [show halfC ts y.toks k = combB ts y.toks by rw [← htl]; exact halfC_all (by omega)] at hD ⊢
        refine awp_exit (hK17 _ _ (awp_region ?_))
        refine ao_r (rig_move rfl rfl) rfl (ao_r (rig_add (c := ((i + 1 : Nat) : Int)) rfl rfl rfl (w64 _ (by omega) (by omega))) rfl (ao_r (rig_assign rfl rfl) rfl (ao_nil ?_)))
        exact ⟨[(0, vo), (1, .slice (some ⟨b, off, none⟩) l.length ca), (11, .pointer (some ⟨b11, 0, none⟩)), (12, .int .i64 (i + 1 : Nat))], _, ⟨rfl, rfl, rfl, rfl, trivial⟩, by omega, i + 1, combB ts y.toks, by omega, rfl, rfl, by rw [keys_comb hy, hts], rfl, hD⟩
    · obtain rfl : i = l.length := by omega
      rw [List.take_length] at hts hD ⊢
      have hcl : CellsAt (U [Go.Aw.one b11 (.cells #[.slice (some ⟨g, 0, none⟩) w cap4, .int .i64 (totS 0 l)] 32 (0, 0)), Go.Aw.one g (.cells (rows encS ts ++ sp).toArray 9 (0, 0)), m1]) b11 0 [.slice (some ⟨g, 0, none⟩) w cap4, .int .i64 (totS 0 l)] := (cellsAt_one b11 #[.slice (some ⟨g, 0, none⟩) w cap4, .int .i64 (totS 0 l)] 32).le (le_at 0 hD rfl)
      have hrow : Own 9 1 (Go.Aw.one g (.cells (rows encS ts ++ sp).toArray 9 (0, 0))) (.slice (some ⟨g, 0, none⟩) ts.length cap4) (rows encS ts) := by
        refine Own.mk_ encS_len ?_ (by rw [htl]; exact hnc) hcm
        rw [List.length_append, rows_length encS_len] at hsl ⊢
        rw [htl, ← hwx]; exact hsl
      rw [htl] at hrow
      have hins := Fz55 _ vo outs ⟨some ⟨g, 0, none⟩, w, cap4, ts, totS 0 l⟩ (RdSl.le hvo (hF1.trans (le_at 2 hD rfl))) (fun t ht => (hoo t ht).1.le (hF1.trans (le_at 2 hD rfl))) (RdSl.le hrow.rd (le_at 1 hD rfl)) (by omega) (by show ts.length ≤ _; omega)
      refine awp_exit (hK15 _ _ (awp_rs ?_))
      refine ao_r (rig_move rfl rfl) rfl (ao_r (rig_loadN (vs := [_, _]) rfl rfl Tryz.isAgg32 Tryz.sizeOf32 hcl) rfl ?_)
      refine ao_x (ex_call rfl rfl ez55 hins) rfl fun u m7 hfr => ao_r (rig_assign rfl rfl) rfl (ao_nil ?_)
      obtain ⟨c7, F7, hD7, rfl, hO7⟩ := Fresh.at hD hfr
      have hle7 : HpLe m1 (U [c7, F7, Go.Aw.one b11 (.cells #[.slice (some ⟨g, 0, none⟩) w cap4, .int .i64 (totS 0 l)] 32 (0, 0)), Go.Aw.one g (.cells (rows encS ts ++ sp).toArray 9 (0, 0)), m1]) := le_at 4 hD7 rfl
      refine awp_ret ⟨_, res1 Tryz.results59 rfl, insT outs ⟨some ⟨g, 0, none⟩, w, cap4, ts, totS 0 l⟩, hF1.trans hle7, RdSl.le hO7.rd (le_at 0 hD7 rfl), fun t ht => ?_, insT_srt _ hso, ?_⟩
      · rcases List.mem_cons.1 ((insT_perm outs _).mem_iff.1 ht) with rfl | ht
        · exact ⟨RdSl.le hrow.rd (le_at 3 hD7 rfl), by show ts.length ≤ _; omega⟩
        · exact ⟨(hoo t ht).1.le (hF1.trans hle7), (hoo t ht).2⟩
      · have hh : (keys l).head? = some x.key := by
          cases l with
          | nil => exact absurd rfl hne
          | cons z r => simp at hx; subst hx; rfl
        rw [hf, mineQ_leaf hh hkw hmiss]
        refine ((insT_perm outs _).map Tm.key).trans ?_
        have e : (⟨some ⟨g, 0, none⟩, w, cap4, ts, totS 0 l⟩ : Tm).key = (combQ (keys l) x.key.1, totQ (keys l)) := by
          show (ts, totS 0 l) = _
          rw [hts, totS_keys]; rfl
        rw [List.map_cons, e]
        exact (List.perm_append_singleton _ _).symm
  · -- the group is split
    have hmn := mineQ_node hkne hkw hbef hsp hpw hper f
    have h2 : 2 ≤ (atQ (keys l) p).length := splQ_two hsp
    have hnd : Nd (kv out) := Nd.perm hper.symm (asc_nd (atQ_asc (keys l) p))
    refine ao_r (rig_move rfl rfl) rfl (ao_r (rig_extract rfl rfl rfl) rfl (ao_r (rig_extract rfl rfl rfl) rfl (ao_r (rig_extract rfl rfl rfl) rfl (ao_r (rig_assign rfl rfl) rfl (ao_r (rig_assign rfl rfl) rfl (ao_r (rig_assign rfl rfl) rfl (ao_nil ?_)))))))
    refine awp_sk fun K8 hK8 => awp_rs (ao_r (rig_move rfl rfl) rfl (ao_nil ?_))
    refine awp_true rfl (awp_sk fun K9 hK9 => awp_rs (ao_r (rig_assign rfl rfl) rfl (ao_nil ?_)))
    refine awp_block ?_
    refine awp_le [(0, vo), (1, .slice (some ⟨b, off, none⟩) l.length ca), (5, .int .i64 p), (6, .slice A2 out.length c2), (8, .int .i64 (0 : Nat))] ⟨rfl, rfl, rfl, rfl, rfl, trivial⟩ ?_
    refine awp_loop (fun kk r mm => ∃ (j : Nat) (v : Value) (ou : List Tm), j ≤ out.length ∧ kk = out.length - j ∧ r = [(0, v), (1, .slice (some ⟨b, off, none⟩) l.length ca), (5, .int .i64 p), (6, .slice A2 out.length c2), (8, .int .i64 j)] ∧ HpLe m1 mm ∧ Tms mm v ou ∧ (∀ t ∈ ou, t.Ok mm ∧ t.toks.length ≤ 16777216) ∧ Srt (keys ou) ∧ (keys ou).Perm (keys outs ++ ((kv out).take j).flatMap fun a => mineQ f ((keys l).filter fun t => decide (t.1.getD p em = a.1)))) _
      ⟨0, vo, outs, by omega, rfl, rfl, HpLe.refl _, RdSl.le hvo hF1, fun t ht => ⟨(hoo t ht).1.le hF1, (hoo t ht).2⟩, hso, by simp⟩ ?_
    rintro kk r mm ⟨j, v, ou, hj, rfl, rfl, hmm, hvu, hou, hsu, hpu⟩
    refine awp_sk fun K10 hK10 => awp_rs ?_
    refine ao_r (rig_move rfl rfl) rfl (ao_r (rig_move rfl rfl) rfl (ao_r (rig_lenSl rfl rfl Tryz.underlying23) rfl (ao_r (rig_lss rfl rfl rfl) rfl (ao_nil ?_))))
    refine awp_if rfl (fun h => ?_) (fun h => ?_)
    · have hjl : j < out.length := by omega
      obtain ⟨z, hz⟩ := get_lt hjl
      have hzm := List.mem_of_getElem? hz
      have hkz := kv_get hz
      have hzat : (hdk z, z.cnt) ∈ atQ (keys l) p := hper.mem_iff.1 (List.mem_of_getElem? hkz)
      obtain ⟨bz, oz, cz, ez, hzc⟩ := Tms.get hO hz
      simp only [Value.slice.injEq] at ez
      obtain ⟨rfl, _, rfl⟩ := ez
      have hTz := hT z hzm
      have hnz := hTz.1.len
      have hz0 : 0 < z.toks.length := (List.getElem?_eq_some_iff.1 hTz.2).1
      refine awp_skip (hK10 _ _ (awp_sk fun K11 hK11 => awp_block (awp_rs (ao_r (rig_assign rfl rfl) rfl (ao_nil ?_)))))
      refine awp_sk fun K12 hK12 => awp_rs (ao_r (rig_assign rfl rfl) rfl (ao_nil ?_))
      refine awp_block ?_
      refine awp_le [(0, v), (1, .slice (some ⟨b, off, none⟩) l.length ca), (5, .int .i64 p), (6, .slice (some ⟨bz, oz, none⟩) out.length c2), (8, .int .i64 j), (9, .slice none 0 0), (10, .int .i64 (0 : Nat))] ⟨rfl, rfl, rfl, rfl, rfl, rfl, rfl, trivial⟩ ?_
      refine awp_loop (fun kk r mm2 => ∃ (k : Nat) (v9 : Value) (c F1 : Hp), k ≤ l.length ∧ kk = l.length - k ∧ r = [(0, v), (1, .slice (some ⟨b, off, none⟩) l.length ca), (5, .int .i64 p), (6, .slice (some ⟨bz, oz, none⟩) out.length c2), (8, .int .i64 j), (9, v9), (10, .int .i64 k)] ∧ mm2 = U [c, F1] ∧ Dj [c, F1] ∧ HpLe mm F1 ∧ Own 32 2 c v9 (rows encT ((l.take k).filter (tokIs p (hdk z))))) _
        ⟨0, _, hp0, mm, by omega, rfl, rfl, by rw [U_hp0, U_single], Dj_hp0 (Dj_single mm), HpLe.refl _, Own.nil 32 2⟩ ?_
      rintro kk r mm2 ⟨k, v9, c, F1', hk, rfl, rfl, rfl, hD, hF1', hO9⟩
      refine awp_sk fun K13 hK13 => awp_rs ?_
      refine ao_r (rig_move rfl rfl) rfl (ao_r (rig_move rfl rfl) rfl (ao_r (rig_lenSl rfl rfl Tryz.underlying23) rfl (ao_r (rig_lss rfl rfl rfl) rfl (ao_nil ?_))))
      have hmF : HpLe m1 (U [c, F1']) := hmm.trans (hF1'.trans (le_at 1 hD rfl))
      refine awp_if rfl (fun h3 => ?_) (fun h3 => ?_)
      · have hkl : k < l.length := by omega
        obtain ⟨y, hy⟩ := get_lt hkl
        have hym := List.mem_of_getElem? hy
        obtain ⟨b8, o8, cap8, e8, hyc⟩ := Tms.get (RdSl.le ha (hF1.trans hmF)) hy
        simp only [Value.slice.injEq] at e8
        obtain ⟨e8, _, rfl⟩ := e8
        have hoy := (hok y hym).le (hF1.trans hmF)
        have hny := hoy.len
        have hyw := (hw y hym).1
        obtain ⟨s, hs⟩ := get_lt (l := y.toks) (i := p) (by omega)
        obtain ⟨bs, os_, hsA, hsc⟩ := hoy.get hs
        obtain ⟨y0, y1, _⟩ := id hyc
        obtain ⟨z0, z1, _⟩ := hzc.le hmF
        obtain ⟨bk, ok, hAk, hck⟩ := (hTz.1.le hmF).get hTz.2
        have hsg : y.toks.getD p (B []) = s := by rw [List.getD_eq_getElem?_getD, hs]; rfl
        refine awp_skip (hK13 _ _ (awp_sk fun K14 hK14 => awp_block ?_))
        have hfin : ∀ (v9' : Value) (c' F' : Hp), Dj [c', F'] → HpLe F1' F' → Own 32 2 c' v9' (rows encT ((l.take (k + 1)).filter (tokIs p (hdk z)))) → ∀ r', EnvLe [(0, v), (1, .slice (some ⟨b, off, none⟩) l.length ca), (5, .int .i64 p), (6, .slice (some ⟨bz, oz, none⟩) out.length c2), (8, .int .i64 j), (9, v9'), (10, .int .i64 k)] r' → K14 r' (U [c', F']) := fun v9' c' F' hd hf' ho r' hr => by
          refine hK14 _ _ (awp_le _ hr (awp_region ?_))
          refine ao_r (rig_move rfl rfl) rfl (ao_r (rig_add (c := ((k + 1 : Nat) : Int)) rfl rfl rfl (w64 _ (by omega) (by omega))) rfl (ao_r (rig_assign rfl rfl) rfl (ao_nil ?_)))
          exact ⟨[(0, v), (1, .slice (some ⟨b, off, none⟩) l.length ca), (5, .int .i64 p), (6, .slice (some ⟨bz, oz, none⟩) out.length c2), (8, .int .i64 j), (9, v9'), (10, .int .i64 (k + 1 : Nat))], _, ⟨rfl, rfl, rfl, rfl, rfl, rfl, rfl, trivial⟩, by omega, k + 1, v9', c', F', by omega, rfl, rfl, rfl, hd, hF1'.trans hf', ho⟩
        refine awp_ds (.q 0 (.q 1 (.q 2 (.q 3 (.q 4 (.q 5 (.q 6 (.q 7 (.q 8 (.q 9 (.q 10 (.q 11 (.q 12 (.q 13 (.q 14 (.q 15 .fin)))))))))))))))) [] (by kernel_rfl) (by kernel_rfl) ?_
        refine oq rfl (rig_move rfl rfl) rfl (oq rfl (rig_move rfl rfl) rfl (oq rfl (rig_ix k rfl rfl rfl Tryz.underlying23 Tryz.sizeOf32 e8 rfl hkl) rfl (oq rfl (rig_fieldAddr rfl rfl Tryz.underlying32 rfl Tryz.sizeOf27 rfl) rfl (oq rfl (rig_load1 rfl rfl Tryz.isAgg27 y0) rfl (oq rfl (rig_move rfl rfl) rfl (oq rfl (rig_ix p rfl rfl rfl Tryz.underlying27 Tryz.sizeOf9 hsA rfl (by omega)) rfl (oq rfl (rig_load1 rfl rfl Tryz.isAgg9 hsc) rfl ?_)))))))
        refine oq rfl (rig_move rfl rfl) rfl (oq rfl (rig_move rfl rfl) rfl (oq rfl (rig_ix j rfl rfl rfl Tryz.underlying23 Tryz.sizeOf32 rfl rfl hjl) rfl (oq rfl (rig_fieldAddr rfl rfl Tryz.underlying32 rfl Tryz.sizeOf27 rfl) rfl (oq rfl (rig_load1 rfl rfl Tryz.isAgg27 z0) rfl (oq rfl (rig_ix 0 rfl rfl rfl Tryz.underlying27 Tryz.sizeOf9 hAk rfl (by omega)) rfl (oq rfl (rig_load1 rfl rfl Tryz.isAgg9 hck) rfl (oq rfl (rig_seql rfl rfl rfl) rfl (od_fin ?_))))))))
        have htk : (l.take (k + 1)).filter (tokIs p (hdk z)) = (l.take k).filter (tokIs p (hdk z)) ++ (if s = hdk z then [y] else []) := by
          rw [take_succ_get hy, List.filter_append]
          congr 1
          rw [List.filter_cons, List.filter_nil, tokIs, hsg]
          by_cases e : s = hdk z
          · rw [if_pos (decide_eq_true e), if_pos e]
          · rw [if_neg (by simpa using e), if_neg e]
        refine awp_if rfl (fun h4' => ?_) (fun h4' => ?_)
        · rw [if_pos h4'] at htk
          refine awp_region ?_
          refine ao_r (rig_move rfl rfl) rfl (ao_r (rig_move rfl rfl) rfl (ao_r (rig_move rfl rfl) rfl (ao_r (rig_ix k rfl rfl rfl Tryz.underlying23 Tryz.sizeOf32 e8 rfl hkl) rfl (ao_r (rig_loadN (vs := encT y) rfl rfl Tryz.isAgg32 Tryz.sizeOf32 hyc) rfl ?_))))
          refine ao_x (ex_buildSlice rfl hD rfl Tryz.underlying23 Tryz.sizeOf32 Tryz.zeroValue32 (by decide) (by decide) (fill_one rfl (rangeMap_size _ _))) rfl fun w3 m3 ⟨b4, hw3, hm3, hD3⟩ => ?_
          subst hw3 hm3
          have hsrc : Go.Aw.Src (U [Go.Aw.one b4 (.cells (Value.agg (encT y).toArray).cells 32 (0, 0)), c, F1']) 2 (.slice (some ⟨b4, 0, none⟩) 1 1) (rows encT [y]) := src_one encT_len ((cellsAt_one b4 (encT y).toArray 32).le U_le_head)
          have hfl : ((l.take k).filter (tokIs p (hdk z))).length ≤ l.length := Nat.le_trans (List.length_filter_le _ _) (by rw [List.length_take]; omega)
          refine ao_x (ex_append 1 (by_ := 32) rfl hD3 rfl rfl Tryz.underlying23 inf32 rfl (by decide) (by decide) hO9 rfl hsrc (one_rows encT_one _) (by rw [rows_length encT_len, rows_length encT_len]; simp; omega)) rfl fun u5 m5 ⟨c5, hO5, hm5, hD5⟩ => ?_
          subst hm5
          rw [← rows_append, ← htk] at hO5
          refine ao_r (rig_assign rfl rfl) rfl (ao_nil ?_)
          have hp5 : U [Go.Aw.one b4 (.cells (Value.agg (encT y).toArray).cells 32 (0, 0)), c5, F1'] = U [c5, Go.Aw.one b4 (.cells (Value.agg (encT y).toArray).cells 32 (0, 0)), F1'] ∧ Dj [c5, Go.Aw.one b4 (.cells (Value.agg (encT y).toArray).cells 32 (0, 0)), F1'] := U_pm [1, 0, 2] rfl hD5
          have e5 : U [Go.Aw.one b4 (.cells (Value.agg (encT y).toArray).cells 32 (0, 0)), c5, F1'] = U [c5, U [Go.Aw.one b4 (.cells (Value.agg (encT y).toArray).cells 32 (0, 0)), F1']] := hp5.1.trans (U_flat [c5] _).symm
          have := hfin u5 c5 _ (Dj_unflat (A := [c5]) hp5.2) (le_at 1 hp5.2.2 rfl) hO5
          rw [← e5] at this
          exact this _ ⟨rfl, rfl, rfl, rfl, rfl, rfl, rfl, trivial⟩
        · rw [if_neg h4', List.append_nil] at htk
          exact awp_skip (hfin v9 c F1' hD (HpLe.refl _) (by rw [htk]; exact hO9) _ ⟨rfl, rfl, rfl, rfl, rfl, rfl, rfl, trivial⟩)
      · obtain rfl : k = l.length := by omega
        rw [List.take_length] at hO9
        refine awp_exit (hK12 _ _ (awp_region ?_))
        have hkf : keys (l.filter (tokIs p (hdk z))) = (keys l).filter fun t => decide (t.1.getD p em = hdk z) := keys_filter l p (hdk z)
        have hpn : (keys l).filter (fun t => decide (t.1.getD p em = hdk z)) ≠ [] := part_ne hzat
        have hps : ((keys l).filter fun t => decide (t.1.getD p em = hdk z)).length < (keys l).length := part_short hzat h2
        have hpl : (l.filter (tokIs p (hdk z))).length = ((keys l).filter fun t => decide (t.1.getD p em = hdk z)).length := by rw [← hkf, keys_len]
        rw [keys_len] at hps
        have hroom := parts_room (q := keys l) (p := p) (f := f) hnd hkz fun a ha' => part_ne (hper.mem_iff.1 ha')
        have hol : ou.length = outs.length + (((kv out).take j).flatMap fun a => mineQ f ((keys l).filter fun t => decide (t.1.getD p em = a.1))).length := by
          have := hpu.length_eq
          rwa [List.length_append, keys_len, keys_len] at this
        rw [keys_len] at hroom
        change _ + ((keys l).filter fun t => decide (t.1.getD p em = hdk z)).length ≤ _ at hroom
        have hmU : HpLe mm (U [c, F1']) := hF1'.trans (le_at 1 hD rfl)
        have hsub := IH (l.filter (tokIs p (hdk z))) (by omega) (fun e => hpn (by rw [← hkf, e]; rfl)) (fun t ht => hw t (List.mem_filter.1 ht).1) (U [c, F1']) v v9 ou (RdSl.le hvu hmU) (fun t ht => ⟨(hou t ht).1.le hmU, (hou t ht).2⟩) hsu (RdSl.le hO9.rd (le_at 0 hD rfl)) (fun t ht => (hok t (List.mem_filter.1 ht).1).le (hF1.trans hmF)) (by omega)
        refine ao_r (rig_move rfl rfl) rfl (ao_r (rig_move rfl rfl) rfl ?_)
        refine ao_x (ex_call rfl rfl ez59 hsub) rfl fun u m6 ⟨ou', hle6, hv6, ho6, hs6, hp6⟩ => ao_r (rig_assign rfl rfl) rfl (ao_nil ?_)
        refine hK11 _ _ (awp_region ?_)
        refine ao_r (rig_move rfl rfl) rfl (ao_r (rig_add (c := ((j + 1 : Nat) : Int)) rfl rfl rfl (w64 _ (by omega) (by omega))) rfl (ao_r (rig_assign rfl rfl) rfl (ao_nil ?_)))
        refine ⟨[(0, u), (1, .slice (some ⟨b, off, none⟩) l.length ca), (5, .int .i64 p), (6, .slice (some ⟨bz, oz, none⟩) out.length c2), (8, .int .i64 (j + 1 : Nat))], _, ⟨rfl, rfl, rfl, rfl, rfl, trivial⟩, by omega, j + 1, u, ou', by omega, rfl, rfl, hmF.trans hle6, hv6, ho6, hs6, hp6.trans ?_⟩
        rw [take_succ_get hkz, List.flatMap_append, ← List.append_assoc]
        have em1 : mineQ (l.filter (tokIs p (hdk z))).length (keys (l.filter (tokIs p (hdk z)))) = [(hdk z, z.cnt)].flatMap fun a => mineQ f ((keys l).filter fun t => decide (t.1.getD p em = a.1)) := by
          rw [List.flatMap_cons, List.flatMap_nil, List.append_nil, hkf, hpl]
          exact mineQ_fuel _ _ _ hpn (Nat.le_refl _) (by omega)
        rw [em1]
        exact hpu.append_right _
    · obtain rfl : j = out.length := by omega
      rw [List.take_of_length_le (Nat.le_of_eq (kv_len out))] at hpu
      refine awp_exit (hK9 _ _ (awp_rs (ao_r (rig_move rfl rfl) rfl (ao_r (rig_assign rfl rfl) rfl (ao_nil ?_)))))
      refine awp_ret ⟨_, res1 Tryz.results59 rfl, ou, hF1.trans hmm, hvu, hou, hsu, hpu.trans ?_⟩
      rw [hf]
      exact hmn.append_left _
theorem Fz59 (w : Nat) (hw1 : 1 ≤ w) (hw2 : w ≤ 1048576) : ∀ (n : Nat) (l : List Tm), l.length = n → l ≠ [] → (∀ t ∈ l, t.toks.length = w ∧ Cnt t) → Spl w l := by
  intro n
  induction n using Nat.strongRecOn with
  | _ n ih =>
    intro l hn hne hw
    exact Fz59s w l hne hw hw1 hw2 fun l' hl' hne' hw' => ih l'.length (by omega) l' rfl hne' hw'
end Go.Proofs.YtmofaabndjnhjaaGreat
/- The walks of the reference's Of and Mine. -/
set_option linter.unusedVariables false
namespace Go.Proofs.YtmofaabndjnhjaaGreat
open Go Go.Aw Go.Pl Go.RowKit
theorem mineG_most (q : List El) : (mineG q).length ≤ q.length := by
  unfold mineG
  split
  · simp
  · exact mineQ_most _ _ (by assumption)
theorem all_most (q : List El) : ∀ n : Nat, ((List.range n).flatMap fun i => mineG (grpQ i q)).length ≤ n * q.length
  | 0 => by simp
  | n + 1 => by
    rw [List.range_succ, List.flatMap_append, List.length_append, Nat.succ_mul]
    have h1 := all_most q n
    have h2 := Nat.le_trans (mineG_most (grpQ n q)) (List.length_filter_le _ _)
    simp only [List.flatMap_cons, List.flatMap_nil, List.append_nil]
    omega
theorem ez35 : Enters Tryz.prog 35 := enters_of Tryz.func35 (by kernel_rfl) rfl
set_option maxHeartbeats 4000000 in
set_option maxRecDepth 100000 in
theorem Fz35 (F : Hp) (va : Value) (l : List Tm) (ha : Tms F va l) (hok : ∀ t ∈ l, t.Ok F) (hcn : ∀ t ∈ l, t.cnt ≤ 9223372036854775807) (hl : l.length ≤ 16384) :
    GC Tryz.prog 35 #[va] F (fun u m' => ∃ out, HpLe F m' ∧ Tms m' u out ∧ (∀ t ∈ out, t.Ok m') ∧ keys out = ofQ (keys l) ∧ out.length ≤ 1048576) := by
  obtain ⟨A, ca, rfl, _⟩ := RdSl.form encT_len (by decide) ha
  refine gc_intro (vs := [_]) Tryz.func35 rfl Tryz.ntmps35 (by simp) ?_
  refine awp_rs (ao_r (rig_assign rfl rfl) rfl (ao_nil ?_))
  refine awp_rs (ao_r (rig_assign rfl rfl) rfl (ao_nil ?_))
  refine awp_sk fun K20 hK20 => awp_rs (ao_r (rig_assign rfl rfl) rfl (ao_nil ?_))
  refine awp_block ?_
  refine awp_le [(0, .slice A l.length ca), (3, .slice none 0 0), (4, .int .i64 (1 : Nat))] ⟨rfl, rfl, rfl, trivial⟩ ?_
  refine awp_loop (fun kk r mm => ∃ (n : Nat) (v : Value) (ou : List Tm), 1 ≤ n ∧ n ≤ 61 ∧ kk = 61 - n ∧ r = [(0, .slice A l.length ca), (3, v), (4, .int .i64 n)] ∧ HpLe F mm ∧ Tms mm v ou ∧ (∀ t ∈ ou, t.Ok mm ∧ t.toks.length ≤ 16777216) ∧ Srt (keys ou) ∧ (keys ou).Perm ((List.range n).flatMap fun i => mineG (grpQ i (keys l)))) _
    ⟨1, _, [], by omega, by omega, rfl, rfl, HpLe.refl _, ⟨none, 0, 0, rfl, rfl, .inl rfl⟩, by simp, List.Pairwise.nil, ?_⟩ ?_
  · have : grpQ 0 (keys l) = [] := List.eq_nil_iff_forall_not_mem.2 fun a h => by
      obtain ⟨_, h2, h3⟩ := grpQ_mem.1 h
      have := vE_iff.1 h2
      omega
    show ([] : List El).Perm (mineG (grpQ 0 (keys l)) ++ [])
    rw [this]; exact List.Perm.refl _
  rintro kk r mm ⟨n, v, ou, hn1, hn2, rfl, rfl, hF, hvu, hou, hsu, hpu⟩
  refine awp_sk fun K21 hK21 => awp_rs (ao_r (rig_move rfl rfl) rfl (ao_r (rig_leq rfl rfl rfl) rfl (ao_nil ?_)))
  refine awp_if rfl (fun h => ?_) (fun h => ?_)
  · have hn60 : n ≤ 60 := by omega
    refine awp_skip (hK21 _ _ (awp_sk fun K22 hK22 => awp_block (awp_rs (ao_r (rig_assign rfl rfl) rfl (ao_nil ?_)))))
    refine awp_sk fun K23 hK23 => awp_rs (ao_r (rig_assign rfl rfl) rfl (ao_nil ?_))
    refine awp_block ?_
    refine awp_le [(0, .slice A l.length ca), (3, v), (4, .int .i64 n), (5, .slice none 0 0), (6, .int .i64 (0 : Nat))] ⟨rfl, rfl, rfl, rfl, rfl, trivial⟩ ?_
    refine awp_loop (fun kk r mm2 => ∃ (i : Nat) (v5 : Value) (c F1 : Hp), i ≤ l.length ∧ kk = l.length - i ∧ r = [(0, .slice A l.length ca), (3, v), (4, .int .i64 n), (5, v5), (6, .int .i64 i)] ∧ mm2 = U [c, F1] ∧ Dj [c, F1] ∧ HpLe mm F1 ∧ Own 32 2 c v5 (rows encT (grpT n (l.take i)))) _
      ⟨0, _, hp0, mm, by omega, rfl, rfl, by rw [U_hp0, U_single], Dj_hp0 (Dj_single mm), HpLe.refl _, Own.nil 32 2⟩ ?_
    rintro kk r mm2 ⟨i, v5, c, F1, hi, rfl, rfl, rfl, hD, hF1, hO5⟩
    refine awp_sk fun K24 hK24 => awp_rs ?_
    refine ao_r (rig_move rfl rfl) rfl (ao_r (rig_move rfl rfl) rfl (ao_r (rig_lenSl rfl rfl Tryz.underlying23) rfl (ao_r (rig_lss rfl rfl rfl) rfl (ao_nil ?_))))
    have hFU : HpLe F (U [c, F1]) := hF.trans (hF1.trans (le_at 1 hD rfl))
    refine awp_if rfl (fun h3 => ?_) (fun h3 => ?_)
    · have hil : i < l.length := by omega
      obtain ⟨y, hy⟩ := get_lt hil
      have hym := List.mem_of_getElem? hy
      obtain ⟨b, off, cap', e, hyc⟩ := Tms.get (RdSl.le ha hFU) hy
      simp only [Value.slice.injEq] at e
      obtain ⟨rfl, _, rfl⟩ := e
      have hny := (hok y hym).len
      obtain ⟨y0, y1, _⟩ := id hyc
      have htk := grpT_snoc n (l.take i) y
      rw [← take_succ_get hy] at htk
      refine awp_skip (hK24 _ _ (awp_sk fun K25 hK25 => awp_block ?_))
      have hfin : ∀ (v9' : Value) (c' F' : Hp), Dj [c', F'] → HpLe F1 F' → Own 32 2 c' v9' (rows encT (grpT n (l.take (i + 1)))) → ∀ r', EnvLe [(0, .slice (some ⟨b, off, none⟩) l.length ca), (3, v), (4, .int .i64 n), (5, v9'), (6, .int .i64 i)] r' → K25 r' (U [c', F']) := fun v9' c' F' hd hf' ho r' hr => by
        refine hK25 _ _ (awp_le _ hr (awp_region ?_))
        refine ao_r (rig_move rfl rfl) rfl (ao_r (rig_add (c := ((i + 1 : Nat) : Int)) rfl rfl rfl (w64 _ (by omega) (by omega))) rfl (ao_r (rig_assign rfl rfl) rfl (ao_nil ?_)))
        exact ⟨[(0, .slice (some ⟨b, off, none⟩) l.length ca), (3, v), (4, .int .i64 n), (5, v9'), (6, .int .i64 (i + 1 : Nat))], _, ⟨rfl, rfl, rfl, rfl, rfl, trivial⟩, by omega, i + 1, v9', c', F', by omega, rfl, rfl, rfl, hd, hF1.trans hf', ho⟩
      refine awp_mid (fun r m' => m' = U [c, F1] ∧ r = [(0, .slice (some ⟨b, off, none⟩) l.length ca), (3, v), (4, .int .i64 n), (5, v5), (6, .int .i64 i), (32, .bool (decide (vE y.key = true ∧ y.toks.length = n)))]) (awp_region ?_) ?_
      · refine ao_r (rig_move rfl rfl) rfl (ao_r (rig_move rfl rfl) rfl (ao_r (rig_ix i rfl rfl rfl Tryz.underlying23 Tryz.sizeOf32 rfl rfl hil) rfl (ao_r (rig_fieldAddr rfl rfl Tryz.underlying32 rfl Tryz.sizeOf27 rfl) rfl (ao_r (rig_load1 rfl rfl Tryz.isAgg27 y0) rfl (ao_r (rig_lenSl rfl rfl Tryz.underlying27) rfl (ao_r (rig_move rfl rfl) rfl (ao_r (rig_eql rfl rfl rfl) rfl (ao_r (rig_move rfl rfl) rfl ?_))))))))
        by_cases hq : (y.n : Int) = (n : Int)
        · rw [decide_eq_true hq]
          refine ao_on rfl rfl (ao_r (rig_move rfl rfl) rfl ?_)
          refine ao_on rfl rfl (ao_r (rig_move rfl rfl) rfl ?_)
          refine ao_on rfl rfl (ao_r (rig_ix i rfl rfl rfl Tryz.underlying23 Tryz.sizeOf32 rfl rfl hil) rfl ?_)
          refine ao_on rfl rfl (ao_r (rig_fieldAddr rfl rfl Tryz.underlying32 rfl Tryz.sizeOf3 rfl) rfl ?_)
          refine ao_on rfl rfl (ao_r (rig_load1 rfl rfl Tryz.isAgg3 y1) rfl ?_)
          refine ao_on rfl rfl (ao_r (rig_geq rfl rfl rfl) rfl ?_)
          refine ao_r (rig_pickT rfl rfl rfl) rfl (ao_nil ?_)
          refine ⟨[(0, .slice (some ⟨b, off, none⟩) l.length ca), (3, v), (4, .int .i64 n), (5, v5), (6, .int .i64 i), (32, .bool (decide (1 ≤ y.cnt)))], ⟨rfl, rfl, rfl, rfl, rfl, rfl, trivial⟩, rfl, ?_⟩
          have : decide (1 ≤ y.cnt) = decide (vE y.key = true ∧ y.toks.length = n) := by
            rw [decide_eq_decide, vE_iff]
            show 1 ≤ y.cnt ↔ (1 ≤ y.cnt ∧ 1 ≤ y.toks.length ∧ y.toks.length ≤ 60) ∧ y.toks.length = n
            omega
          rw [this]
        · rw [decide_eq_false hq]
          refine ao_no rfl rfl rfl rfl (ao_no rfl rfl rfl rfl (ao_no rfl rfl rfl rfl (ao_no rfl rfl rfl rfl (ao_no rfl rfl rfl rfl (ao_no rfl rfl rfl rfl (ao_r (rig_pickF rfl rfl rfl) rfl (ao_nil ?_)))))))
          refine ⟨[(0, .slice (some ⟨b, off, none⟩) l.length ca), (3, v), (4, .int .i64 n), (5, v5), (6, .int .i64 i), (32, .bool false)], ⟨rfl, rfl, rfl, rfl, rfl, rfl, trivial⟩, rfl, ?_⟩
          rw [decide_eq_false (fun e => hq (by omega))]
      · rintro r m' ⟨rfl, rfl⟩
        refine awp_if rfl (fun h4' => ?_) (fun h4' => ?_)
        · rw [if_pos h4'] at htk
          refine awp_region ?_
          refine ao_r (rig_move rfl rfl) rfl (ao_r (rig_move rfl rfl) rfl (ao_r (rig_move rfl rfl) rfl (ao_r (rig_ix i rfl rfl rfl Tryz.underlying23 Tryz.sizeOf32 rfl rfl hil) rfl (ao_r (rig_loadN (vs := encT y) rfl rfl Tryz.isAgg32 Tryz.sizeOf32 hyc) rfl ?_))))
          refine ao_x (ex_buildSlice rfl hD rfl Tryz.underlying23 Tryz.sizeOf32 Tryz.zeroValue32 (by decide) (by decide) (fill_one rfl (rangeMap_size _ _))) rfl fun w3 m3 ⟨b4, hw3, hm3, hD3⟩ => ?_
          subst hw3 hm3
          have hsrc : Go.Aw.Src (U [Go.Aw.one b4 (.cells (Value.agg (encT y).toArray).cells 32 (0, 0)), c, F1]) 2 (.slice (some ⟨b4, 0, none⟩) 1 1) (rows encT [y]) := src_one encT_len ((cellsAt_one b4 (encT y).toArray 32).le U_le_head)
          have hfl : (grpT n (l.take i)).length ≤ l.length := Nat.le_trans (List.length_filter_le _ _) (by rw [List.length_take]; omega)
          refine ao_x (ex_append 1 (by_ := 32) rfl hD3 rfl rfl Tryz.underlying23 inf32 rfl (by decide) (by decide) hO5 rfl hsrc (one_rows encT_one _) (by rw [rows_length encT_len, rows_length encT_len]; simp; omega)) rfl fun u5 m5 ⟨c5, hO6, hm5, hD5⟩ => ?_
          subst hm5
          rw [← rows_append, ← htk] at hO6
          refine ao_r (rig_assign rfl rfl) rfl (ao_nil ?_)
          have hp5 : U [Go.Aw.one b4 (.cells (Value.agg (encT y).toArray).cells 32 (0, 0)), c5, F1] = U [c5, Go.Aw.one b4 (.cells (Value.agg (encT y).toArray).cells 32 (0, 0)), F1] ∧ Dj [c5, Go.Aw.one b4 (.cells (Value.agg (encT y).toArray).cells 32 (0, 0)), F1] := U_pm [1, 0, 2] rfl hD5
          have e5 : U [Go.Aw.one b4 (.cells (Value.agg (encT y).toArray).cells 32 (0, 0)), c5, F1] = U [c5, U [Go.Aw.one b4 (.cells (Value.agg (encT y).toArray).cells 32 (0, 0)), F1]] := hp5.1.trans (U_flat [c5] _).symm
          have := hfin u5 c5 _ (Dj_unflat (A := [c5]) hp5.2) (le_at 1 hp5.2.2 rfl) hO6
          rw [← e5] at this
          exact this _ ⟨rfl, rfl, rfl, rfl, rfl, trivial⟩
        · rw [if_neg h4', List.append_nil] at htk
          exact awp_skip (hfin v5 c F1 hD (HpLe.refl _) (by rw [htk]; exact hO5) _ ⟨rfl, rfl, rfl, rfl, rfl, trivial⟩)
    · obtain rfl : i = l.length := by omega
      rw [List.take_length] at hO5
      obtain ⟨A5, cap5, rfl⟩ := hO5.len encT_len (by decide)
      refine awp_exit (hK23 _ _ (awp_rs (ao_r (rig_move rfl rfl) rfl (ao_r (rig_lenSl rfl rfl Tryz.underlying23) rfl (ao_r (rig_gtr rfl rfl rfl) rfl (ao_nil ?_))))))
      have hmU : HpLe mm (U [c, F1]) := hF1.trans (le_at 1 hD rfl)
      have hfin2 : ∀ (m' : Hp) (v' : Value) (ou' : List Tm), HpLe F m' → Tms m' v' ou' → (∀ t ∈ ou', t.Ok m' ∧ t.toks.length ≤ 16777216) → Srt (keys ou') → (keys ou').Perm (keys ou ++ mineG (grpQ n (keys l))) → ∀ r', EnvLe [(0, .slice A l.length ca), (3, v'), (4, .int .i64 n)] r' → K22 r' m' := fun m' v' ou' hF' hv' ho' hs' hp' r' hr => by
        refine hK22 _ _ (awp_le _ hr (awp_region ?_))
        refine ao_r (rig_move rfl rfl) rfl (ao_r (rig_add (c := ((n + 1 : Nat) : Int)) rfl rfl rfl (w64 _ (by omega) (by omega))) rfl (ao_r (rig_assign rfl rfl) rfl (ao_nil ?_)))
        refine ⟨[(0, .slice A l.length ca), (3, v'), (4, .int .i64 (n + 1 : Nat))], _, ⟨rfl, rfl, rfl, trivial⟩, by omega, n + 1, v', ou', by omega, by omega, rfl, rfl, hF', hv', ho', hs', hp'.trans ?_⟩
        rw [List.range_succ, List.flatMap_append]
        simp only [List.flatMap_cons, List.flatMap_nil, List.append_nil]
        exact hpu.append_right _
      have hgk := grpT_keys n l
      refine awp_if rfl (fun h4' => ?_) (fun h4' => ?_)
      · have hgne : grpT n l ≠ [] := List.length_pos_iff.1 (by omega)
        have hgkn : grpQ n (keys l) ≠ [] := by rw [← hgk]; exact fun e => hgne (by simpa [keys] using e)
        have hgl : (grpT n l).length ≤ l.length := List.length_filter_le _ _
        have hou2 : ou.length ≤ 61 * l.length := by
          have h5 := hpu.length_eq
          have h6 := all_most (keys l) n
          rw [keys_len] at h5 h6
          have h7 : n * l.length ≤ 61 * l.length := Nat.mul_le_mul_right _ (by omega)
          omega
        have hsub := Fz59 n hn1 (by omega) (grpT n l).length (grpT n l) rfl hgne (fun t ht => by
          obtain ⟨h5, h6, h7⟩ := grpT_mem.1 ht
          have h8 : 1 ≤ t.cnt := (vE_iff.1 h6).1
          exact ⟨h7, by omega, hcn t h5⟩) (U [c, F1]) v _ ou (RdSl.le hvu hmU) (fun t ht => ⟨(hou t ht).1.le hmU, (hou t ht).2⟩) hsu (RdSl.le hO5.rd (le_at 0 hD rfl)) (fun t ht => (hok t (grpT_mem.1 ht).1).le hFU) (by omega)
        refine awp_region ?_
        refine ao_r (rig_move rfl rfl) rfl (ao_r (rig_move rfl rfl) rfl ?_)
        refine ao_x (ex_call rfl rfl ez59 hsub) rfl fun u m6 ⟨ou', hle6, hv6, ho6, hs6, hp6⟩ => ao_r (rig_assign rfl rfl) rfl (ao_nil ?_)
        refine hfin2 m6 u ou' (hFU.trans hle6) hv6 ho6 hs6 ?_ _ ⟨rfl, rfl, rfl, trivial⟩
        rw [mineG, if_neg hgkn, ← hgk, keys_len]
        exact hp6
      · have hg0 : grpT n l = [] := List.eq_nil_of_length_eq_zero (by omega)
        refine awp_skip (hfin2 _ v ou hFU (RdSl.le hvu hmU) (fun t ht => ⟨(hou t ht).1.le hmU, (hou t ht).2⟩) hsu ?_ _ ⟨rfl, rfl, rfl, trivial⟩)
        rw [← hgk, hg0]
        show (keys ou).Perm (keys ou ++ mineG [])
        rw [mineG, if_pos rfl, List.append_nil]
  · obtain rfl : n = 61 := by omega
    refine awp_exit (hK20 _ _ (awp_rs (ao_r (rig_move rfl rfl) rfl (ao_r (rig_assign rfl rfl) rfl (ao_nil ?_)))))
    have hou2 : ou.length ≤ 61 * l.length := by
      have h5 := hpu.length_eq
      have h6 := all_most (keys l) 61
      rw [keys_len] at h5 h6
      omega
    exact awp_ret ⟨_, res1 Tryz.results35 rfl, ou, hF, hvu, fun t ht => (hou t ht).1, srtE_of hpu hsu, by omega⟩
end Go.Proofs.YtmofaabndjnhjaaGreat
