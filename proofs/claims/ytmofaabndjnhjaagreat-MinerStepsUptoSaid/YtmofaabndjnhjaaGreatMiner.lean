/- Plain: the states of the miner, on keys. -/
import Derived.Test.YtmofaabndjnhjaaGreatFinding
import Derived.Test.YtmofaabndjnhjaaGreatPlain
import Derived.Test.YtmofaabndjnhjaaGreatHeap
import Derived.Test.YtmofaabndjnhjaaGreatProg
import Derived.Test.YtmofaabndjnhjaaGreatAnswers
import Derived.Test.YtmofaabndjnhjaaGreatSplit
set_option linter.unusedVariables false
namespace Go.Pl
open Go
def cmpTk (x y : List ByteArray) : Int := orI [cmpI x.length y.length, cmpSL x y]
theorem cmpTk_eq (x y : List ByteArray) : cmpTk x y = if cmpI x.length y.length = 0 then cmpSL x y else cmpI x.length y.length := by
  unfold cmpTk
  simp only [orI]
  split
  · split <;> omega
  · rfl
theorem cmpTk_neg {x y : List ByteArray} : cmpTk x y < 0 ↔ cmpE (x, 0) (y, 0) < 0 := by
  rw [cmpTk_eq, cmpE_neg]
  show _ ↔ x.length < y.length ∨ (x.length = y.length ∧ (cmpSL x y < 0 ∨ (x = y ∧ (0 : Int) < 0)))
  split
  · rename_i h
    rw [cmpI_zero] at h
    constructor
    · exact fun h2 => .inr ⟨by omega, .inl h2⟩
    · rintro (h2 | ⟨_, h2 | ⟨_, h2⟩⟩)
      · omega
      · exact h2
      · omega
  · rename_i h
    rw [cmpI_zero] at h
    rw [cmpI_neg]
    constructor
    · exact fun h2 => .inl (by omega)
    · rintro (h2 | ⟨h2, _⟩) <;> omega
theorem cmpTk_zero {x y : List ByteArray} : cmpTk x y = 0 ↔ x = y := by
  rw [cmpTk_eq]
  split
  · exact cmpSL_zero
  · rename_i h
    exact ⟨fun h2 => absurd h2 h, fun e => absurd (cmpI_zero.2 (by rw [e])) h⟩
theorem tk_irr (x : List ByteArray) : ¬ cmpTk x x < 0 := by rw [cmpTk_neg]; exact cmpE_irr _
theorem tk_trans {x y z : List ByteArray} (h : cmpTk x y < 0) (k : cmpTk y z < 0) : cmpTk x z < 0 := by
  rw [cmpTk_neg] at *; exact cmpE_trans h k
theorem tk_tri (x y : List ByteArray) : cmpTk x y < 0 ∨ x = y ∨ cmpTk y x < 0 := by
  rw [cmpTk_neg, cmpTk_neg]
  rcases cmpE_tri (x, 0) (y, 0) with h | h | h
  · exact .inl h
  · exact .inr (.inl (congrArg Prod.fst h))
  · exact .inr (.inr h)
def AscT (q : List El) : Prop := q.Pairwise fun a b => cmpTk a.1 b.1 < 0
def plT (q : List El) (ts : List ByteArray) : Nat := q.countP fun a => decide (cmpTk a.1 ts < 0)
def addE (ts : List ByteArray) (n : Int) : List El → List El
  | [] => [(ts, n)]
  | a :: r => if cmpTk a.1 ts < 0 then a :: addE ts n r else if a.1 = ts then (ts, sumK a.2 n) :: r else (ts, n) :: a :: r
def remE (ts : List ByteArray) : List El → List El
  | [] => []
  | a :: r => if a.1 = ts then (if a.2 - 1 = 0 then r else (ts, a.2 - 1) :: r) else a :: remE ts r
theorem plT_le (q : List El) (ts : List ByteArray) : plT q ts ≤ q.length := List.countP_le_length
theorem plT_tail {a : El} {r : List El} {ts : List ByteArray} (h : AscT (a :: r)) (hn : ¬ cmpTk a.1 ts < 0) : plT (a :: r) ts = 0 := by
  rw [plT, List.countP_eq_zero]
  intro b hb
  rw [decide_eq_true_eq]
  rcases List.mem_cons.1 hb with rfl | hb
  · exact hn
  · exact fun hk => hn (tk_trans ((List.pairwise_cons.1 h).1 b hb) hk)
theorem plT_cons {a : El} {r : List El} {ts : List ByteArray} (hn : cmpTk a.1 ts < 0) : plT (a :: r) ts = plT r ts + 1 := by
  rw [plT, List.countP_cons, if_pos (decide_eq_true hn)]; rfl
theorem addE_found {ts : List ByteArray} {n x : Int} : ∀ {q : List El}, AscT q → q[plT q ts]? = some (ts, x) → addE ts n q = q.set (plT q ts) (ts, sumK x n)
  | [], _, h => by simp [plT] at h
  | a :: r, hA, h => by
    unfold addE
    by_cases hc : cmpTk a.1 ts < 0
    · rw [if_pos hc]
      rw [plT_cons hc] at h ⊢
      rw [List.getElem?_cons_succ] at h
      rw [addE_found (List.pairwise_cons.1 hA).2 h, List.set_cons_succ]
    · rw [plT_tail hA hc] at h ⊢
      simp only [List.getElem?_cons_zero, Option.some.injEq] at h
      rw [if_neg hc, h, if_pos rfl, List.set_cons_zero]
theorem addE_new {ts : List ByteArray} {n : Int} : ∀ {q : List El}, AscT q → (∀ x, q[plT q ts]? ≠ some (ts, x)) → addE ts n q = q.take (plT q ts) ++ (ts, n) :: q.drop (plT q ts)
  | [], _, _ => by simp [addE]
  | a :: r, hA, h => by
    unfold addE
    by_cases hc : cmpTk a.1 ts < 0
    · rw [if_pos hc]
      rw [plT_cons hc] at h ⊢
      rw [addE_new (List.pairwise_cons.1 hA).2 (fun x => by have := h x; rwa [List.getElem?_cons_succ] at this), List.take_succ_cons, List.drop_succ_cons, List.cons_append]
    · rw [plT_tail hA hc] at h ⊢
      have hne : a.1 ≠ ts := fun e => h a.2 (by rw [List.getElem?_cons_zero, ← e])
      rw [if_neg hc, if_neg hne]; rfl
theorem addE_mem {ts : List ByteArray} {n : Int} {b : El} : ∀ {q : List El}, b ∈ addE ts n q → b.1 = ts ∨ ∃ c ∈ q, c.1 = b.1
  | [], h => by simp [addE] at h; exact .inl (by rw [h])
  | a :: r, h => by
    unfold addE at h
    split at h
    · rcases List.mem_cons.1 h with rfl | h
      · exact .inr ⟨_, List.mem_cons_self .., rfl⟩
      · rcases addE_mem h with h | ⟨c, hc, e⟩
        · exact .inl h
        · exact .inr ⟨c, List.mem_cons_of_mem _ hc, e⟩
    · split at h
      · rcases List.mem_cons.1 h with rfl | h
        · exact .inl rfl
        · exact .inr ⟨b, List.mem_cons_of_mem _ h, rfl⟩
      · rcases List.mem_cons.1 h with rfl | h
        · exact .inl rfl
        · exact .inr ⟨b, h, rfl⟩
theorem addE_asc {ts : List ByteArray} {n : Int} : ∀ {q : List El}, AscT q → AscT (addE ts n q)
  | [], _ => List.pairwise_singleton _ _
  | a :: r, hA => by
    have h1 := List.pairwise_cons.1 hA
    unfold addE
    split
    · rename_i hc
      refine List.pairwise_cons.2 ⟨fun b hb => ?_, addE_asc h1.2⟩
      rcases addE_mem hb with e | ⟨c, hc2, e⟩
      · rw [e]; exact hc
      · rw [← e]; exact h1.1 c hc2
    · rename_i hc
      split
      · rename_i he
        exact List.pairwise_cons.2 ⟨fun b hb => by show cmpTk ts b.1 < 0; rw [← he]; exact h1.1 b hb, h1.2⟩
      · rename_i he
        have hlt : cmpTk ts a.1 < 0 := by
          rcases tk_tri a.1 ts with h | h | h
          · exact absurd h hc
          · exact absurd h he
          · exact h
        refine List.pairwise_cons.2 ⟨fun b hb => ?_, hA⟩
        rcases List.mem_cons.1 hb with rfl | hb
        · exact hlt
        · exact tk_trans hlt (h1.1 b hb)
theorem remE_mem {ts : List ByteArray} {b : El} : ∀ {q : List El}, b ∈ remE ts q → ∃ c ∈ q, c.1 = b.1
  | [], h => by simp [remE] at h
  | a :: r, h => by
    unfold remE at h
    split at h
    · rename_i e
      split at h
      · exact ⟨b, List.mem_cons_of_mem _ h, rfl⟩
      · rcases List.mem_cons.1 h with rfl | h
        · exact ⟨a, List.mem_cons_self .., e⟩
        · exact ⟨b, List.mem_cons_of_mem _ h, rfl⟩
    · rcases List.mem_cons.1 h with rfl | h
      · exact ⟨_, List.mem_cons_self .., rfl⟩
      · obtain ⟨c, hc, e⟩ := remE_mem h
        exact ⟨c, List.mem_cons_of_mem _ hc, e⟩
theorem remE_asc {ts : List ByteArray} : ∀ {q : List El}, AscT q → AscT (remE ts q)
  | [], _ => List.Pairwise.nil
  | a :: r, hA => by
    have h1 := List.pairwise_cons.1 hA
    unfold remE
    split
    · rename_i e
      split
      · exact h1.2
      · exact List.pairwise_cons.2 ⟨fun b hb => by show cmpTk ts b.1 < 0; rw [← e]; exact h1.1 b hb, h1.2⟩
    · refine List.pairwise_cons.2 ⟨fun b hb => ?_, remE_asc h1.2⟩
      obtain ⟨c, hc, e⟩ := remE_mem hb
      rw [← e]; exact h1.1 c hc
theorem remE_found {ts : List ByteArray} {x : Int} : ∀ {q : List El}, AscT q → q[plT q ts]? = some (ts, x) → remE ts q = if x - 1 = 0 then q.eraseIdx (plT q ts) else q.set (plT q ts) (ts, x - 1)
  | [], _, h => by simp [plT] at h
  | a :: r, hA, h => by
    unfold remE
    by_cases hc : cmpTk a.1 ts < 0
    · have hne : a.1 ≠ ts := fun e => tk_irr ts (by rw [e] at hc; exact hc)
      rw [if_neg hne]
      rw [plT_cons hc] at h ⊢
      rw [List.getElem?_cons_succ] at h
      rw [remE_found (List.pairwise_cons.1 hA).2 h]
      split
      · rw [List.eraseIdx_cons_succ]
      · rw [List.set_cons_succ]
    · rw [plT_tail hA hc] at h ⊢
      simp only [List.getElem?_cons_zero, Option.some.injEq] at h
      subst h
      rw [if_pos rfl]; rfl
theorem find_at {ts : List ByteArray} {x : Int} : ∀ {q : List El}, AscT q → (ts, x) ∈ q → q[plT q ts]? = some (ts, x)
  | [], _, h => by cases h
  | a :: r, hA, h => by
    have h1 := List.pairwise_cons.1 hA
    rcases List.mem_cons.1 h with rfl | h
    · rw [plT_tail hA (tk_irr _)]; rfl
    · rw [plT_cons (h1.1 _ h), List.getElem?_cons_succ]
      exact find_at h1.2 h
theorem rep_pos {x : List ByteArray} {n : Int} (h : 1 ≤ n) : List.replicate n.toNat ((x, 1) : El) = (x, 1) :: List.replicate (n - 1).toNat (x, 1) := by
  obtain ⟨k, hk⟩ : ∃ k : Nat, n.toNat = k + 1 := ⟨n.toNat - 1, by omega⟩
  rw [hk, List.replicate_succ, show (n - 1).toNat = k by omega]
theorem addE_exp {ts : List ByteArray} : ∀ {q : List El}, posE q → (∀ a ∈ q, a.2 < 9223372036854775807) → (expE (addE ts 1 q)).Perm ((ts, 1) :: expE q)
  | [], _, _ => List.Perm.refl _
  | a :: r, hq, hb => by
    have ha := hq a (List.mem_cons_self ..)
    have hb2 := hb a (List.mem_cons_self ..)
    unfold addE
    split
    · rw [expE_cons, expE_cons]
      exact ((addE_exp (fun t ht => hq t (List.mem_cons_of_mem _ ht)) fun t ht => hb t (List.mem_cons_of_mem _ ht)).append_left _).trans List.perm_middle
    · split
      · rename_i e
        rw [expE_cons, expE_cons, e]
        have h2 : sumK a.2 1 = a.2 + 1 := by unfold sumK; rw [if_neg (by omega)]
        show (List.replicate (sumK a.2 1).toNat (ts, 1) ++ expE r).Perm _
        rw [h2, rep_pos (by omega), show a.2 + 1 - 1 = a.2 by omega]
        exact List.Perm.refl _
      · rw [expE_cons]
        exact List.Perm.refl _
theorem remE_exp {ts : List ByteArray} : ∀ {q : List El}, posE q → (∃ x, (ts, x) ∈ q) → (expE q).Perm ((ts, 1) :: expE (remE ts q))
  | [], _, ⟨_, h⟩ => by cases h
  | a :: r, hq, ⟨x, h⟩ => by
    have ha := hq a (List.mem_cons_self ..)
    unfold remE
    split
    · rename_i e
      rw [expE_cons, e, rep_pos ha.1]
      split
      · rename_i h0
        rw [h0]; exact List.Perm.refl _
      · rw [expE_cons]; exact List.Perm.refl _
    · rename_i e
      rw [expE_cons, expE_cons]
      have hx : (ts, x) ∈ r := by
        rcases List.mem_cons.1 h with h | h
        · exact absurd (by rw [← h]) e
        · exact h
      exact ((remE_exp (fun t ht => hq t (List.mem_cons_of_mem _ ht)) ⟨x, hx⟩).append_left _).trans List.perm_middle
theorem exp_mem {ts : List ByteArray} {q : List El} (h : (ts, 1) ∈ expE q) : ∃ x, (ts, x) ∈ q := by
  obtain ⟨a, ha, h2⟩ := List.mem_flatMap.1 h
  have := (List.mem_replicate.1 h2).2
  refine ⟨a.2, ?_⟩
  rw [show ts = a.1 from congrArg Prod.fst this]
  exact ha
theorem cnt_exp {q : List El} {a : El} (h : a ∈ q) : a.2.toNat ≤ (expE q).length := by
  induction q with
  | nil => cases h
  | cons b q ih =>
    rw [expE_cons, List.length_append, List.length_replicate]
    rcases List.mem_cons.1 h with rfl | h
    · omega
    · have := ih h; omega
theorem addE_pos {ts : List ByteArray} {n : Int} (hn : 1 ≤ n) (hn2 : n ≤ 9223372036854775807) : ∀ {q : List El}, posE q → posE (addE ts n q)
  | [], _, t, ht => by simp [addE] at ht; rw [ht]; exact ⟨hn, hn2⟩
  | a :: r, hq, t, ht => by
    have ha := hq a (List.mem_cons_self ..)
    have hr : posE r := fun t ht => hq t (List.mem_cons_of_mem _ ht)
    unfold addE at ht
    split at ht
    · rcases List.mem_cons.1 ht with rfl | ht
      · exact ha
      · exact addE_pos hn hn2 hr t ht
    · split at ht
      · rcases List.mem_cons.1 ht with rfl | ht
        · show 1 ≤ sumK a.2 n ∧ sumK a.2 n ≤ 9223372036854775807
          unfold sumK; split <;> omega
        · exact hr t ht
      · rcases List.mem_cons.1 ht with rfl | ht
        · exact ⟨hn, hn2⟩
        · exact hq t ht
theorem remE_pos {ts : List ByteArray} : ∀ {q : List El}, posE q → posE (remE ts q)
  | [], _, t, ht => by simp [remE] at ht
  | a :: r, hq, t, ht => by
    have ha := hq a (List.mem_cons_self ..)
    have hr : posE r := fun t ht => hq t (List.mem_cons_of_mem _ ht)
    unfold remE at ht
    split at ht
    · split at ht
      · exact hr t ht
      · rcases List.mem_cons.1 ht with rfl | ht
        · show 1 ≤ a.2 - 1 ∧ a.2 - 1 ≤ 9223372036854775807
          omega
        · exact hr t ht
    · rcases List.mem_cons.1 ht with rfl | ht
      · exact ha
      · exact remE_pos hr t ht
theorem addE_len (ts : List ByteArray) (n : Int) : ∀ q : List El, (addE ts n q).length ≤ q.length + 1
  | [] => by simp [addE]
  | a :: r => by
    unfold addE
    have := addE_len ts n r
    split
    · simp only [List.length_cons]; omega
    · split <;> simp only [List.length_cons] <;> omega
theorem remE_len (ts : List ByteArray) : ∀ q : List El, (remE ts q).length ≤ q.length
  | [] => by simp [remE]
  | a :: r => by
    unfold remE
    have := remE_len ts r
    split
    · split <;> simp only [List.length_cons] <;> omega
    · simp only [List.length_cons]; omega
/-- A sum of ones. -/
theorem tot_ones : ∀ (q : List El) (n : Int), (∀ t ∈ q, t.2 = 1) → 0 ≤ n → n + q.length ≤ 9223372036854775807 → q.foldl (fun n t => sumK n t.2) n = n + q.length
  | [], n, _, _, _ => by simp
  | t :: q, n, h, h0, h1 => by
    have ht := h t (List.mem_cons_self ..)
    have h2 : sumK n t.2 = n + 1 := by
      rw [ht]; unfold sumK; rw [if_neg (by simp only [List.length_cons] at h1; omega)]
    rw [List.foldl_cons, h2, tot_ones q (n + 1) (fun u hu => h u (List.mem_cons_of_mem _ hu)) (by omega) (by simp only [List.length_cons] at h1; omega)]
    simp only [List.length_cons]; omega
end Go.Pl
/- Plain: what may stand in a token: no digit, no blank. -/
set_option linter.unusedVariables false
namespace Go.Aw
open Go
def tokC (c : UInt8) : Bool := isSp c || isDig c
def tokBad (s : List UInt8) : Bool := s.any tokC
def tokR (r : Nat) : Bool := spR r || digR r
theorem tokC_R (c : UInt8) : tokC c = tokR c.toNat := by rw [tokC, tokR, isSp_spR, isDig_digR]
theorem idx_tok (s : ByteArray) : ∀ (f pos : Nat), s.size - pos ≤ f → pos ≤ s.size → (0 ≤ Lib.idxFuncFrom tokR true s f pos ↔ tokBad (s.data.toList.drop pos) = true) := by
  have hsz := size_len s
  have fin : ∀ pos, pos = s.size → ((0 : Int) ≤ -1 ↔ tokBad (s.data.toList.drop pos) = true) := fun pos hp => by
    rw [List.drop_of_length_le (by omega)]; simp [tokBad]
  intro f
  induction f with
  | zero => intro pos h1 h2; exact fin pos (by omega)
  | succ f ih =>
    intro pos h1 h2
    unfold Lib.idxFuncFrom
    by_cases hp : pos < s.size
    · rw [if_pos hp]
      rcases decode_cases hp with ⟨hb, hdec⟩ | ⟨hr, hw, hle, hx⟩
      · rw [hdec, drop_getD (l := s.data.toList) (i := pos) (by omega)]
        dsimp only
        rw [← tokC_R]
        by_cases hd : tokC (s.data.toList.getD pos 0) = true
        · rw [if_pos hd, show tokBad (s.data.toList.getD pos 0 :: s.data.toList.drop (pos + 1)) = true by rw [tokBad, List.any_cons, hd, Bool.true_or]]; simp
        · rw [if_neg hd, ih (pos + 1) (by omega) (by omega), tokBad, tokBad, List.any_cons, Bool.eq_false_iff.2 hd, Bool.false_or]
      · have hs : tokR (Utf8.decode s pos).1 = false := by
          simp only [tokR, spR, digR, Bool.or_eq_false_iff, Bool.and_eq_false_iff, decide_eq_false_iff_not, beq_eq_false_iff_ne]; omega
        generalize (Utf8.decode s pos).2 = w at *
        rw [hs, if_neg (by simp), ih (pos + w) (by omega) (by omega)]
        have e : s.data.toList.drop pos = (s.data.toList.drop pos).take w ++ s.data.toList.drop (pos + w) := by
          rw [← List.drop_drop, List.take_append_drop]
        have hn : tokBad ((s.data.toList.drop pos).take w) = false := by
          rw [Bool.eq_false_iff]
          intro h
          obtain ⟨x, hm, hd⟩ := List.any_eq_true.1 h
          have := hx x hm
          rw [tokC_R] at hd
          simp only [tokR, spR, digR, Bool.or_eq_true, Bool.and_eq_true, decide_eq_true_eq, beq_iff_eq] at hd
          omega
        rw [e]
        simp only [tokBad, List.any_append] at hn ⊢
        rw [hn, Bool.false_or]
    · rw [if_neg hp]; exact fin pos (by omega)
theorem idxFunc_tok (s : ByteArray) : decide (0 ≤ Lib.idxFunc tokR true s) = tokBad s.data.toList := by
  have := idx_tok s s.size 0 (by omega) (by omega)
  rw [Bool.eq_iff_iff, decide_eq_true_eq]
  simpa [Lib.idxFunc] using this
theorem fieldsGo_nosp : ∀ (l cur : List UInt8), (∀ c ∈ cur, isSp c = false) → ∀ x ∈ fieldsGo cur l, ∀ c ∈ x, isSp c = false
  | [], cur, h, x, hx, c, hc => by
    simp only [fieldsGo] at hx
    split at hx
    · cases hx
    · rw [List.mem_singleton] at hx
      rw [hx] at hc
      exact h c (List.mem_reverse.1 hc)
  | a :: l, cur, h, x, hx, c, hc => by
    simp only [fieldsGo] at hx
    split at hx
    · split at hx
      · exact fieldsGo_nosp l [] (by simp) x hx c hc
      · rcases List.mem_cons.1 hx with rfl | hx
        · exact h c (List.mem_reverse.1 hc)
        · exact fieldsGo_nosp l [] (by simp) x hx c hc
    · rename_i hs
      refine fieldsGo_nosp l (a :: cur) (fun d hd => ?_) x hx c hc
      rcases List.mem_cons.1 hd with rfl | hd
      · exact Bool.eq_false_iff.2 hs
      · exact h d hd
theorem toks_good {s : ByteArray} {ts : List ByteArray} (h : toksOf s = some ts) : ∀ t ∈ ts, tokBad t.data.toList = false := fun t ht => by
  unfold toksOf at h
  split at h
  · cases h
  · rw [← Option.some.inj h] at ht
    obtain ⟨x, hx, rfl⟩ := List.mem_map.1 ht
    unfold varB
    split
    · simp [B, tokBad]
    · rename_i hd
      obtain ⟨y, hy, rfl⟩ := List.mem_map.1 hx
      rw [B_data] at hd ⊢
      rw [Bool.eq_false_iff]
      intro hb
      obtain ⟨c, hc, h2⟩ := List.any_eq_true.1 hb
      have h3 := fieldsGo_nosp _ [] (by simp) y hy c hc
      rw [tokC, h3, Bool.false_or] at h2
      exact hd (List.any_eq_true.2 ⟨c, hc, h2⟩)
end Go.Aw
/- The comparisons, once more, in the plain logic. -/
set_option linter.unusedVariables false
namespace Go.Proofs.YtmofaabndjnhjaaGreat.M
open Go Go.Aw Go.Pl Go.RowKit
def orInts (m : Hp) (v : Value) (l : List Int) : Prop := RdSl m (fun i => [Value.int .i64 i]) 1 v l
theorem encI_len (i : Int) : ((fun i => [Value.int .i64 i]) i : List Value).length = 1 := rfl
theorem ez63 : Enters Tryz.prog 63 := enters_of Tryz.func63 (by kernel_rfl) rfl
theorem Fz63 (m : Hp) (x : Int) : RC Tryz.prog 63 #[.int .i64 x] m (.bool false) := by
  refine rc_of_gc fun m1 hm => gc_intro (vs := [_]) Tryz.func63 rfl Tryz.ntmps63 (by simp) ?_
  refine awp_rs (ao_r (rig_assign rfl rfl) rfl (ao_nil ?_))
  refine awp_rs (ao_r (rig_move rfl rfl) rfl (ao_r (rig_move rfl rfl) rfl (ao_r (rig_neq rfl rfl rfl) rfl (ao_r (rig_assign rfl rfl) rfl (ao_nil ?_)))))
  exact awp_ret ⟨_, res1 Tryz.results63 rfl, by simp, HpLe.refl _⟩
theorem ez80 : Enters Tryz.prog 80 := enters_of Tryz.func80 (by kernel_rfl) rfl
theorem Fz80 (m : Hp) (x : ByteArray) : RC Tryz.prog 80 #[.string x] m (.bool false) := by
  refine rc_of_gc fun m1 hm => gc_intro (vs := [_]) Tryz.func80 rfl Tryz.ntmps80 (by simp) ?_
  refine awp_rs (ao_r (rig_assign rfl rfl) rfl (ao_nil ?_))
  refine awp_rs (ao_r (rig_move rfl rfl) rfl (ao_r (rig_move rfl rfl) rfl (ao_r (rig_sneq rfl rfl rfl) rfl (ao_r (rig_assign rfl rfl) rfl (ao_nil ?_)))))
  exact awp_ret ⟨_, res1 Tryz.results80 rfl, by simp, HpLe.refl _⟩
theorem ez42 : Enters Tryz.prog 42 := enters_of Tryz.func42 (by kernel_rfl) rfl
set_option maxRecDepth 100000 in
theorem Fz42 (m : Hp) (x y : Int) : RC Tryz.prog 42 #[.int .i64 x, .int .i64 y] m (.int .i64 (cmpI x y)) := by
  refine rc_of_gc fun m1 hm => gc_intro (vs := [_, _]) Tryz.func42 rfl Tryz.ntmps42 (by simp) ?_
  refine awp_rs (ao_r (rig_assign rfl rfl) rfl (ao_nil ?_))
  refine awp_rs (ao_r (rig_move rfl rfl) rfl (ao_r (rig_call rfl rfl ez63 (Fz63 _ x)) rfl (ao_r (rig_assign rfl rfl) rfl (ao_nil ?_))))
  refine awp_rs (ao_r (rig_move rfl rfl) rfl (ao_r (rig_call rfl rfl ez63 (Fz63 _ y)) rfl (ao_r (rig_assign rfl rfl) rfl (ao_nil ?_))))
  refine awp_sk fun K1 hK1 => awp_rs (ao_r (rig_move rfl rfl) rfl (ao_nil ?_))
  refine awp_false rfl (awp_skip (hK1 _ _ ?_))
  refine awp_sk fun K3 hK3 => awp_rs (ao_r (rig_move rfl rfl) rfl (ao_nil ?_))
  refine awp_false rfl (awp_skip (hK3 _ _ ?_))
  refine awp_sk fun K4 hK4 => awp_rs (ao_r (rig_move rfl rfl) rfl (ao_r (rig_move rfl rfl) rfl (ao_r (rig_lss rfl rfl rfl) rfl (ao_nil ?_))))
  refine awp_cond rfl (fun h => ?_) (fun h => ?_)
  · refine awp_rs (ao_r (rig_assign rfl rfl) rfl (ao_nil ?_))
    refine awp_ret ⟨_, res1 Tryz.results42 rfl, ?_, HpLe.refl _⟩
    rw [cmpI, if_pos (of_decide_eq_true h)]
  · refine awp_skip (hK4 _ _ ?_)
    refine awp_sk fun K5 hK5 => awp_rs (ao_r (rig_move rfl rfl) rfl (ao_r (rig_move rfl rfl) rfl (ao_r (rig_gtr rfl rfl rfl) rfl (ao_nil ?_))))
    refine awp_cond rfl (fun h2 => ?_) (fun h2 => ?_)
    · refine awp_rs (ao_r (rig_assign rfl rfl) rfl (ao_nil ?_))
      refine awp_ret ⟨_, res1 Tryz.results42 rfl, ?_, HpLe.refl _⟩
      rw [cmpI, if_neg (of_decide_eq_false h), if_pos (of_decide_eq_true h2)]
    · refine awp_skip (hK5 _ _ (awp_rs (ao_r (rig_assign rfl rfl) rfl (ao_nil ?_))))
      refine awp_ret ⟨_, res1 Tryz.results42 rfl, ?_, HpLe.refl _⟩
      rw [cmpI, if_neg (of_decide_eq_false h), if_neg (of_decide_eq_false h2)]
theorem ez64 : Enters Tryz.prog 64 := enters_of Tryz.func64 (by kernel_rfl) rfl
set_option maxRecDepth 100000 in
theorem Fz64 (m : Hp) (x y : ByteArray) : RC Tryz.prog 64 #[.string x, .string y] m (.int .i64 (cmpS x y)) := by
  refine rc_of_gc fun m1 hm => gc_intro (vs := [_, _]) Tryz.func64 rfl Tryz.ntmps64 (by simp) ?_
  refine awp_rs (ao_r (rig_assign rfl rfl) rfl (ao_nil ?_))
  refine awp_rs (ao_r (rig_move rfl rfl) rfl (ao_r (rig_call rfl rfl ez80 (Fz80 _ x)) rfl (ao_r (rig_assign rfl rfl) rfl (ao_nil ?_))))
  refine awp_rs (ao_r (rig_move rfl rfl) rfl (ao_r (rig_call rfl rfl ez80 (Fz80 _ y)) rfl (ao_r (rig_assign rfl rfl) rfl (ao_nil ?_))))
  refine awp_sk fun K1 hK1 => awp_rs (ao_r (rig_move rfl rfl) rfl (ao_nil ?_))
  refine awp_false rfl (awp_skip (hK1 _ _ ?_))
  refine awp_sk fun K3 hK3 => awp_rs (ao_r (rig_move rfl rfl) rfl (ao_nil ?_))
  refine awp_false rfl (awp_skip (hK3 _ _ ?_))
  refine awp_sk fun K4 hK4 => awp_rs (ao_r (rig_move rfl rfl) rfl (ao_r (rig_move rfl rfl) rfl (ao_r (rig_slss rfl rfl rfl) rfl (ao_nil ?_))))
  refine awp_cond rfl (fun h => ?_) (fun h => ?_)
  · refine awp_rs (ao_r (rig_assign rfl rfl) rfl (ao_nil ?_))
    refine awp_ret ⟨_, res1 Tryz.results64 rfl, ?_, HpLe.refl _⟩
    rw [cmpS, if_pos h]
  · refine awp_skip (hK4 _ _ ?_)
    refine awp_sk fun K5 hK5 => awp_rs (ao_r (rig_move rfl rfl) rfl (ao_r (rig_move rfl rfl) rfl (ao_r (rig_sgtr rfl rfl rfl) rfl (ao_nil ?_))))
    refine awp_cond rfl (fun h2 => ?_) (fun h2 => ?_)
    · refine awp_rs (ao_r (rig_assign rfl rfl) rfl (ao_nil ?_))
      refine awp_ret ⟨_, res1 Tryz.results64 rfl, ?_, HpLe.refl _⟩
      rw [h] at h2; rw [cmpS, if_neg (by simp [h]), if_neg (by simpa using h2)]
    · refine awp_skip (hK5 _ _ (awp_rs (ao_r (rig_assign rfl rfl) rfl (ao_nil ?_))))
      refine awp_ret ⟨_, res1 Tryz.results64 rfl, ?_, HpLe.refl _⟩
      rw [h] at h2; rw [cmpS, if_neg (by simp [h]), if_pos (by simpa using h2)]
theorem cmpSL_drop {xs ys : List ByteArray} {i : Nat} {x y : ByteArray} (hx : xs[i]? = some x) (hy : ys[i]? = some y) : cmpSL (xs.drop i) (ys.drop i) = if cmpS x y = 0 then cmpSL (xs.drop (i + 1)) (ys.drop (i + 1)) else cmpS x y := by
  rw [List.drop_eq_getElem_cons (List.getElem?_eq_some_iff.1 hx).1, List.drop_eq_getElem_cons (List.getElem?_eq_some_iff.1 hy).1]
  rw [(List.getElem?_eq_some_iff.1 hx).2, (List.getElem?_eq_some_iff.1 hy).2]
  rfl
theorem ez43 : Enters Tryz.prog 43 := enters_of Tryz.func43 (by kernel_rfl) rfl
set_option maxRecDepth 100000 in
theorem Fz43 (m : Hp) (va vb : Value) (la lb : List ByteArray) (ha : Strs m va la) (hb : Strs m vb lb) (hl : la.length ≤ 1099511627776) : RC Tryz.prog 43 #[va, vb] m (.int .i64 (cmpSL la lb)) := by
  obtain ⟨A, ca, rfl, _⟩ := RdSl.form encS_len (by decide) ha
  obtain ⟨A2, cb, rfl, _⟩ := RdSl.form encS_len (by decide) hb
  refine rc_of_gc fun m1 hm => gc_intro (vs := [_, _]) Tryz.func43 rfl Tryz.ntmps43 (by simp) ?_
  have ha' := ha.le hm
  have hb' := hb.le hm
  refine awp_rs (ao_r (rig_assign rfl rfl) rfl (ao_nil ?_))
  refine awp_sk fun K6 hK6 => awp_rs ?_
  refine ao_r (rig_move rfl rfl) rfl (ao_r (rig_lenSl rfl rfl Tryz.underlying27) rfl (ao_r (rig_move rfl rfl) rfl (ao_nil ?_)))
  refine awp_block ?_
  refine awp_le [(0, .slice A la.length ca), (1, .slice A2 lb.length cb), (9, .slice A la.length ca), (10, .int .i64 la.length), (11, .int .i64 (0 : Nat))] ⟨rfl, rfl, rfl, rfl, rfl, trivial⟩ ?_
  refine awp_loop (fun k r mm => ∃ i : Nat, i ≤ la.length ∧ i ≤ lb.length ∧ k = la.length - i ∧ r = [(0, .slice A la.length ca), (1, .slice A2 lb.length cb), (9, .slice A la.length ca), (10, .int .i64 la.length), (11, .int .i64 i)] ∧ mm = m1 ∧ cmpSL la lb = cmpSL (la.drop i) (lb.drop i)) _ ⟨0, by omega, by omega, rfl, rfl, rfl, rfl⟩ ?_
  rintro k r mm ⟨i, hi, hi2, rfl, rfl, rfl, hj⟩
  refine awp_rs (ao_r (rig_lss rfl rfl rfl) rfl (ao_nil ?_))
  refine awp_sk fun K7 hK7 => ?_
  refine awp_if rfl (fun h => ?_) (fun h => ?_)
  · refine awp_skip (hK7 _ _ (awp_sk fun K8 hK8 => awp_block (awp_rs ?_)))
    obtain ⟨x, hx⟩ := get_lt (l := la) (i := i) (by omega)
    obtain ⟨xb, xo, xc, hxA, hxc⟩ := Strs.get ha' hx
    simp only [Value.slice.injEq] at hxA
    obtain ⟨rfl, _, rfl⟩ := hxA
    refine ao_r (rig_move rfl rfl) rfl (ao_r (rig_ix i rfl rfl rfl Tryz.underlying27 Tryz.sizeOf9 rfl rfl (by omega)) rfl (ao_r (rig_load1 rfl rfl Tryz.isAgg9 hxc) rfl (ao_r (rig_assign rfl rfl) rfl (ao_r (rig_assign rfl rfl) rfl (ao_nil ?_)))))
    refine awp_sk fun K9 hK9 => awp_rs ?_
    refine ao_r (rig_move rfl rfl) rfl (ao_r (rig_move rfl rfl) rfl (ao_r (rig_lenSl rfl rfl Tryz.underlying27) rfl (ao_r (rig_geq rfl rfl rfl) rfl (ao_nil ?_))))
    refine awp_if rfl (fun h2 => ?_) (fun h2 => ?_)
    · refine awp_rs (ao_r (rig_assign rfl rfl) rfl (ao_nil ?_))
      refine awp_ret ⟨_, res1 Tryz.results43 rfl, ?_, HpLe.refl _⟩
      rw [hj, List.drop_eq_getElem_cons (l := la) (i := i) (by omega), List.drop_of_length_le (l := lb) (by omega)]; rfl
    · refine awp_skip (hK9 _ _ (awp_rs ?_))
      obtain ⟨y, hy⟩ := get_lt (l := lb) (i := i) (by omega)
      obtain ⟨yb, yo, yc, hyA, hyc⟩ := Strs.get hb' hy
      simp only [Value.slice.injEq] at hyA
      obtain ⟨rfl, _, rfl⟩ := hyA
      rw [cmpSL_drop hx hy] at hj
      refine ao_r (rig_move rfl rfl) rfl (ao_r (rig_move rfl rfl) rfl (ao_r (rig_ix i rfl rfl rfl Tryz.underlying27 Tryz.sizeOf9 rfl rfl (by omega)) rfl (ao_r (rig_load1 rfl rfl Tryz.isAgg9 hyc) rfl (ao_r (rig_assign rfl rfl) rfl (ao_nil ?_)))))
      refine awp_rs (ao_r (rig_move rfl rfl) rfl (ao_r (rig_move rfl rfl) rfl (ao_r (rig_call rfl rfl ez64 (Fz64 _ x y)) rfl (ao_r (rig_assign rfl rfl) rfl (ao_nil ?_)))))
      refine awp_rs (ao_r (rig_move rfl rfl) rfl (ao_r (rig_neq rfl rfl rfl) rfl (ao_nil ?_)))
      refine awp_ifn rfl (fun h3 => ?_) (fun h3 => ?_)
      · refine awp_rs (ao_r (rig_move rfl rfl) rfl (ao_r (rig_assign rfl rfl) rfl (ao_nil ?_)))
        refine awp_ret ⟨_, res1 Tryz.results43 rfl, ?_, HpLe.refl _⟩
        rw [hj, if_neg h3]
      · refine awp_skip (hK8 _ _ (awp_region ?_))
        refine ao_r (rig_add rfl rfl rfl (w64 _ (by omega) (by omega))) rfl (ao_r (rig_move rfl rfl) rfl (ao_nil ?_))
        exact ⟨[(0, .slice _ la.length _), (1, .slice _ lb.length _), (9, .slice _ la.length _), (10, .int .i64 la.length), (11, .int .i64 (i + 1 : Nat))], _, ⟨rfl, rfl, rfl, rfl, rfl, trivial⟩, by omega, i + 1, by omega, by omega, rfl, rfl, rfl, by rw [hj, if_pos h3]⟩
  · refine awp_exit (hK6 _ _ (awp_sk fun K10 hK10 => awp_rs ?_))
    refine ao_r (rig_move rfl rfl) rfl (ao_r (rig_lenSl rfl rfl Tryz.underlying27) rfl (ao_r (rig_move rfl rfl) rfl (ao_r (rig_lenSl rfl rfl Tryz.underlying27) rfl (ao_r (rig_lss rfl rfl rfl) rfl (ao_nil ?_)))))
    rw [List.drop_of_length_le (l := la) (by omega)] at hj
    refine awp_if rfl (fun h2 => ?_) (fun h2 => ?_)
    · refine awp_rs (ao_r (rig_assign rfl rfl) rfl (ao_nil ?_))
      refine awp_ret ⟨_, res1 Tryz.results43 rfl, ?_, HpLe.refl _⟩
      rw [hj, List.drop_eq_getElem_cons (l := lb) (i := i) (by omega)]; rfl
    · refine awp_skip (hK10 _ _ (awp_rs (ao_r (rig_assign rfl rfl) rfl (ao_nil ?_))))
      refine awp_ret ⟨_, res1 Tryz.results43 rfl, ?_, HpLe.refl _⟩
      rw [hj, List.drop_of_length_le (l := lb) (by omega)]; rfl
theorem orI_drop {l : List Int} {i : Nat} {x : Int} (hx : l[i]? = some x) : orI (l.drop i) = if x = 0 then orI (l.drop (i + 1)) else x := by
  rw [List.drop_eq_getElem_cons (List.getElem?_eq_some_iff.1 hx).1, (List.getElem?_eq_some_iff.1 hx).2]; rfl
theorem ez41 : Enters Tryz.prog 41 := enters_of Tryz.func41 (by kernel_rfl) rfl
set_option maxRecDepth 100000 in
theorem Fz41 (m : Hp) (va : Value) (l : List Int) (ha : orInts m va l) (hl : l.length ≤ 1099511627776) : RC Tryz.prog 41 #[va] m (.int .i64 (orI l)) := by
  obtain ⟨A, ca, rfl, _⟩ := RdSl.form encI_len (by decide) ha
  refine rc_of_gc fun m1 hm => gc_intro (vs := [_]) Tryz.func41 rfl Tryz.ntmps41 (by simp) ?_
  have ha' := RdSl.le ha hm
  refine awp_rs (ao_r (rig_assign rfl rfl) rfl (ao_nil ?_))
  refine awp_rs (ao_r (rig_assign rfl rfl) rfl (ao_nil ?_))
  refine awp_sk fun K6 hK6 => awp_rs ?_
  refine ao_r (rig_move rfl rfl) rfl (ao_r (rig_lenSl rfl rfl Tryz.underlying74) rfl (ao_r (rig_move rfl rfl) rfl (ao_nil ?_)))
  refine awp_block ?_
  refine awp_le [(3, .int .i64 0), (6, .slice A l.length ca), (7, .int .i64 l.length), (8, .int .i64 (0 : Nat))] ⟨rfl, rfl, rfl, rfl, trivial⟩ ?_
  refine awp_loop (fun k r mm => ∃ i : Nat, i ≤ l.length ∧ k = l.length - i ∧ r = [(3, .int .i64 0), (6, .slice A l.length ca), (7, .int .i64 l.length), (8, .int .i64 i)] ∧ mm = m1 ∧ orI l = orI (l.drop i)) _ ⟨0, by omega, rfl, rfl, rfl, rfl⟩ ?_
  rintro k r mm ⟨i, hi, rfl, rfl, rfl, hj⟩
  refine awp_rs (ao_r (rig_lss rfl rfl rfl) rfl (ao_nil ?_))
  refine awp_sk fun K7 hK7 => ?_
  refine awp_if rfl (fun h => ?_) (fun h => ?_)
  · refine awp_skip (hK7 _ _ (awp_sk fun K8 hK8 => awp_block (awp_rs ?_)))
    obtain ⟨x, hx⟩ := get_lt (l := l) (i := i) (by omega)
    obtain ⟨A', cap', e, hrc⟩ := RdSl.form encI_len (by decide) ha'
    simp only [Value.slice.injEq] at e
    obtain ⟨rfl, _, rfl⟩ := e
    obtain ⟨b, off, rfl, hC⟩ := hrc.resolve_left (fun e => by rw [e] at h; simp at h; omega)
    have hxc : cell mm b (off + i * 1) = some (.int .i64 x) := (hC.elem encI_len hx).1
    rw [orI_drop hx] at hj
    refine ao_r (rig_ix i rfl rfl rfl Tryz.underlying74 Tryz.sizeOf3 rfl rfl (by omega)) rfl (ao_r (rig_load1 rfl rfl Tryz.isAgg3 hxc) rfl (ao_r (rig_assign rfl rfl) rfl (ao_nil ?_)))
    refine awp_rs (ao_r (rig_move rfl rfl) rfl (ao_r (rig_move rfl rfl) rfl (ao_r (rig_neq rfl rfl rfl) rfl (ao_nil ?_))))
    refine awp_ifn rfl (fun h3 => ?_) (fun h3 => ?_)
    · refine awp_rs (ao_r (rig_move rfl rfl) rfl (ao_r (rig_assign rfl rfl) rfl (ao_nil ?_)))
      refine awp_ret ⟨_, res1 Tryz.results41 rfl, ?_, HpLe.refl _⟩
      rw [hj, if_neg h3]
    · refine awp_skip (hK8 _ _ (awp_region ?_))
      refine ao_r (rig_add rfl rfl rfl (w64 _ (by omega) (by omega))) rfl (ao_r (rig_move rfl rfl) rfl (ao_nil ?_))
      exact ⟨[(3, .int .i64 0), (6, .slice _ l.length _), (7, .int .i64 l.length), (8, .int .i64 (i + 1 : Nat))], _, ⟨rfl, rfl, rfl, rfl, trivial⟩, by omega, i + 1, by omega, rfl, rfl, rfl, by rw [hj, if_pos h3]⟩
  · refine awp_exit (hK6 _ _ (awp_rs (ao_r (rig_move rfl rfl) rfl (ao_r (rig_assign rfl rfl) rfl (ao_nil ?_)))))
    refine awp_ret ⟨_, res1 Tryz.results41 rfl, ?_, HpLe.refl _⟩
    rw [hj, List.drop_of_length_le (by omega)]; rfl
def cmpT (a b : Tm) : Int := orI [cmpI a.toks.length b.toks.length, cmpSL a.toks b.toks, cmpI a.cnt b.cnt]
theorem ez58 : Enters Tryz.prog 58 := enters_of Tryz.func58 (by kernel_rfl) rfl
set_option maxRecDepth 100000 in
theorem Fz58 (m : Hp) (a b : Tm) (ha : a.Ok m) (hb : b.Ok m) (hl : a.toks.length ≤ 1099511627776) : RC Tryz.prog 58 #[a.val, b.val] m (.int .i64 (cmpT a b)) := by
  refine rc_of_gc fun m1 hm => gc_intro (vs := [_, _]) Tryz.func58 rfl Tryz.ntmps58 (by simp) ?_
  refine awp_rs ?_
  refine ao_x (ex_boxR rfl rfl) rfl fun v m2 ⟨p2, hv, hl2, hc2⟩ => ?_
  subst hv
  refine ao_x (ex_boxR rfl rfl) rfl fun v m3 ⟨p3, hv, hl3, hc3⟩ => ?_
  subst hv
  obtain ⟨a0, a1, _⟩ := hc2.le hl3
  obtain ⟨b0, b1, _⟩ := hc3
  have hle : HpLe m1 m3 := hl2.trans hl3
  have ha' := ha.le (hm.trans hle)
  have hb' := hb.le (hm.trans hle)
  have na := ha.len
  have nb := hb.len
  refine ao_r (rig_assign rfl rfl) rfl (ao_nil ?_)
  rw [U_one m3]
  rw [U_one m3] at a0 a1 b0 b1 ha' hb'
  refine awp_ds (.q 0 (.q 1 (.q 2 (.q 3 (.q 4 (.q 5 (.q 6 (.q 7 (.q 8 (.q 9 (.q 10 (.q 11 (.q 12 (.q 13 (.q 14 (.q 15 (.q 16 (.s 17 (.q 18 (.q 19 .fin)))))))))))))))))))) [] (by kernel_rfl) (by kernel_rfl) ?_
  refine oq rfl (rig_fieldAddr rfl rfl Tryz.underlying32 rfl Tryz.sizeOf27 rfl) rfl (oq rfl (rig_load1 rfl rfl Tryz.isAgg27 a0) rfl (oq rfl (rig_lenSl rfl rfl Tryz.underlying27) rfl (oq rfl (rig_fieldAddr rfl rfl Tryz.underlying32 rfl Tryz.sizeOf27 rfl) rfl (oq rfl (rig_load1 rfl rfl Tryz.isAgg27 b0) rfl (oq rfl (rig_lenSl rfl rfl Tryz.underlying27) rfl ?_)))))
  refine oq rfl (rig_call rfl rfl ez42 (Fz42 _ _ _)) rfl ?_
  refine oq rfl (rig_fieldAddr rfl rfl Tryz.underlying32 rfl Tryz.sizeOf27 rfl) rfl (oq rfl (rig_load1 rfl rfl Tryz.isAgg27 a0) rfl (oq rfl (rig_fieldAddr rfl rfl Tryz.underlying32 rfl Tryz.sizeOf27 rfl) rfl (oq rfl (rig_load1 rfl rfl Tryz.isAgg27 b0) rfl (oq rfl (rig_call rfl rfl ez43 (Fz43 _ _ _ a.toks b.toks ha' hb' hl)) rfl ?_))))
  refine oq rfl (rig_fieldAddr rfl rfl Tryz.underlying32 rfl Tryz.sizeOf3 rfl) rfl (oq rfl (rig_load1 rfl rfl Tryz.isAgg3 a1) rfl (oq rfl (rig_fieldAddr rfl rfl Tryz.underlying32 rfl Tryz.sizeOf3 rfl) rfl (oq rfl (rig_load1 rfl rfl Tryz.isAgg3 b1) rfl (oq rfl (rig_call rfl rfl ez42 (Fz42 _ _ _)) rfl ?_))))
  refine os rfl (ex_buildSlice (cs := #[.int .i64 (cmpI a.n b.n), .int .i64 (cmpSL a.toks b.toks), .int .i64 (cmpI a.cnt b.cnt)]) rfl (Dj_single m3) rfl Tryz.underlying74 Tryz.sizeOf3 Tryz.zeroValue3 (by decide) (by decide) (by kernel_rfl)) rfl fun w2 m4 ⟨b2, hw2, hm4, hD2⟩ => ⟨fun _ => by subst hm4; exact U_le_tail hD2, ?_⟩
  subst hw2 hm4
  have ho : orInts (U [Go.Aw.one b2 (.cells #[.int .i64 (cmpI a.n b.n), .int .i64 (cmpSL a.toks b.toks), .int .i64 (cmpI a.cnt b.cnt)] 3 (0, 0)), m3]) (.slice (some ⟨b2, 0, none⟩) 3 3) [cmpI a.n b.n, cmpSL a.toks b.toks, cmpI a.cnt b.cnt] :=
    ⟨_, 3, 3, rfl, rfl, .inr ⟨b2, 0, rfl, (cellsAt_one b2 _ 3).le U_le_head⟩⟩
  refine oq rfl (rig_call rfl rfl ez41 (Fz41 _ _ _ ho (by simp))) rfl (oq rfl (rig_assign rfl rfl) rfl (od_fin ?_))
  refine awp_ret ⟨_, res1 Tryz.results58 rfl, ?_, hle.trans (le_at 1 hD2 rfl)⟩
  rw [cmpT, na, nb]
end Go.Proofs.YtmofaabndjnhjaaGreat.M
/- The miner: sums, size, copy, search. -/
set_option linter.unusedVariables false
namespace Go.Proofs.YtmofaabndjnhjaaGreat
open Go Go.Aw Go.Pl Go.RowKit
theorem ez36 : Enters Tryz.prog 36 := enters_of Tryz.func36 (by kernel_rfl) rfl
set_option maxRecDepth 100000 in
theorem Fz36 (m : Hp) (a b : Int) (ha : -9223372036854775808 ≤ a) (hb0 : 0 ≤ b) (hb : b ≤ 9223372036854775807) : RC Tryz.prog 36 #[.int .i64 a, .int .i64 b] m (.int .i64 (sumS a b)) := by
  refine rc_of_gc fun m1 hm => gc_intro (vs := [_, _]) Tryz.func36 rfl Tryz.ntmps36 (by simp) ?_
  refine awp_rs (ao_r (rig_assign rfl rfl) rfl (ao_nil ?_))
  refine awp_sk fun K1 hK1 => awp_rs ?_
  refine ao_r (rig_move rfl rfl) rfl (ao_r (rig_move rfl rfl) rfl (ao_r (rig_sub rfl rfl rfl (w64 _ (by omega) (by omega))) rfl (ao_r (rig_gtr rfl rfl rfl) rfl (ao_nil ?_))))
  refine awp_if rfl (fun h => ?_) (fun h => ?_)
  · refine awp_rs (ao_r (rig_assign rfl rfl) rfl (ao_nil ?_))
    refine awp_ret ⟨_, res1 Tryz.results36 rfl, ?_, HpLe.refl _⟩
    simp [sumS, h]
  · refine awp_skip (hK1 _ _ (awp_rs ?_))
    refine ao_r (rig_move rfl rfl) rfl (ao_r (rig_move rfl rfl) rfl (ao_r (rig_add rfl rfl rfl (w64 _ (by omega) (by omega))) rfl (ao_r (rig_assign rfl rfl) rfl (ao_nil ?_))))
    refine awp_ret ⟨_, res1 Tryz.results36 rfl, ?_, HpLe.refl _⟩
    rw [sumS, if_neg (by omega)]
theorem ez18 : Enters Tryz.prog 18 := enters_of Tryz.func18 (by kernel_rfl) rfl
set_option maxRecDepth 100000 in
theorem Fz18 (m : Hp) (va : Value) (l : List Tm) (ha : Tms m va l) (hl : l.length ≤ 1099511627776) (hc : ∀ t ∈ l, Cnt t) : RC Tryz.prog 18 #[va] m (.int .i64 (totS 0 l)) := by
  obtain ⟨A, ca, rfl, _⟩ := RdSl.form encT_len (by decide) ha
  refine rc_of_gc fun m1 hm => gc_intro (vs := [_]) Tryz.func18 rfl Tryz.ntmps18 (by simp) ?_
  refine awp_rs (ao_r (rig_assign rfl rfl) rfl (ao_nil ?_))
  refine awp_rs (ao_r (rig_assign rfl rfl) rfl (ao_nil ?_))
  refine awp_sk fun K1 hK1 => awp_rs ?_
  refine ao_r (rig_move rfl rfl) rfl (ao_r (rig_lenSl rfl rfl Tryz.underlying23) rfl (ao_r (rig_move rfl rfl) rfl (ao_nil ?_)))
  refine awp_block ?_
  refine awp_le [(3, .int .i64 (totS 0 (l.take 0))), (6, .slice A l.length ca), (7, .int .i64 l.length), (8, .int .i64 (0 : Nat))] ⟨rfl, rfl, rfl, rfl, trivial⟩ ?_
  refine awp_loop (fun k r mm => ∃ i : Nat, i ≤ l.length ∧ k = l.length - i ∧ r = [(3, .int .i64 (totS 0 (l.take i))), (6, .slice A l.length ca), (7, .int .i64 l.length), (8, .int .i64 i)] ∧ HpLe m1 mm) _ ⟨0, by omega, rfl, rfl, HpLe.refl _⟩ ?_
  rintro k r mm ⟨i, hi, rfl, rfl, hle⟩
  refine awp_rs (ao_r (rig_lss rfl rfl rfl) rfl (ao_nil ?_))
  refine awp_sk fun K2 hK2 => ?_
  refine awp_if rfl (fun h => ?_) (fun h => ?_)
  · refine awp_skip (hK2 _ _ (awp_sk fun K3 hK3 => awp_block (awp_rs ?_)))
    obtain ⟨x, hx⟩ := get_lt (l := l) (i := i) (by omega)
    obtain ⟨b, off, cap', e, hxc⟩ := Tms.get (RdSl.le ha (hm.trans hle)) hx
    simp only [Value.slice.injEq] at e
    obtain ⟨rfl, _, rfl⟩ := e
    refine ao_r (rig_ix i rfl rfl rfl Tryz.underlying23 Tryz.sizeOf32 rfl rfl (by omega)) rfl (ao_r (rig_loadN (vs := encT x) rfl rfl Tryz.isAgg32 Tryz.sizeOf32 hxc) rfl ?_)
    refine ao_var Tryz.zeroValue32 rfl rfl (fun t h => by cases h; rfl) Tryz.sizeOf32 rfl (encT_one x) fun b5 m5 hl5 hc5 => ao_nil ?_
    obtain ⟨x0, x1, _⟩ := id hc5
    refine awp_region ?_
    have hcx := hc x (List.mem_of_getElem? hx)
    have hr := totS_range (l.take i) 0 (by omega) (by omega) fun t ht => hc t (List.mem_of_mem_take ht)
    refine ao_r (rig_move rfl rfl) rfl (ao_r (rig_fieldAddr rfl rfl Tryz.underlying32 rfl Tryz.sizeOf3 rfl) rfl (ao_r (rig_load1 rfl rfl Tryz.isAgg3 x1) rfl (ao_r (rig_call rfl rfl ez36 (Fz36 _ (totS 0 (l.take i)) x.cnt (by omega) hcx.1 hcx.2)) rfl (ao_r (rig_assign rfl rfl) rfl (ao_nil ?_)))))
    refine hK3 _ _ (awp_region ?_)
    refine ao_r (rig_add rfl rfl rfl (w64 _ (by omega) (by omega))) rfl (ao_r (rig_move rfl rfl) rfl (ao_nil ?_))
    have htk : l.take (i + 1) = l.take i ++ [x] := by
      rw [List.take_succ_eq_append_getElem (by omega), (List.getElem?_eq_some_iff.1 hx).2]
    exact ⟨[(3, .int .i64 (totS 0 (l.take (i + 1)))), (6, .slice _ l.length _), (7, .int .i64 l.length), (8, .int .i64 (i + 1 : Nat))], _, ⟨by rw [htk, totS_snoc]; rfl, rfl, rfl, rfl, trivial⟩, by omega, i + 1, by omega, rfl, rfl, hle.trans hl5⟩
  · refine awp_exit (hK1 _ _ (awp_rs (ao_r (rig_move rfl rfl) rfl (ao_r (rig_assign rfl rfl) rfl (ao_nil ?_)))))
    refine awp_ret ⟨_, res1 Tryz.results18 rfl, ?_, hle⟩
    rw [List.take_of_length_le (by omega)]
theorem ez25 : Enters Tryz.prog 25 := enters_of Tryz.func25 (by kernel_rfl) rfl
set_option maxRecDepth 100000 in
theorem Fz25 (m : Hp) (va : Value) (ss : List Tm) (ha : Tms m va ss) (hl : ss.length ≤ 1048576) : GC Tryz.prog 25 #[va] m (Fresh m fun u c F => Own 32 2 c u (rows encT ss)) := by
  obtain ⟨A, ca, rfl, hA⟩ := RdSl.form encT_len (by decide) ha
  refine gc_intro (vs := [_]) Tryz.func25 rfl Tryz.ntmps25 (by simp) ?_
  refine awp_u ?_
  refine awp_rs (ao_r (rig_assign rfl rfl) rfl (ao_nil ?_))
  refine awp_sk fun K9 hK9 => awp_rs ?_
  refine ao_r (rig_move rfl rfl) rfl (ao_r (rig_slNil rfl rfl rfl Tryz.underlying23) rfl (ao_nil ?_))
  refine awp_cond rfl (fun h => ?_) (fun h => ?_)
  · refine awp_rs (ao_r (rig_assign rfl rfl) rfl (ao_nil ?_))
    have hss : ss = [] := hA.resolve_right (fun ⟨b, off, e, _⟩ => by rw [e] at h; cases h)
    subst hss
    exact awp_ret ⟨_, res1 Tryz.results25 rfl, hp0, hp0, Dj_hp0 (Dj_hp0 (Dj_single m)), by rw [U_hp0, U_hp0], Own.nil 32 2⟩
  · refine awp_skip (hK9 _ _ (awp_rs ?_))
    refine ao_x (ex_build0 rfl (Dj_single m) Tryz.underlying23 Tryz.sizeOf32) rfl fun u m2 ⟨b, hu, hm2, hD2⟩ => ?_
    subst hu hm2
    have hsrc : Go.Aw.Src (U [Go.Aw.one b (.cells #[] 32 (0, 0)), m]) 2 (.slice A ss.length ca) (rows encT ss) := Go.Aw.Src.le ha (le_at 1 hD2 rfl)
    refine ao_r (rig_move rfl rfl) rfl ?_
    refine ao_x (ex_append 0 (by_ := 32) rfl hD2 rfl rfl Tryz.underlying23 inf32 rfl (by decide) (by decide) (Own.empty 32 2 b) rfl hsrc (one_rows encT_one _) (by rw [rows_length encT_len]; simp; omega)) rfl fun u3 m3 ⟨c, hO, hm3, hD3⟩ => ?_
    subst hm3
    refine ao_r (rig_assign rfl rfl) rfl (ao_nil ?_)
    rw [List.nil_append] at hO
    have e : U [c, m] = U [c, hp0, m] := by funext k; simp [U, hp0]
    exact awp_ret ⟨_, res1 Tryz.results25 rfl, c, hp0, ⟨fun k hk => by have := hD3.1 k hk; simpa [U, hp0] using this, Dj_hp0 (Dj_single m)⟩, e, hO⟩
theorem ez48 : Enters Tryz.prog 48 := enters_of Tryz.func48 (by kernel_rfl) rfl
set_option maxRecDepth 100000 in
theorem Fz48 (m : Hp) (va tv : Value) (g : FuncId) (l : List Tm) (cv : Tm → Int) (ha : Tms m va l) (hl : l.length ≤ 1099511627776) (eg : Enters Tryz.prog g) (hp : ∀ x ∈ l, RC Tryz.prog g #[x.val, tv] m (.int .i64 (cv x)))
    (hmono : ∀ (a b : Nat) (x y : Tm), l[a]? = some x → l[b]? = some y → a ≤ b → cv y < 0 → cv x < 0) : RC Tryz.prog 48 #[va, tv, .func (.func g) #[] #[]] m (.tuple #[.int .i64 (plc l cv), .bool (fnd l cv (plc l cv))]) := by
  obtain ⟨A, ca, rfl, _⟩ := RdSl.form encT_len (by decide) ha
  refine rc_of_gc fun m1 hm => gc_intro (vs := [_, _, _]) Tryz.func48 rfl Tryz.ntmps48 (by simp) ?_
  have ha' := RdSl.le ha hm
  have row : ∀ q x, l[q]? = some x → ∃ b off, A = some ⟨b, off, none⟩ ∧ CellsAt m1 b (off + q * 2) (encT x) := fun q x hx => by
    obtain ⟨b, off, cap', e, hxc⟩ := Tms.get ha' hx
    simp only [Value.slice.injEq] at e
    exact ⟨b, off, e.1, hxc⟩
  refine awp_rs (ao_r (rig_assign rfl rfl) rfl (ao_r (rig_assign rfl rfl) rfl (ao_nil ?_)))
  refine awp_rs (ao_r (rig_move rfl rfl) rfl (ao_r (rig_lenSl rfl rfl Tryz.underlying23) rfl (ao_r (rig_assign rfl rfl) rfl (ao_nil ?_))))
  refine awp_rs (ao_r (rig_move rfl rfl) rfl (ao_r (rig_assign rfl rfl) rfl (ao_r (rig_assign rfl rfl) rfl (ao_nil ?_))))
  refine awp_sk fun K1 hK1 => ?_
  refine awp_block ?_
  refine awp_le [(0, .slice A l.length ca), (1, tv), (2, .func (.func g) #[] #[]), (8, .int .i64 l.length), (9, .int .i64 (0 : Nat)), (10, .int .i64 l.length)] ⟨rfl, rfl, rfl, rfl, rfl, rfl, trivial⟩ ?_
  refine awp_loop (fun k r mm => ∃ i j : Nat, i ≤ j ∧ j ≤ l.length ∧ k = j - i ∧ r = [(0, .slice A l.length ca), (1, tv), (2, .func (.func g) #[] #[]), (8, .int .i64 l.length), (9, .int .i64 i), (10, .int .i64 j)] ∧ mm = m1 ∧ (∀ q x, l[q]? = some x → q < i → cv x < 0) ∧ (∀ q x, l[q]? = some x → j ≤ q → 0 ≤ cv x)) _ ⟨0, l.length, by omega, by omega, rfl, rfl, rfl, fun q x _ h => by omega, fun q x hx h => by have := (List.getElem?_eq_some_iff.1 hx).1; omega⟩ ?_
  rintro k r mm ⟨i, j, hij, hj, rfl, rfl, rfl, hlo, hhi⟩
  refine awp_sk fun K2 hK2 => awp_rs ?_
  refine ao_r (rig_move rfl rfl) rfl (ao_r (rig_move rfl rfl) rfl (ao_r (rig_lss rfl rfl rfl) rfl (ao_nil ?_)))
  refine awp_if rfl (fun h => ?_) (fun h => ?_)
  · refine awp_skip (hK2 _ _ (awp_block (awp_rs ?_)))
    have hh : (i + j) / 2 < l.length := by omega
    obtain ⟨x, hx⟩ := get_lt hh
    obtain ⟨b, off, rfl, hxc⟩ := row _ x hx
    refine ao_r (rig_move rfl rfl) rfl (ao_r (rig_move rfl rfl) rfl (ao_r (rig_add (c := ((i + j : Nat) : Int)) rfl rfl rfl (by rw [show ((i : Int) + (j : Int)) = ((i + j : Nat) : Int) by omega]; exact w64 _ (by omega) (by omega))) rfl (ao_r (rig_convInt (c := ((i + j : Nat) : Int)) rfl rfl Tryz.underlying3 Tryz.underlying79 (by rw [IntKind.wrap_u64]; omega)) rfl (ao_r (rig_shr (c := (((i + j) / 2 : Nat) : Int)) rfl rfl rfl (by decide) (by rw [Int.fdiv_eq_ediv_of_nonneg _ (by omega)]; omega)) rfl (ao_r (rig_convInt (c := (((i + j) / 2 : Nat) : Int)) rfl rfl Tryz.underlying79 Tryz.underlying3 (w64 _ (by omega) (by omega))) rfl (ao_r (rig_assign rfl rfl) rfl (ao_nil ?_)))))))
    refine awp_rs ?_
    refine ao_r (rig_move rfl rfl) rfl (ao_r (rig_move rfl rfl) rfl (ao_r (rig_move rfl rfl) rfl (ao_r (rig_ix ((i + j) / 2) rfl rfl rfl Tryz.underlying23 Tryz.sizeOf32 rfl rfl hh) rfl (ao_r (rig_loadN (vs := encT x) rfl rfl Tryz.isAgg32 Tryz.sizeOf32 hxc) rfl (ao_r (rig_move rfl rfl) rfl ?_)))))
    refine ao_r (rig_callv (vs := [x.val, tv]) rfl rfl rfl eg (by simpa using (hp x (List.mem_of_getElem? hx)).le hm)) rfl (ao_r (rig_lss rfl rfl rfl) rfl (ao_nil ?_))
    refine awp_if rfl (fun h2 => ?_) (fun h2 => ?_)
    · refine awp_region ?_
      refine ao_r (rig_move rfl rfl) rfl (ao_r (rig_add (c := (((i + j) / 2 + 1 : Nat) : Int)) rfl rfl rfl (w64 _ (by omega) (by omega))) rfl (ao_r (rig_assign rfl rfl) rfl (ao_nil ?_)))
      refine ⟨[(0, .slice _ l.length _), (1, tv), (2, .func (.func g) #[] #[]), (8, .int .i64 l.length), (9, .int .i64 ((i + j) / 2 + 1 : Nat)), (10, .int .i64 j)], _, ⟨rfl, rfl, rfl, rfl, rfl, rfl, trivial⟩, by omega, (i + j) / 2 + 1, j, by omega, hj, rfl, rfl, rfl, fun q y hy hq => ?_, hhi⟩
      exact hmono q _ y x hy hx (by omega) h2
    · refine awp_region ?_
      refine ao_r (rig_move rfl rfl) rfl (ao_r (rig_assign rfl rfl) rfl (ao_nil ?_))
      refine ⟨[(0, .slice _ l.length _), (1, tv), (2, .func (.func g) #[] #[]), (8, .int .i64 l.length), (9, .int .i64 i), (10, .int .i64 ((i + j) / 2 : Nat))], _, ⟨rfl, rfl, rfl, rfl, rfl, rfl, trivial⟩, by omega, i, (i + j) / 2, by omega, by omega, rfl, rfl, rfl, hlo, fun q y hy hq => ?_⟩
      by_cases h3 : cv y < 0
      · exact absurd (hmono _ q x y hx hy hq h3) h2
      · omega
  · obtain rfl : i = j := by omega
    have hpl : plc l cv = i := countP_cut _ l i hj (fun q x hx hq => decide_eq_true (hlo q x hx hq)) (fun q x hx hq => decide_eq_false (by have := hhi q x hx hq; omega))
    refine awp_exit (hK1 _ _ (awp_rs ?_))
    refine ao_r (rig_move rfl rfl) rfl (ao_r (rig_move rfl rfl) rfl (ao_r (rig_move rfl rfl) rfl (ao_r (rig_lss rfl rfl rfl) rfl (ao_r (rig_move rfl rfl) rfl (?_)))))
    by_cases hi : i < l.length
    · obtain ⟨x, hx⟩ := get_lt hi
      obtain ⟨b, off, rfl, hxc⟩ := row _ x hx
      rw [decide_eq_true (show (i : Int) < l.length by omega)]
      refine ao_on rfl rfl (ao_r (rig_move rfl rfl) rfl (ao_on rfl rfl (ao_r (rig_move rfl rfl) rfl (ao_on rfl rfl (ao_r (rig_move rfl rfl) rfl (ao_on rfl rfl (ao_r (rig_ix i rfl rfl rfl Tryz.underlying23 Tryz.sizeOf32 rfl rfl hi) rfl (ao_on rfl rfl (ao_r (rig_loadN (vs := encT x) rfl rfl Tryz.isAgg32 Tryz.sizeOf32 hxc) rfl (ao_on rfl rfl (ao_r (rig_move rfl rfl) rfl ?_)))))))))))
      refine ao_on rfl rfl (ao_r (rig_callv (vs := [x.val, tv]) rfl rfl rfl eg (by simpa using (hp x (List.mem_of_getElem? hx)).le hm)) rfl (ao_on rfl rfl (ao_r (rig_eql rfl rfl rfl) rfl (ao_r (rig_pickT rfl rfl rfl) rfl (ao_r (rig_assign rfl rfl) rfl (ao_r (rig_assign rfl rfl) rfl (ao_nil ?_)))))))
      refine awp_ret ⟨_, res2 Tryz.results48 rfl rfl, ?_, HpLe.refl _⟩
      rw [hpl, fnd, hx]
    · rw [decide_eq_false (show ¬ (i : Int) < l.length by omega)]
      refine ao_no rfl rfl rfl rfl (ao_no rfl rfl rfl rfl (ao_no rfl rfl rfl rfl (ao_no rfl rfl rfl rfl (ao_no rfl rfl rfl rfl (ao_no rfl rfl rfl rfl (ao_no rfl rfl rfl rfl (ao_no rfl rfl rfl rfl (ao_r (rig_pickF rfl rfl rfl) rfl (ao_r (rig_assign rfl rfl) rfl (ao_r (rig_assign rfl rfl) rfl (ao_nil ?_)))))))))))
      refine awp_ret ⟨_, res2 Tryz.results48 rfl rfl, ?_, HpLe.refl _⟩
      rw [hpl, fnd, List.getElem?_eq_none (by omega)]
def idxS (p : ByteArray → Bool) (l : List ByteArray) : Int := if l.any p then (l.findIdx p : Nat) else -1
theorem any_take_noneS {p : ByteArray → Bool} {l : List ByteArray} {i : Nat} {x : ByteArray} (hx : l[i]? = some x) (h : (l.take i).any p = false) : (l.take (i + 1)).any p = p x := by
  obtain ⟨h1, h2⟩ := List.getElem?_eq_some_iff.1 hx
  rw [List.take_succ_eq_append_getElem h1, h2, List.any_append, h]
  simp
theorem idxS_hit {p : ByteArray → Bool} {l : List ByteArray} {i : Nat} {x : ByteArray} (hx : l[i]? = some x) (h : (l.take i).any p = false) (hp : p x = true) : idxS p l = i := by
  obtain ⟨h1, h2⟩ := List.getElem?_eq_some_iff.1 hx
  have ha : l.any p = true := List.any_eq_true.2 ⟨x, List.mem_of_getElem? hx, hp⟩
  rw [idxS, if_pos ha]
  congr 1
  rw [List.findIdx_eq h1]
  refine ⟨by rw [h2]; exact hp, fun j hj => ?_⟩
  rw [Bool.eq_false_iff]
  intro hpj
  rw [Bool.eq_false_iff] at h
  refine h (List.any_eq_true.2 ⟨l[j], ?_, hpj⟩)
  exact List.mem_of_getElem? (i := j) (by rw [List.getElem?_take_of_lt hj, List.getElem?_eq_getElem (by omega)])
theorem ez60 : Enters Tryz.prog 60 := enters_of Tryz.func60 (by kernel_rfl) rfl
set_option maxRecDepth 100000 in
theorem Fz60 (m : Hp) (va : Value) (g : FuncId) (cb : Array Value) (l : List ByteArray) (p : ByteArray → Bool) (ha : Strs m va l) (hl : l.length ≤ 1099511627776) (eg : Enters Tryz.prog g) (hp : ∀ x ∈ l, RC Tryz.prog g (#[.string x] ++ cb) m (.bool (p x))) : RC Tryz.prog 60 #[va, .func (.func g) #[] cb] m (.int .i64 (idxS p l)) := by
  obtain ⟨A, ca, rfl, _⟩ := RdSl.form encS_len (by decide) ha
  refine rc_of_gc fun m1 hm => gc_intro (vs := [_, _]) Tryz.func60 rfl Tryz.ntmps60 (by simp) ?_
  have ha' := RdSl.le ha hm
  refine awp_rs (ao_r (rig_assign rfl rfl) rfl (ao_nil ?_))
  refine awp_sk fun K1 hK1 => awp_rs ?_
  refine ao_r (rig_move rfl rfl) rfl (ao_r (rig_lenSl rfl rfl Tryz.underlying27) rfl (ao_r (rig_move rfl rfl) rfl (ao_nil ?_)))
  refine awp_block ?_
  refine awp_le [(0, .slice A l.length ca), (1, .func (.func g) #[] cb), (7, .int .i64 l.length), (8, .int .i64 (0 : Nat))] ⟨rfl, rfl, rfl, rfl, trivial⟩ ?_
  refine awp_loop (fun k r mm => ∃ i : Nat, i ≤ l.length ∧ k = l.length - i ∧ r = [(0, .slice A l.length ca), (1, .func (.func g) #[] cb), (7, .int .i64 l.length), (8, .int .i64 i)] ∧ mm = m1 ∧ (l.take i).any p = false) _ ⟨0, by omega, rfl, rfl, rfl, rfl⟩ ?_
  rintro k r mm ⟨i, hi, rfl, rfl, rfl, hj⟩
  refine awp_rs (ao_r (rig_lss rfl rfl rfl) rfl (ao_nil ?_))
  refine awp_sk fun K2 hK2 => ?_
  refine awp_if rfl (fun h => ?_) (fun h => ?_)
  · refine awp_skip (hK2 _ _ (awp_sk fun K3 hK3 => awp_block (awp_rs ?_)))
    obtain ⟨x, hx⟩ := get_lt (l := l) (i := i) (by omega)
    obtain ⟨b, off, cap', e, hxc⟩ := Strs.get ha' hx
    simp only [Value.slice.injEq] at e
    obtain ⟨rfl, _, rfl⟩ := e
    refine ao_r (rig_move rfl rfl) rfl (ao_r (rig_assign rfl rfl) rfl (ao_nil ?_))
    refine awp_rs ?_
    refine ao_r (rig_move rfl rfl) rfl (ao_r (rig_move rfl rfl) rfl (ao_r (rig_move rfl rfl) rfl (ao_r (rig_ix i rfl rfl rfl Tryz.underlying27 Tryz.sizeOf9 rfl rfl (by omega)) rfl (ao_r (rig_load1 rfl rfl Tryz.isAgg9 hxc) rfl ?_))))
    refine ao_r (rig_callv (vs := [.string x]) rfl rfl rfl eg (by simpa using (hp x (List.mem_of_getElem? hx)).le hm)) rfl (ao_nil ?_)
    refine awp_cond rfl (fun h2 => ?_) (fun h2 => ?_)
    · refine awp_rs (ao_r (rig_move rfl rfl) rfl (ao_r (rig_assign rfl rfl) rfl (ao_nil ?_)))
      refine awp_ret ⟨_, res1 Tryz.results60 rfl, ?_, HpLe.refl _⟩
      rw [idxS_hit hx hj h2]
    · refine awp_skip (hK3 _ _ (awp_region ?_))
      refine ao_r (rig_add rfl rfl rfl (w64 _ (by omega) (by omega))) rfl (ao_r (rig_move rfl rfl) rfl (ao_nil ?_))
      exact ⟨[(0, .slice _ l.length _), (1, .func (.func g) #[] cb), (7, .int .i64 l.length), (8, .int .i64 (i + 1 : Nat))], _, ⟨rfl, rfl, rfl, rfl, trivial⟩, by omega, i + 1, by omega, rfl, rfl, rfl, by rw [any_take_noneS hx hj, h2]⟩
  · refine awp_exit (hK1 _ _ (awp_rs (ao_r (rig_assign rfl rfl) rfl (ao_nil ?_))))
    refine awp_ret ⟨_, res1 Tryz.results60 rfl, ?_, HpLe.refl _⟩
    rw [List.take_of_length_le (by omega)] at hj
    rw [idxS, if_neg (by simp [hj])]

end Go.Proofs.YtmofaabndjnhjaaGreat
/- The miner: search, add, Add. -/
set_option linter.unusedVariables false
namespace Go.Proofs.YtmofaabndjnhjaaGreat
open Go Go.Aw Go.Pl Go.RowKit
theorem ez49 : Enters Tryz.prog 49 := enters_of Tryz.func49 (by kernel_rfl) rfl
set_option maxRecDepth 100000 in
theorem Fz49 (m : Hp) (a : Tm) (vb : Value) (tb : List ByteArray) (ha : a.Ok m) (hb : Strs m vb tb) (hl : a.toks.length ≤ 1099511627776) : RC Tryz.prog 49 #[a.val, vb] m (.int .i64 (cmpTk a.toks tb)) := by
  obtain ⟨B, cb, rfl, _⟩ := RdSl.form encS_len (by decide) hb
  refine rc_of_gc fun m1 hm => gc_intro (vs := [_, _]) Tryz.func49 rfl Tryz.ntmps49 (by simp) ?_
  refine awp_rs ?_
  refine ao_x (ex_boxR rfl rfl) rfl fun v m2 ⟨p2, hv, hl2, hc2⟩ => ?_
  subst hv
  obtain ⟨a0, a1, _⟩ := hc2
  have ha' := ha.le (hm.trans hl2)
  have hb' := RdSl.le hb (hm.trans hl2)
  have na := ha.len
  refine ao_r (rig_assign rfl rfl) rfl (ao_nil ?_)
  rw [U_one m2]
  rw [U_one m2] at a0 a1 ha' hb'
  refine awp_ds (.q 0 (.q 1 (.q 2 (.q 3 (.q 4 (.q 5 (.q 6 (.q 7 (.q 8 (.q 9 (.s 10 (.q 11 (.q 12 .fin))))))))))))) [] (by kernel_rfl) (by kernel_rfl) ?_
  refine oq rfl (rig_fieldAddr rfl rfl Tryz.underlying32 rfl Tryz.sizeOf27 rfl) rfl (oq rfl (rig_load1 rfl rfl Tryz.isAgg27 a0) rfl (oq rfl (rig_lenSl rfl rfl Tryz.underlying27) rfl (oq rfl (rig_move rfl rfl) rfl (oq rfl (rig_lenSl rfl rfl Tryz.underlying27) rfl ?_))))
  refine oq rfl (rig_call rfl rfl M.ez42 (M.Fz42 _ _ _)) rfl ?_
  refine oq rfl (rig_fieldAddr rfl rfl Tryz.underlying32 rfl Tryz.sizeOf27 rfl) rfl (oq rfl (rig_load1 rfl rfl Tryz.isAgg27 a0) rfl (oq rfl (rig_move rfl rfl) rfl (oq rfl (rig_call rfl rfl M.ez43 (M.Fz43 _ _ _ a.toks tb ha' hb' hl)) rfl ?_)))
  refine os rfl (ex_buildSlice (cs := #[.int .i64 (cmpI a.n tb.length), .int .i64 (cmpSL a.toks tb)]) rfl (Dj_single m2) rfl Tryz.underlying74 Tryz.sizeOf3 Tryz.zeroValue3 (by decide) (by decide) (by kernel_rfl)) rfl fun w2 m4 ⟨b2, hw2, hm4, hD2⟩ => ⟨fun _ => by subst hm4; exact U_le_tail hD2, ?_⟩
  subst hw2 hm4
  have ho : M.orInts (U [Go.Aw.one b2 (.cells #[.int .i64 (cmpI a.n tb.length), .int .i64 (cmpSL a.toks tb)] 3 (0, 0)), m2]) (.slice (some ⟨b2, 0, none⟩) 2 2) [cmpI a.n tb.length, cmpSL a.toks tb] :=
    ⟨_, 2, 2, rfl, rfl, .inr ⟨b2, 0, rfl, (cellsAt_one b2 _ 3).le U_le_head⟩⟩
  refine oq rfl (rig_call rfl rfl M.ez41 (M.Fz41 _ _ _ ho (by simp))) rfl (oq rfl (rig_assign rfl rfl) rfl (od_fin ?_))
  refine awp_ret ⟨_, res1 Tryz.results49 rfl, ?_, hl2.trans (le_at 1 hD2 rfl)⟩
  rw [cmpTk, na]
theorem plc_keys (l : List Tm) (ts : List ByteArray) : plc l (fun x => cmpTk x.toks ts) = plT (keys l) ts := by
  rw [plc, plT, keys, List.countP_map]; rfl
def fndT (l : List Tm) (ts : List ByteArray) : Bool := fnd l (fun x => cmpTk x.toks ts) (plT (keys l) ts)
theorem ascT_mono {l : List Tm} {ts : List ByteArray} (h : AscT (keys l)) (a b : Nat) (x y : Tm) (hx : l[a]? = some x) (hy : l[b]? = some y) (hab : a ≤ b) (hl : cmpTk y.toks ts < 0) : cmpTk x.toks ts < 0 := by
  rcases Nat.eq_or_lt_of_le hab with rfl | hlt
  · rw [hx] at hy
    obtain rfl := Option.some.inj hy
    exact hl
  · obtain ⟨h1, e1⟩ := List.getElem?_eq_some_iff.1 (keys_get hx)
    obtain ⟨h2, e2⟩ := List.getElem?_eq_some_iff.1 (keys_get hy)
    have := List.pairwise_iff_getElem.1 h a b h1 h2 hlt
    rw [e1, e2] at this
    exact tk_trans this hl
theorem ez27 : Enters Tryz.prog 27 := enters_of Tryz.func27 (by kernel_rfl) rfl
set_option maxRecDepth 100000 in
theorem Fz27 (m : Hp) (va vb : Value) (l : List Tm) (tb : List ByteArray) (ha : Tms m va l) (hb : Strs m vb tb) (hok : ∀ t ∈ l, t.Ok m ∧ t.toks.length ≤ 16777216) (hl : l.length ≤ 1099511627776) (hA : AscT (keys l)) :
    RC Tryz.prog 27 #[va, vb] m (.tuple #[.int .i64 (plT (keys l) tb : Nat), .bool (fndT l tb)]) := by
  obtain ⟨A, ca, rfl, _⟩ := RdSl.form encT_len (by decide) ha
  obtain ⟨B, cb, rfl, _⟩ := RdSl.form encS_len (by decide) hb
  have h82 := Fz48 m _ _ 49 l (fun x => cmpTk x.toks tb) ha hl ez49 (fun x hx => Fz49 m x _ tb (hok x hx).1 hb (by have := (hok x hx).2; omega)) (ascT_mono hA)
  rw [plc_keys] at h82
  refine rc_of_gc fun m1 hm => gc_intro (vs := [_, _]) Tryz.func27 rfl Tryz.ntmps27 (by simp) ?_
  refine awp_rs (ao_r (rig_assign rfl rfl) rfl (ao_r (rig_assign rfl rfl) rfl (ao_nil ?_)))
  refine awp_rs ?_
  refine ao_r (rig_move rfl rfl) rfl (ao_r (rig_move rfl rfl) rfl (ao_r (rig_call rfl rfl ez48 (h82.le hm)) rfl (ao_r (rig_extract rfl rfl rfl) rfl (ao_r (rig_extract rfl rfl rfl) rfl (ao_r (rig_assign rfl rfl) rfl (ao_r (rig_assign rfl rfl) rfl (ao_nil ?_)))))))
  exact awp_ret ⟨_, res2 Tryz.results27 rfl rfl, rfl, HpLe.refl _⟩
theorem fndT_true {l : List Tm} {ts : List ByteArray} (h : fndT l ts = true) : ∃ x, l[plT (keys l) ts]? = some x ∧ x.toks = ts ∧ (keys l)[plT (keys l) ts]? = some (ts, x.cnt) := by
  unfold fndT fnd at h
  cases hx : l[plT (keys l) ts]? with
  | none => rw [hx] at h; cases h
  | some x =>
    rw [hx] at h
    have e := cmpTk_zero.1 (of_decide_eq_true h)
    exact ⟨x, rfl, e, by rw [keys_get hx, Tm.key, e]⟩
theorem fndT_false {l : List Tm} {ts : List ByteArray} (h : fndT l ts = false) : ∀ x, (keys l)[plT (keys l) ts]? ≠ some (ts, x) := fun x hx => by
  unfold fndT fnd at h
  cases hy : l[plT (keys l) ts]? with
  | none =>
    have h2 : (keys l)[plT (keys l) ts]? = none := by
      have h3 := List.getElem?_eq_none_iff.1 hy
      exact List.getElem?_eq_none (by rw [keys, List.length_map]; exact h3)
    rw [h2] at hx; cases hx
  | some y =>
    rw [hy] at h
    rw [keys_get hy] at hx
    have e : y.toks = ts := congrArg Prod.fst (Option.some.inj hx)
    exact of_decide_eq_false h (cmpTk_zero.2 e)
/-- The same tokens in the same place. -/
def SameH (t t' : Tm) : Prop := t.A = t'.A ∧ t.n = t'.n ∧ t.cap = t'.cap ∧ t.toks = t'.toks
theorem SameH.refl (t : Tm) : SameH t t := ⟨rfl, rfl, rfl, rfl⟩
theorem SameH.ok {t t' : Tm} (h : SameH t t') {F : Hp} (hk : t'.Ok F) : t.Ok F := by
  obtain ⟨h1, h2, h3, h4⟩ := h
  unfold Tm.Ok at *
  rw [h1, h2, h3, h4]; exact hk
/-- The elements that are handed back: old ones, or in new memory. -/
def OldNew (F m' : Hp) (l out : List Tm) : Prop := ∃ Y, HpLe Y m' ∧ (∀ k, Y k ≠ none → F k = none) ∧ ∀ t ∈ out, (∃ t' ∈ l, SameH t t') ∨ t.Ok Y
theorem OldNew.ok {F m' : Hp} {l out : List Tm} (h : OldNew F m' l out) (hF : HpLe F m') (hl : ∀ t ∈ l, t.Ok F) : ∀ t ∈ out, t.Ok m' := fun t ht => by
  obtain ⟨Y, hY, _, hT⟩ := h
  rcases hT t ht with ⟨t', ht', hs⟩ | h
  · exact hs.ok ((hl t' ht').le hF)
  · exact h.le hY
theorem OldNew.same {F m' : Hp} {l out : List Tm} (h : ∀ t ∈ out, ∃ t' ∈ l, SameH t t') : OldNew F m' l out := ⟨hp0, fun k o e => (by cases e), fun k hk => absurd rfl hk, fun t ht => .inl (h t ht)⟩
theorem ez32 : Enters Tryz.prog 32 := enters_of Tryz.func32 (by kernel_rfl) rfl
set_option maxHeartbeats 2000000 in
set_option maxRecDepth 100000 in
theorem Fz32 (c F : Hp) (v vt : Value) (l : List Tm) (ts : List ByteArray) (n : Int) (hO : Own 32 2 c v (rows encT l)) (hD : Dj [c, F]) (hok : ∀ t ∈ l, t.Ok F ∧ t.toks.length ≤ 16777216 ∧ Cnt t) (hA : AscT (keys l)) (hl : l.length ≤ 1048576) (ht : Strs F vt ts) (htl : ts.length ≤ 1048576) (hn : okC n) :
    GC Tryz.prog 32 #[v, vt, .int .i64 n] (U [c, F]) (fun u m' => ∃ out c' F', Own 32 2 c' u (rows encT out) ∧ m' = U [c', F'] ∧ Dj [c', F'] ∧ HpLe F F' ∧ OldNew (U [c, F]) F' l out ∧ keys out = addE ts n (keys l)) := by
  obtain ⟨A, cap, rfl⟩ := hO.len encT_len (by decide)
  obtain ⟨B, cb, rfl, _⟩ := RdSl.form encS_len (by decide) ht
  refine gc_intro (vs := [_, _, _]) Tryz.func32 rfl Tryz.ntmps32 (by simp) ?_
  refine awp_rs (ao_r (rig_assign rfl rfl) rfl (ao_nil ?_))
  have hF := le_at 1 hD rfl
  have h49 := Fz27 (U [c, F]) _ _ l ts (RdSl.le hO.rd (le_at 0 hD rfl)) (RdSl.le ht hF) (fun t h => ⟨(hok t h).1.le hF, (hok t h).2.1⟩) (by omega) hA
  refine awp_rs ?_
  refine ao_r (rig_move rfl rfl) rfl (ao_r (rig_move rfl rfl) rfl (ao_r (rig_call rfl rfl ez27 h49) rfl (ao_r (rig_move rfl rfl) rfl (ao_r (rig_extract rfl rfl rfl) rfl (ao_r (rig_extract rfl rfl rfl) rfl (ao_r (rig_assign rfl rfl) rfl (ao_r (rig_assign rfl rfl) rfl (ao_nil ?_))))))))
  have hpl : plT (keys l) ts ≤ l.length := by have := plT_le (keys l) ts; rwa [keys, List.length_map] at this
  refine awp_sk fun K1 hK1 => awp_rs (ao_r (rig_move rfl rfl) rfl (ao_r (rig_not rfl rfl) rfl (ao_nil ?_)))
  cases hf : fndT l ts with
  | false =>
    refine awp_true rfl (awp_rs ?_)
    refine ao_r (rig_move rfl rfl) rfl (ao_r (rig_move rfl rfl) rfl (ao_r (rig_move rfl rfl) rfl ?_))
    refine ao_x (ex_call rfl rfl ez54 (Fz54 (U [c, F]) _ ts (RdSl.le ht hF) htl)) rfl fun u2 m2 hfr => ?_
    obtain ⟨c2, F2, hD2, hm2, hO2⟩ := Fresh.at hD hfr
    subst hm2
    obtain ⟨A2, cap2, rfl⟩ := hO2.len encS_len (by decide)
    refine ao_r (rig_move rfl rfl) rfl (ao_r (rig_build (pl := #[(0, 1), (1, 1)]) (cs := #[.slice A2 ts.length cap2, .int .i64 n]) rfl rfl Tryz.underlying32 Tryz.zeroValue32 (fun w => by kernel_rfl) rfl) rfl ?_)
    refine ao_x (ex_buildSlice rfl hD2 rfl Tryz.underlying23 Tryz.sizeOf32 Tryz.zeroValue32 (by decide) (by decide) (fill_one rfl (rangeMap_size _ _))) rfl fun u3 m3 ⟨b3, hu3, hm3, hD3⟩ => ?_
    subst hu3 hm3
    have hp3 : U [Go.Aw.one b3 (.cells #[.slice A2 ts.length cap2, .int .i64 n] 32 (0, 0)), c2, F2, c, F] = U [c, Go.Aw.one b3 (.cells #[.slice A2 ts.length cap2, .int .i64 n] 32 (0, 0)), c2, F2, F] ∧ Dj [c, Go.Aw.one b3 (.cells #[.slice A2 ts.length cap2, .int .i64 n] 32 (0, 0)), c2, F2, F] := U_pm [3, 0, 1, 2, 4] rfl hD3
    obtain ⟨G, eG, hDG, hFG, hcG, hbG⟩ : ∃ G, U [Go.Aw.one b3 (.cells #[.slice A2 ts.length cap2, .int .i64 n] 32 (0, 0)), c2, F2, c, F] = U [c, G] ∧ Dj [c, G] ∧ HpLe F G ∧ HpLe c2 G ∧ G b3 = some (.cells #[.slice A2 ts.length cap2, .int .i64 n] 32 (0, 0)) :=
      ⟨U [Go.Aw.one b3 (.cells #[.slice A2 ts.length cap2, .int .i64 n] 32 (0, 0)), c2, F2, F], hp3.1.trans (U_flat [c] _).symm, Dj_unflat (A := [c]) hp3.2, le_at 3 hp3.2.2 rfl, le_at 1 hp3.2.2 rfl, U_head (Go.Aw.one_self _ _)⟩
    have hins := Fz53 c G (.slice A l.length cap) l ⟨A2, ts.length, cap2, ts, n⟩ (plT (keys l) ts) b3 hO hDG hpl (by omega) hbG
    rw [← eG] at hins
    refine ao_x (ex_call rfl rfl ez53 hins) rfl fun u4 m4 ⟨c', F', hO', hm4, hD', hF'⟩ => ?_
    subst hm4
    refine ao_r (rig_assign rfl rfl) rfl (ao_nil ?_)
    refine awp_ret ⟨_, res1 Tryz.results32 rfl, _, c', F', hO', rfl, hD', hFG.trans hF', ⟨c2, hcG.trans hF', fun k hk => ?_, fun t htm => ?_⟩, ?_⟩
    · have h5 := hD2.1 k hk
      change U [F2, c, F] k = none at h5
      simp only [U, Option.or_eq_none_iff] at h5 ⊢
      exact h5.2
    · rcases List.mem_append.1 htm with h | h
      · exact .inl ⟨t, List.mem_of_mem_take h, .refl t⟩
      · rcases List.mem_cons.1 h with h | h
        · rw [h]; exact .inr hO2.rd
        · exact .inl ⟨t, List.mem_of_mem_drop h, .refl t⟩
    · rw [addE_new hA (fndT_false hf), keys, keys, List.map_append, List.map_cons, List.map_take, List.map_drop]; rfl
  | true =>
    obtain ⟨x, hx, hxt, hxk⟩ := fndT_true hf
    have hxm := List.mem_of_getElem? hx
    have hil := (List.getElem?_eq_some_iff.1 hx).1
    have hcx := (hok x hxm).2.2
    refine awp_false rfl (awp_skip (hK1 _ _ (awp_rs ?_)))
    obtain ⟨g, cap3, sp, hv, rfl, hsp, hnc, hcm⟩ := hO.some_ encT_len (by decide) (by omega)
    simp only [Value.slice.injEq] at hv
    obtain ⟨rfl, _, rfl⟩ := hv
    have hrow : Tms (U [Go.Aw.one g (.cells (rows encT l ++ sp).toArray 32 (0, 0)), F]) (.slice (some ⟨g, 0, none⟩) l.length cap) l := RdSl.le hO.rd (le_at 0 hD rfl)
    obtain ⟨b8, o8, cap8, e8, hyc⟩ := Tms.get hrow hx
    simp only [Value.slice.injEq, Option.some.injEq, Addr.mk.injEq] at e8
    obtain ⟨⟨rfl, rfl, _⟩, _, rfl⟩ := e8
    obtain ⟨y0, y1, _⟩ := id hyc
    refine ao_r (rig_move rfl rfl) rfl (ao_r (rig_move rfl rfl) rfl (ao_r (rig_move rfl rfl) rfl (ao_r (rig_move rfl rfl) rfl (ao_r (rig_ix (plT (keys l) ts) rfl rfl rfl Tryz.underlying23 Tryz.sizeOf32 rfl rfl hil) rfl (ao_r (rig_fieldAddr rfl rfl Tryz.underlying32 rfl Tryz.sizeOf3 rfl) rfl (ao_r (rig_load1 rfl rfl Tryz.isAgg3 y1) rfl (ao_r (rig_move rfl rfl) rfl ?_)))))))
    refine ao_r (rig_call rfl rfl ez36 (Fz36 _ x.cnt n (by have h0 : 0 ≤ x.cnt := hcx.1; omega) hn.1 hn.2)) rfl (ao_r (rig_ix (plT (keys l) ts) rfl rfl rfl Tryz.underlying23 Tryz.sizeOf32 rfl rfl hil) rfl (ao_r (rig_fieldAddr rfl rfl Tryz.underlying32 rfl Tryz.sizeOf3 rfl) rfl ?_))
    refine ao_x0 (ex_store (i := 0) rfl hD rfl rfl Tryz.sizeOf3 (by simp [Value.cells, Value.oneCell']) rfl (by simp [Value.cells, rows_length encT_len]; omega)) fun u m1 ⟨_, hm, hD4⟩ => ao_nil ?_
    subst hm
    have erow : putR (rows encT l ++ sp).toArray (0 + plT (keys l) ts * 2 + 1) [.int .i64 (sumS x.cnt n)] = (rows encT (l.set (plT (keys l) ts) { x with cnt := sumS x.cnt n }) ++ sp).toArray := by
      rw [Nat.zero_add]; exact putR_cnt l _ x _ sp hx
    have key : ∃ mm, mm = U [Go.Aw.one g (.cells (rows encT (l.set (plT (keys l) ts) { x with cnt := sumS x.cnt n }) ++ sp).toArray 32 (0, 0)), F] ∧ Dj [Go.Aw.one g (.cells (rows encT (l.set (plT (keys l) ts) { x with cnt := sumS x.cnt n }) ++ sp).toArray 32 (0, 0)), F] ∧ mm = U ([Go.Aw.one g (.cells (rows encT l ++ sp).toArray 32 (0, 0)), F].set 0 (Go.Aw.one g (.cells (putR (rows encT l ++ sp).toArray (0 + plT (keys l) ts * 2 + 1) [.int .i64 (sumS x.cnt n)]) 32 (0, 0)))) :=
      ⟨_, rfl, by have := hD4; rw [List.set_cons_zero] at this; rw [← erow]; exact this, by rw [erow]; rfl⟩
    obtain ⟨mm, hmm, hD5, hmm2⟩ := key
    have hln : (l.set (plT (keys l) ts) { x with cnt := sumS x.cnt n }).length = l.length := by simp
    refine awp_rs (ao_r (rig_move rfl rfl) rfl (ao_r (rig_assign rfl rfl) rfl (ao_nil ?_)))
    refine awp_ret ⟨_, res1 Tryz.results32 rfl, l.set (plT (keys l) ts) { x with cnt := sumS x.cnt n }, _, F, ?_, hmm2.symm.trans hmm, hD5, HpLe.refl _, OldNew.same fun t htm => ?_, ?_⟩
    · rw [← hln]
      refine Own.mk_ encT_len ?_ (by rw [hln]; exact hnc) hcm
      rw [List.length_append, rows_length encT_len] at hsp ⊢
      rw [hln]; exact hsp
    · rcases List.mem_or_eq_of_mem_set htm with h | h
      · exact ⟨t, h, .refl t⟩
      · rw [h]; exact ⟨x, hxm, rfl, rfl, rfl, rfl⟩
    · rw [addE_found hA hxk, keys, List.map_set]
      show _ = (keys l).set _ _
      congr 1
      show (x.toks, sumS x.cnt n) = _
      rw [hxt]; rfl
end Go.Proofs.YtmofaabndjnhjaaGreat
/- The miner: Delete, Add, Remove, Templates. -/
set_option linter.unusedVariables false
set_option linter.unusedSimpArgs false
namespace Go.Proofs.YtmofaabndjnhjaaGreat
open Go Go.Aw Go.Pl Go.RowKit
theorem rig_slLHs {P : Program} {o : Oper} {r : Env} {m : Hp} {T E : TypeId} {x y z : Operand} {g off n cap s : Nat} {k k2 : IntKind} {i i2 : Int} (j j2 d : Nat) (h : o.op = .slice T x (some y) (some z) none) (ex : ev r x = some (.slice (some ⟨g, off, none⟩) n cap)) (ey : ev r y = some (.int k i)) (ez : ev r z = some (.int k2 i2)) (hT : P.underlying T = some (.slice E)) (hz : ∀ w, (sizeOf E).run P w = .ok s w) (hi : i = j) (hi2 : i2 = j2) (hj : j ≤ j2) (hj2 : j2 ≤ cap) (hc : j < cap) (hd : j2 - j = d) : Rig P o r m (.slice (some ⟨g, off + j * s, none⟩) d (cap - j)) := by
  have := rig_slLH (P := P) (r := r) (m := m) j j2 h ex ey ez hT hz hi hi2 hj hj2
  rw [if_neg (by omega), Option.map_some, Addr.add_lit, hd] at this
  exact this
theorem zeros33 : (Builtin.zeroCells (Value.agg #[.slice none 0 0, .int .i64 0]).cells (0 + 1)).toList = [Value.slice none 0 0, .int .i64 0] := by kernel_rfl
theorem new_beside' {y m : Hp} {L : List Hp} (hn : ∀ k, y k ≠ none → U L k = none) (hm : HpLe m (U L)) : ∀ k, y k ≠ none → m k = none := fun k hk => by
  have := hn k hk
  cases h : m k with
  | none => rfl
  | some o => rw [hm k o h] at this; cases this
theorem ez28 : Enters Tryz.prog 28 := enters_of Tryz.func28 (by kernel_rfl) rfl
set_option maxHeartbeats 2000000 in
set_option maxRecDepth 100000 in
theorem Fz28 (c F : Hp) (v : Value) (l : List Tm) (i : Nat) (hO : Own 32 2 c v (rows encT l)) (hD : Dj [c, F]) (hi : i < l.length) (hl : l.length ≤ 1048576) :
    GC Tryz.prog 28 #[v, .int .i64 i, .int .i64 (i + 1 : Nat)] (U [c, F]) (fun u m' => ∃ c', Own 32 2 c' u (rows encT (l.eraseIdx i)) ∧ m' = U [c', F] ∧ Dj [c', F]) := by
  obtain ⟨g, cap, sp, rfl, rfl, hsp, hnc, hcm⟩ := hO.some_ encT_len (by decide) (by omega)
  refine gc_intro (vs := [_, _, _]) Tryz.func28 rfl Tryz.ntmps28 (by simp) ?_
  refine awp_rs (ao_r (rig_assign rfl rfl) rfl (ao_nil ?_))
  refine awp_rs ?_
  refine ao_r (rig_move rfl rfl) rfl (ao_r (rig_move rfl rfl) rfl (ao_r (rig_move rfl rfl) rfl (ao_r (rig_move rfl rfl) rfl (ao_r (rig_lenSl rfl rfl Tryz.underlying23) rfl (ao_r (rig_slLHM i (i + 1) l.length rfl rfl rfl rfl rfl Tryz.underlying23 Tryz.sizeOf32 rfl rfl rfl (by omega) (by omega) (by omega)) rfl (ao_nil ?_))))))
  refine awp_sk fun K1 hK1 => awp_rs (ao_r (rig_move rfl rfl) rfl (ao_r (rig_move rfl rfl) rfl (ao_r (rig_eql rfl rfl rfl) rfl (ao_nil ?_))))
  refine awp_if rfl (fun h => by omega) (fun h => ?_)
  refine awp_skip (hK1 _ _ (awp_rs (ao_r (rig_move rfl rfl) rfl (ao_r (rig_lenSl rfl rfl Tryz.underlying23) rfl (ao_r (rig_assign rfl rfl) rfl (ao_nil ?_))))))
  have hsrc : Go.Aw.Src (U [Go.Aw.one g (.cells (rows encT l ++ sp).toArray 32 (0, 0)), F]) 2 (.slice (some ⟨g, 0 + (i + 1) * 2, none⟩) (l.length - (i + 1)) (cap - (i + 1))) (rows encT (l.drop (i + 1))) := by
    refine ⟨_, _, _, rfl, by rw [rows_length encT_len, List.length_drop], ?_⟩
    by_cases h0 : l.length - (i + 1) = 0
    · exact .inl h0
    · refine .inr ⟨g, _, rfl, ?_⟩
      have h1 : CellsAt (Go.Aw.one g (.cells (rows encT l ++ sp).toArray 32 (0, 0))) g 0 (rows encT l ++ sp) := cellsAt_one g (rows encT l ++ sp).toArray 32
      refine (h1.sub (us := rows encT (l.drop (i + 1))) ((i + 1) * 2) fun j q hj => ?_).le (le_at 0 hD rfl)
      have e : rows encT l = rows encT (l.take (i + 1)) ++ rows encT (l.drop (i + 1)) := by rw [← rows_append, List.take_append_drop]
      have hl1 : (rows encT (l.take (i + 1))).length = (i + 1) * 2 := by rw [rows_length encT_len, List.length_take, Nat.min_eq_left (by omega)]
      rw [e, List.append_assoc, List.getElem?_append_right (by omega), hl1, Nat.add_sub_cancel_left, List.getElem?_append_left (List.getElem?_eq_some_iff.1 hj).1]
      exact hj
  have hrl : (rows encT (l.drop (i + 1))).length = (l.length - (i + 1)) * 2 := by rw [rows_length encT_len, List.length_drop]
  have htot : (rows encT l ++ sp).toArray.size = cap * 2 := by rw [List.size_toArray]; exact hsp
  have hcap : i * 2 + (l.length - (i + 1)) * 2 = (l.length - 1) * 2 := by omega
  refine awp_mid (fun r m' => ∃ R, r = [(0, .slice (some ⟨g, 0, none⟩) (l.length - 1) cap), (7, .int .i64 l.length)] ∧ m' = U [Go.Aw.one g (.cells (rows encT (l.eraseIdx i) ++ R).toArray 32 (0, 0)), F] ∧ Dj [Go.Aw.one g (.cells (rows encT (l.eraseIdx i) ++ R).toArray 32 (0, 0)), F] ∧ (rows encT (l.eraseIdx i) ++ R).length = cap * 2) ?_ ?_
  · refine awp_draw (.q 0 (.q 1 (.q 2 (.q 3 (.q 4 (.q 5 (.s 6 (.q 7 .fin)))))))) [6] (by kernel_rfl) (by kernel_rfl) ?_
    refine oq rfl (rig_move rfl rfl) rfl (oq rfl (rig_move rfl rfl) rfl (oq rfl (rig_slH i rfl rfl rfl Tryz.underlying23 Tryz.sizeOf32 rfl (by omega)) rfl (oq rfl (rig_move rfl rfl) rfl (oq rfl (rig_move rfl rfl) rfl ?_))))
    by_cases hce : cap = i + 1
    · have hd0 : l.drop (i + 1) = [] := List.drop_of_length_le (by omega)
      have hsl := fun {r m o} (h : o.op = _) ex ey => rig_slL (P := Tryz.prog) (r := r) (m := m) (o := o) (A := some ⟨g, 0, none⟩) (n := l.length) (cap := cap) (i + 1) h ex ey Tryz.underlying23 Tryz.sizeOf32 (i := ((i + 1 : Nat) : Int)) (k := .i64) (x := .tmp 23) (y := .tmp 24) rfl (by omega)
      refine oq rfl (hsl rfl rfl rfl) rfl ?_
      have hsrc0 : Go.Aw.Src (U [Go.Aw.one g (.cells (rows encT l ++ sp).toArray 32 (0, 0)), F]) 2 (.slice (if cap = i + 1 then some ⟨g, 0, none⟩ else (some (⟨g, 0, none⟩ : Addr)).map (·.add ((i + 1) * 2))) (l.length - (i + 1)) (cap - (i + 1))) (rows encT (l.drop (i + 1))) :=
        ⟨_, _, _, rfl, hrl, .inl (by omega)⟩
      refine os rfl (ex_appendAt (by_ := 32) 0 rfl hD rfl rfl Tryz.underlying23 inf32 (by decide) rfl hsrc0 (one_rows encT_one _) (by rw [hrl]; omega) (by rw [hrl, htot]; omega)) rfl fun u m5 ⟨n', hn', hu, hm5, hD5⟩ => ⟨fun h => by simp at h, ?_⟩
      subst hu hm5
      refine oq rfl (rig_assign rfl rfl) rfl (od_fin ?_)
      have hn2 : i + n' = l.length - 1 := by rw [hrl] at hn'; omega
      have erow : ((rows encT l ++ sp).toArray.toList.take (i * 2) ++ rows encT (l.drop (i + 1)) ++ (rows encT l ++ sp).toArray.toList.drop (i * 2 + (rows encT (l.drop (i + 1))).length)) = rows encT (l.eraseIdx i) ++ (rows encT l ++ sp).drop ((l.length - 1) * 2) := by
        have h1 : (rows encT l ++ sp).take (i * 2) = rows encT (l.take i) := by
          have e : rows encT l = rows encT (l.take i) ++ rows encT (l.drop i) := by rw [← rows_append, List.take_append_drop]
          have hl1 : (rows encT (l.take i)).length = i * 2 := by rw [rows_length encT_len, List.length_take, Nat.min_eq_left (by omega)]
          rw [e, List.append_assoc, List.take_left' hl1]
        simp only [List.toList_toArray]
        rw [h1, ← rows_append, List.eraseIdx_eq_take_drop_succ, hrl, hcap]
      rw [List.set_cons_zero, erow] at hD5 ⊢
      refine ⟨[(0, .slice (some ⟨g, 0, none⟩) (l.length - 1) cap), (7, .int .i64 l.length)], ⟨by rw [← hn2]; rfl, rfl, trivial⟩, _, rfl, rfl, hD5, ?_⟩
      rw [List.length_append, rows_length encT_len, List.length_eraseIdx_of_lt hi, List.length_drop, hsp]; omega
    · refine oq rfl (rig_slLs (i + 1) rfl rfl rfl Tryz.underlying23 Tryz.sizeOf32 rfl (by omega) (by omega)) rfl ?_
      refine os rfl (ex_appendAt (by_ := 32) 0 rfl hD rfl rfl Tryz.underlying23 inf32 (by decide) rfl hsrc (one_rows encT_one _) (by rw [hrl]; omega) (by rw [hrl, htot]; omega)) rfl fun u m5 ⟨n', hn', hu, hm5, hD5⟩ => ⟨fun h => by simp at h, ?_⟩
      subst hu hm5
      refine oq rfl (rig_assign rfl rfl) rfl (od_fin ?_)
      have hn2 : i + n' = l.length - 1 := by rw [hrl] at hn'; omega
      have erow : ((rows encT l ++ sp).toArray.toList.take (i * 2) ++ rows encT (l.drop (i + 1)) ++ (rows encT l ++ sp).toArray.toList.drop (i * 2 + (rows encT (l.drop (i + 1))).length)) = rows encT (l.eraseIdx i) ++ (rows encT l ++ sp).drop ((l.length - 1) * 2) := by
        have h1 : (rows encT l ++ sp).take (i * 2) = rows encT (l.take i) := by
          have e : rows encT l = rows encT (l.take i) ++ rows encT (l.drop i) := by rw [← rows_append, List.take_append_drop]
          have hl1 : (rows encT (l.take i)).length = i * 2 := by rw [rows_length encT_len, List.length_take, Nat.min_eq_left (by omega)]
          rw [e, List.append_assoc, List.take_left' hl1]
        simp only [List.toList_toArray]
        rw [h1, ← rows_append, List.eraseIdx_eq_take_drop_succ, hrl, hcap]
      rw [List.set_cons_zero, erow] at hD5 ⊢
      refine ⟨[(0, .slice (some ⟨g, 0, none⟩) (l.length - 1) cap), (7, .int .i64 l.length)], ⟨by rw [← hn2]; rfl, rfl, trivial⟩, _, rfl, rfl, hD5, ?_⟩
      rw [List.length_append, rows_length encT_len, List.length_eraseIdx_of_lt hi, List.length_drop, hsp]; omega
  · rintro r m' ⟨R, rfl, rfl, hD2, hlR⟩
    have hel : (l.eraseIdx i).length = l.length - 1 := List.length_eraseIdx_of_lt hi
    refine awp_rs ?_
    refine ao_r (rig_move rfl rfl) rfl (ao_r (rig_move rfl rfl) rfl (ao_r (rig_lenSl rfl rfl Tryz.underlying23) rfl (ao_r (rig_move rfl rfl) rfl (ao_r (rig_slLHs (l.length - 1) l.length (0 + 1) rfl rfl rfl rfl Tryz.underlying23 Tryz.sizeOf32 rfl rfl (by omega) (by omega) (by omega) (by omega)) rfl ?_))))
    refine ao_x0 (ex_clear 0 rfl hD2 rfl Tryz.underlying23 Tryz.zeroValue32 zeros33 rfl (by rw [List.size_toArray, hlR]; simp; omega) (by simp [Value.oneCell'])) fun u m6 ⟨hm6, hD6⟩ => ao_nil ?_
    subst hm6
    have erow : putR (rows encT (l.eraseIdx i) ++ R).toArray (0 + (l.length - 1) * 2) [Value.slice none 0 0, .int .i64 0] = (rows encT (l.eraseIdx i) ++ ([Value.slice none 0 0, .int .i64 0] ++ (rows encT (l.eraseIdx i) ++ R).drop ((l.length - 1) * 2 + 2))).toArray := by
      rw [Nat.zero_add, putR_eq _ _ _ (by rw [List.size_toArray, hlR]; simp; omega)]
      have h1 : (rows encT (l.eraseIdx i) ++ R).take ((l.length - 1) * 2) = rows encT (l.eraseIdx i) := List.take_left' (by rw [rows_length encT_len, hel])
      simp only [List.toList_toArray, h1, List.append_assoc]
      rfl
    rw [List.set_cons_zero, erow] at hD6 ⊢
    refine awp_rs (ao_r (rig_move rfl rfl) rfl (ao_r (rig_assign rfl rfl) rfl (ao_nil ?_)))
    refine awp_ret ⟨_, res1 Tryz.results28 rfl, _, ?_, rfl, hD6⟩
    rw [← hel]
    refine Own.mk_ encT_len ?_ (by omega) hcm
    have h3 : (putR (rows encT (l.eraseIdx i) ++ R).toArray (0 + (l.length - 1) * 2) [Value.slice none 0 0, .int .i64 0]).size = cap * 2 := by rw [putR_size, List.size_toArray, hlR]
    rw [erow, List.size_toArray] at h3
    rw [hel]
    exact h3
theorem ez16 : Enters Tryz.prog 16 := enters_of Tryz.func16 (by kernel_rfl) rfl
set_option maxRecDepth 100000 in
theorem Fz16 (F : Hp) (va : Value) (l : List Tm) (ha : Tms F va l) (hok : ∀ t ∈ l, t.Ok F) (hcn : ∀ t ∈ l, t.cnt ≤ 9223372036854775807) (hl : l.length ≤ 1048576) :
    GC Tryz.prog 16 #[va] F (fun u m' => ∃ out c F', Own 32 2 c u (rows encT out) ∧ m' = U [c, F'] ∧ Dj [c, F'] ∧ HpLe F F' ∧ (∀ t ∈ out, t.Ok F') ∧ keys out = ofQ (keys l) ∧ out.length ≤ 63963136) := by
  refine gc_intro (vs := [_]) Tryz.func16 rfl Tryz.ntmps16 (by simp) ?_
  refine awp_rs (ao_r (rig_assign rfl rfl) rfl (ao_nil ?_))
  refine awp_rs (ao_r (rig_move rfl rfl) rfl ?_)
  refine ao_x (ex_call rfl rfl ez34 (Fz34 F va l ha hok hcn hl)) rfl fun u m1 h => ao_r (rig_assign rfl rfl) rfl (ao_nil ?_)
  exact awp_ret ⟨_, res1 Tryz.results16 rfl, h⟩
def addS (s : ByteArray) (q : List El) : List El := match toksOf s with | none => q | some ts => addE ts 1 q
theorem ez12 : Enters Tryz.prog 12 := enters_of Tryz.func12 (by kernel_rfl) rfl
set_option maxHeartbeats 1000000 in
set_option maxRecDepth 100000 in
theorem Fz12 (F : Hp) (va : Value) (l : List Tm) (s : ByteArray) (ha : Tms F va l) (hok : ∀ t ∈ l, t.Ok F ∧ t.toks.length ≤ 16777216 ∧ Cnt t) (hA : AscT (keys l)) (hl : l.length ≤ 1048576) (hs : s.size ≤ 16777216) :
    GC Tryz.prog 12 #[va, .string s] F (fun u m' => ∃ out c F', Own 32 2 c u (rows encT out) ∧ m' = U [c, F'] ∧ Dj [c, F'] ∧ HpLe F F' ∧ OldNew F F' l out ∧ keys out = addS s (keys l)) := by
  refine gc_intro (vs := [_, _]) Tryz.func12 rfl Tryz.ntmps12 (by simp) ?_
  refine awp_rs (ao_r (rig_assign rfl rfl) rfl (ao_nil ?_))
  refine awp_rs (ao_r (rig_move rfl rfl) rfl ?_)
  refine ao_x (ex_call rfl rfl ez26 (Fz26 F s hs)) rfl fun u m1 ⟨c0, F0, hD0, hm1, hR⟩ => ?_
  have h1 : HpLe F m1 := by rw [hm1]; exact le_at 2 hD0 rfl
  have hc1 : HpLe c0 m1 := by rw [hm1]; exact le_at 0 hD0 rfl
  clear hm1
  rcases hR with ⟨hno, rfl⟩ | ⟨ts, v1, hts, rfl, hOt⟩
  · refine ao_r (rig_move rfl rfl) rfl (ao_r (rig_extract rfl rfl rfl) rfl (ao_r (rig_extract rfl rfl rfl) rfl (ao_r (rig_assign rfl rfl) rfl (ao_r (rig_assign rfl rfl) rfl (ao_nil ?_)))))
    refine awp_sk fun K1 hK1 => awp_rs (ao_r (rig_move rfl rfl) rfl (ao_r (rig_not rfl rfl) rfl (ao_nil ?_)))
    refine awp_true rfl (awp_rs (ao_r (rig_move rfl rfl) rfl ?_))
    refine ao_x (ex_call rfl rfl ez25 (Fz25 m1 va l (RdSl.le ha h1) hl)) rfl fun u2 m2 ⟨c2, F2, hD2, hm2, hO2⟩ => ao_r (rig_assign rfl rfl) rfl (ao_nil ?_)
    subst hm2
    refine awp_ret ⟨_, res1 Tryz.results12 rfl, l, c2, U [F2, m1], hO2, (U_flat [c2] _).symm, Dj_unflat (A := [c2]) hD2, h1.trans (le_at 1 hD2.2 rfl), OldNew.same fun t ht => ⟨t, ht, .refl t⟩, ?_⟩
    rw [addS, hno]
  · refine ao_r (rig_move rfl rfl) rfl (ao_r (rig_extract rfl rfl rfl) rfl (ao_r (rig_extract rfl rfl rfl) rfl (ao_r (rig_assign rfl rfl) rfl (ao_r (rig_assign rfl rfl) rfl (ao_nil ?_)))))
    refine awp_sk fun K1 hK1 => awp_rs (ao_r (rig_move rfl rfl) rfl (ao_r (rig_not rfl rfl) rfl (ao_nil ?_)))
    refine awp_false rfl (awp_skip (hK1 _ _ (awp_rs (ao_r (rig_move rfl rfl) rfl ?_))))
    refine ao_x (ex_call rfl rfl ez25 (Fz25 m1 va l (RdSl.le ha h1) hl)) rfl fun u2 m2 ⟨c2, F2, hD2, hm2, hO2⟩ => ?_
    have e2 : m2 = U [c2, U [F2, m1]] := hm2.trans (U_flat [c2] _).symm
    have hD3 : Dj [c2, U [F2, m1]] := Dj_unflat (A := [c2]) hD2
    have h3 : HpLe m1 (U [F2, m1]) := le_at 1 hD2.2 rfl
    subst e2
    have htl := (toksOf_len hts).2
    have h48 := Fz32 c2 (U [F2, m1]) u2 v1 l ts 1 hO2 hD3 (fun t ht => ⟨(hok t ht).1.le (h1.trans h3), (hok t ht).2⟩) hA hl (RdSl.le hOt.rd (hc1.trans h3)) (by omega) ⟨by decide, by decide⟩
    refine ao_r (rig_move rfl rfl) rfl ?_
    refine ao_x (ex_call rfl rfl ez32 h48) rfl fun u4 m4 ⟨out, c4, F4, hO4, hm4, hD4, hF4, hT4, hk4⟩ => ao_r (rig_assign rfl rfl) rfl (ao_nil ?_)
    refine awp_ret ⟨_, res1 Tryz.results12 rfl, out, c4, F4, hO4, hm4, hD4, (h1.trans h3).trans hF4, ?_, ?_⟩
    · obtain ⟨Y, hY, hn, hT⟩ := hT4
      exact ⟨Y, hY, fun k hk => new_beside' hn ((h1.trans h3).trans (le_at 1 hD3 rfl)) k hk, hT⟩
    rw [hk4, addS, hts]
end Go.Proofs.YtmofaabndjnhjaaGreat
/- The miner: Remove, Check. -/
set_option linter.unusedVariables false
set_option linter.unusedSimpArgs false
namespace Go.Proofs.YtmofaabndjnhjaaGreat
open Go Go.Aw Go.Pl Go.RowKit
/-- What Remove hands back. -/
def RemR (s : ByteArray) (q q' : List El) (b : Bool) : Prop :=
  (b = false ∧ q' = q ∧ (toksOf s = none ∨ ∃ ts, toksOf s = some ts ∧ ∀ x, (ts, x) ∉ q)) ∨ (b = true ∧ ∃ ts x, toksOf s = some ts ∧ (ts, x) ∈ q ∧ q' = remE ts q)
theorem eraseIdx_set (l : List Tm) (i : Nat) (y : Tm) : (l.set i y).eraseIdx i = l.eraseIdx i := by
  rw [List.eraseIdx_eq_take_drop_succ, List.eraseIdx_eq_take_drop_succ, List.take_set_of_le (Nat.le_refl _), List.drop_set_of_lt (Nat.lt_succ_self _)]
theorem keys_erase (l : List Tm) (i : Nat) : keys (l.eraseIdx i) = (keys l).eraseIdx i := by
  rw [keys, keys, List.eraseIdx_eq_take_drop_succ, List.eraseIdx_eq_take_drop_succ, List.map_append, List.map_take, List.map_drop]
theorem ez9 : Enters Tryz.prog 9 := enters_of Tryz.func9 (by kernel_rfl) rfl
set_option maxHeartbeats 2000000 in
set_option maxRecDepth 100000 in
theorem Fz9 (F : Hp) (va : Value) (l : List Tm) (s : ByteArray) (ha : Tms F va l) (hok : ∀ t ∈ l, t.Ok F ∧ t.toks.length ≤ 16777216 ∧ Cnt t) (hA : AscT (keys l)) (hl : l.length ≤ 1048576) (hs : s.size ≤ 16777216) :
    GC Tryz.prog 9 #[va, .string s] F (fun u m' => ∃ v b out c F', u = .tuple #[v, .bool b] ∧ Own 32 2 c v (rows encT out) ∧ m' = U [c, F'] ∧ Dj [c, F'] ∧ HpLe F F' ∧ (∀ t ∈ out, ∃ t' ∈ l, SameH t t') ∧ RemR s (keys l) (keys out) b) := by
  refine gc_intro (vs := [_, _]) Tryz.func9 rfl Tryz.ntmps9 (by simp) ?_
  refine awp_rs (ao_r (rig_assign rfl rfl) rfl (ao_r (rig_assign rfl rfl) rfl (ao_nil ?_)))
  refine awp_rs (ao_r (rig_move rfl rfl) rfl ?_)
  refine ao_x (ex_call rfl rfl ez25 (Fz25 F va l ha hl)) rfl fun u2 m2 ⟨c, F2, hD2, hm2, hO⟩ => ao_r (rig_assign rfl rfl) rfl (ao_nil ?_)
  have e2 : m2 = U [c, U [F2, F]] := hm2.trans (U_flat [c] _).symm
  have hD : Dj [c, U [F2, F]] := Dj_unflat (A := [c]) hD2
  have hFG : HpLe F (U [F2, F]) := le_at 1 hD2.2 rfl
  subst e2
  generalize U [F2, F] = G at hD hFG
  clear hm2 hD2
  refine awp_rs (ao_r (rig_move rfl rfl) rfl ?_)
  refine ao_x (ex_call rfl rfl ez26 (Fz26 (U [c, G]) s hs)) rfl fun u m3 hfr => ?_
  obtain ⟨c0, F0, hD3, hm3, hR⟩ := Fresh.at hD hfr
  have hp3 : U [c0, F0, c, G] = U [c, c0, F0, G] ∧ Dj [c, c0, F0, G] := U_pm [2, 0, 1, 3] rfl hD3
  have e3 : m3 = U [c, U [c0, F0, G]] := hm3.trans (hp3.1.trans (U_flat [c] _).symm)
  have hDJ : Dj [c, U [c0, F0, G]] := Dj_unflat (A := [c]) hp3.2
  have hGJ : HpLe G (U [c0, F0, G]) := le_at 2 hp3.2.2 rfl
  have hcJ : HpLe c0 (U [c0, F0, G]) := U_le_head
  subst e3
  generalize U [c0, F0, G] = J at hDJ hGJ hcJ
  clear hm3 hD3 hp3 hfr
  have hFJ := hFG.trans hGJ
  have hokJ : ∀ t ∈ l, t.Ok J := fun t ht => (hok t ht).1.le hFJ
  rcases hR with ⟨hno, rfl⟩ | ⟨ts, v1, hts, rfl, hOt⟩
  · refine ao_r (rig_move rfl rfl) rfl (ao_r (rig_extract rfl rfl rfl) rfl (ao_r (rig_extract rfl rfl rfl) rfl (ao_r (rig_assign rfl rfl) rfl (ao_r (rig_assign rfl rfl) rfl (ao_nil ?_)))))
    refine awp_sk fun K1 hK1 => awp_rs (ao_r (rig_move rfl rfl) rfl (ao_r (rig_not rfl rfl) rfl (ao_nil ?_)))
    refine awp_true rfl (awp_rs (ao_r (rig_move rfl rfl) rfl (ao_r (rig_assign rfl rfl) rfl (ao_r (rig_assign rfl rfl) rfl (ao_nil ?_)))))
    exact awp_ret ⟨_, res2 Tryz.results9 rfl rfl, u2, false, l, c, J, rfl, hO, rfl, hDJ, hFJ, fun t ht => ⟨t, ht, .refl t⟩, .inl ⟨rfl, rfl, .inl hno⟩⟩
  · refine ao_r (rig_move rfl rfl) rfl (ao_r (rig_extract rfl rfl rfl) rfl (ao_r (rig_extract rfl rfl rfl) rfl (ao_r (rig_assign rfl rfl) rfl (ao_r (rig_assign rfl rfl) rfl (ao_nil ?_)))))
    refine awp_sk fun K1 hK1 => awp_rs (ao_r (rig_move rfl rfl) rfl (ao_r (rig_not rfl rfl) rfl (ao_nil ?_)))
    refine awp_false rfl (awp_skip (hK1 _ _ (awp_rs ?_)))
    have h49 := Fz27 (U [c, J]) u2 v1 l ts (RdSl.le hO.rd (le_at 0 hDJ rfl)) (RdSl.le hOt.rd (hcJ.trans (le_at 1 hDJ rfl))) (fun t ht => ⟨(hokJ t ht).le (le_at 1 hDJ rfl), (hok t ht).2.1⟩) (by omega) hA
    refine ao_r (rig_move rfl rfl) rfl (ao_r (rig_move rfl rfl) rfl (ao_r (rig_call rfl rfl ez27 h49) rfl (ao_r (rig_move rfl rfl) rfl (ao_r (rig_extract rfl rfl rfl) rfl (ao_r (rig_extract rfl rfl rfl) rfl (ao_r (rig_assign rfl rfl) rfl (ao_r (rig_assign rfl rfl) rfl (ao_nil ?_))))))))
    refine awp_sk fun K2 hK2 => awp_rs (ao_r (rig_move rfl rfl) rfl (ao_r (rig_not rfl rfl) rfl (ao_nil ?_)))
    cases hf : fndT l ts with
    | false =>
      refine awp_true rfl (awp_rs (ao_r (rig_move rfl rfl) rfl (ao_r (rig_assign rfl rfl) rfl (ao_r (rig_assign rfl rfl) rfl (ao_nil ?_)))))
      exact awp_ret ⟨_, res2 Tryz.results9 rfl rfl, u2, false, l, c, J, rfl, hO, rfl, hDJ, hFJ, fun t ht => ⟨t, ht, .refl t⟩, .inl ⟨rfl, rfl, .inr ⟨ts, hts, fun x hx => fndT_false hf x (find_at hA hx)⟩⟩⟩
    | true =>
      obtain ⟨x, hx, hxt, hxk⟩ := fndT_true hf
      have hxm := List.mem_of_getElem? hx
      have hil := (List.getElem?_eq_some_iff.1 hx).1
      have hcx := (hok x hxm).2.2
      refine awp_false rfl (awp_skip (hK2 _ _ ?_))
      obtain ⟨g, cap, sp, rfl, rfl, hsp, hnc, hcm⟩ := hO.some_ encT_len (by decide) (by omega)
      have hrow : Tms (U [Go.Aw.one g (.cells (rows encT l ++ sp).toArray 32 (0, 0)), J]) (.slice (some ⟨g, 0, none⟩) l.length cap) l := RdSl.le hO.rd (le_at 0 hDJ rfl)
      obtain ⟨b8, o8, cap8, e8, hyc⟩ := Tms.get hrow hx
      simp only [Value.slice.injEq, Option.some.injEq, Addr.mk.injEq] at e8
      obtain ⟨⟨rfl, rfl, _⟩, _, rfl⟩ := e8
      obtain ⟨y0, y1, _⟩ := id hyc
      refine awp_sk fun K3 hK3 => awp_rs ?_
      refine ao_r (rig_move rfl rfl) rfl (ao_r (rig_move rfl rfl) rfl (ao_r (rig_ix (plT (keys l) ts) rfl rfl rfl Tryz.underlying23 Tryz.sizeOf32 rfl rfl hil) rfl (ao_r (rig_fieldAddr rfl rfl Tryz.underlying32 rfl Tryz.sizeOf3 rfl) rfl (ao_r (rig_load1 rfl rfl Tryz.isAgg3 y1) rfl (ao_r (rig_sub (c := x.cnt - 1) rfl rfl rfl (w64 _ (by have := hcx.1; omega) (by have := hcx.2; omega))) rfl ?_)))))
      refine ao_r (rig_ix (plT (keys l) ts) rfl rfl rfl Tryz.underlying23 Tryz.sizeOf32 rfl rfl hil) rfl (ao_r (rig_fieldAddr rfl rfl Tryz.underlying32 rfl Tryz.sizeOf3 rfl) rfl ?_)
      refine ao_x0 (ex_store (i := 0) rfl hDJ rfl rfl Tryz.sizeOf3 (by simp [Value.cells, Value.oneCell']) rfl (by simp [Value.cells, rows_length encT_len]; omega)) fun u m1 ⟨_, hm, hD4⟩ => ao_nil ?_
      subst hm
      have erow : putR (rows encT l ++ sp).toArray (0 + plT (keys l) ts * 2 + 1) [.int .i64 (x.cnt - 1)] = (rows encT (l.set (plT (keys l) ts) { x with cnt := x.cnt - 1 }) ++ sp).toArray := by
        rw [Nat.zero_add]; exact putR_cnt l _ x _ sp hx
      have key : ∃ mm, mm = U [Go.Aw.one g (.cells (rows encT (l.set (plT (keys l) ts) { x with cnt := x.cnt - 1 }) ++ sp).toArray 32 (0, 0)), J] ∧ Dj [Go.Aw.one g (.cells (rows encT (l.set (plT (keys l) ts) { x with cnt := x.cnt - 1 }) ++ sp).toArray 32 (0, 0)), J] ∧ U ([Go.Aw.one g (.cells (rows encT l ++ sp).toArray 32 (0, 0)), J].set 0 (Go.Aw.one g (.cells (putR (rows encT l ++ sp).toArray (0 + plT (keys l) ts * 2 + 1) [.int .i64 (x.cnt - 1)]) 32 (0, 0)))) = mm :=
        ⟨_, rfl, by have := hD4; rw [List.set_cons_zero] at this; rw [← erow]; exact this, by rw [erow]; rfl⟩
      obtain ⟨mm, hmm, hD5, hmm2⟩ := key
      have hln : (l.set (plT (keys l) ts) { x with cnt := x.cnt - 1 }).length = l.length := by simp
      have hO5 : Own 32 2 (Go.Aw.one g (.cells (rows encT (l.set (plT (keys l) ts) { x with cnt := x.cnt - 1 }) ++ sp).toArray 32 (0, 0))) (.slice (some ⟨g, 0, none⟩) l.length cap) (rows encT (l.set (plT (keys l) ts) { x with cnt := x.cnt - 1 })) := by
        rw [← hln]
        refine Own.mk_ encT_len ?_ (by rw [hln]; exact hnc) hcm
        rw [List.length_append, rows_length encT_len] at hsp ⊢
        rw [hln]; exact hsp
      have hok5 : ∀ t ∈ l.set (plT (keys l) ts) { x with cnt := x.cnt - 1 }, ∃ t' ∈ l, SameH t t' := fun t htm => by
        rcases List.mem_or_eq_of_mem_set htm with h | h
        · exact ⟨t, h, .refl t⟩
        · rw [h]; exact ⟨x, hxm, rfl, rfl, rfl, rfl⟩
      have hx5 : (l.set (plT (keys l) ts) { x with cnt := x.cnt - 1 })[plT (keys l) ts]? = some { x with cnt := x.cnt - 1 } := by
        rw [List.getElem?_set, if_pos rfl, if_pos hil]
      have hrow5 : Tms mm (.slice (some ⟨g, 0, none⟩) l.length cap) (l.set (plT (keys l) ts) { x with cnt := x.cnt - 1 }) := by rw [hmm]; exact RdSl.le hO5.rd (le_at 0 hD5 rfl)
      obtain ⟨b9, o9, cap9, e9, hzc⟩ := Tms.get hrow5 hx5
      simp only [Value.slice.injEq, Option.some.injEq, Addr.mk.injEq] at e9
      obtain ⟨⟨rfl, rfl, _⟩, _, rfl⟩ := e9
      obtain ⟨z0, z1, _⟩ := id hzc
      have hrem := remE_found hA hxk
      have e6 : U ([Go.Aw.one g (.cells (rows encT l ++ sp).toArray 32 (0, 0)), J].set 0 (Go.Aw.one g (.cells (putR (rows encT l ++ sp).toArray (0 + plT (keys l) ts * 2 + 1) [.int .i64 (x.cnt - 1)]) 32 (0, 0)))) = U [Go.Aw.one g (.cells (rows encT (l.set (plT (keys l) ts) { x with cnt := x.cnt - 1 }) ++ sp).toArray 32 (0, 0)), J] := hmm2.trans hmm
      refine awp_L e6 ?_
      rw [hmm] at z1
      have hin : (ts, x.cnt) ∈ keys l := List.mem_of_getElem? hxk
      refine awp_rs ?_
      refine ao_r (rig_move rfl rfl) rfl (ao_r (rig_move rfl rfl) rfl (ao_r (rig_ix (plT (keys l) ts) rfl rfl rfl Tryz.underlying23 Tryz.sizeOf32 rfl rfl hil) rfl (ao_r (rig_fieldAddr rfl rfl Tryz.underlying32 rfl Tryz.sizeOf3 rfl) rfl (ao_r (rig_load1 rfl rfl Tryz.isAgg3 z1) rfl (ao_r (rig_eql rfl rfl rfl) rfl (ao_nil ?_))))))
      refine awp_if rfl (fun h0 => ?_) (fun h0 => ?_)
      · rw [if_pos h0] at hrem
        refine awp_region ?_
        refine ao_r (rig_move rfl rfl) rfl (ao_r (rig_move rfl rfl) rfl (ao_r (rig_move rfl rfl) rfl (ao_r (rig_add (c := ((plT (keys l) ts + 1 : Nat) : Int)) rfl rfl rfl (w64 _ (by omega) (by omega))) rfl ?_)))
        refine ao_x (ex_call rfl rfl ez28 (Fz28 _ J (.slice (some ⟨g, 0, none⟩) l.length cap) (l.set (plT (keys l) ts) { x with cnt := x.cnt - 1 }) (plT (keys l) ts) hO5 hD5 (by rw [hln]; exact hil) (by omega))) rfl fun u7 m7 ⟨c7, hO7, hm7, hD7⟩ => ao_r (rig_assign rfl rfl) rfl (ao_nil ?_)
        subst hm7
        rw [eraseIdx_set] at hO7
        refine hK3 _ _ (awp_rs (ao_r (rig_move rfl rfl) rfl (ao_r (rig_assign rfl rfl) rfl (ao_r (rig_assign rfl rfl) rfl (ao_nil ?_)))))
        exact awp_ret ⟨_, res2 Tryz.results9 rfl rfl, u7, true, _, c7, J, rfl, hO7, rfl, hD7, hFJ, fun t ht => ⟨t, List.mem_of_mem_eraseIdx ht, .refl t⟩, .inr ⟨rfl, ts, x.cnt, hts, hin, by rw [keys_erase, hrem]⟩⟩
      · rw [if_neg h0] at hrem
        refine awp_skip (hK3 _ _ (awp_rs (ao_r (rig_move rfl rfl) rfl (ao_r (rig_assign rfl rfl) rfl (ao_r (rig_assign rfl rfl) rfl (ao_nil ?_))))))
        refine awp_ret ⟨_, res2 Tryz.results9 rfl rfl, _, true, _, _, J, rfl, hO5, rfl, hD5, hFJ, hok5, .inr ⟨rfl, ts, x.cnt, hts, hin, ?_⟩⟩
        rw [hrem, keys, List.map_set]
        show (keys l).set _ _ = _
        congr 1
        show (x.toks, x.cnt - 1) = _
        rw [hxt]
section
variable {P : Program} {n : Nat} {ops : Array Oper} {r : Env} {m : Hp} {K : Env → Hp → Prop} {os : List Oper}
/-- The guard's own step was not taken. -/
theorem ao_nu {d : Tmp} {op : Op} {ty : TypeId} {pos : String} {af : Array Edge} {j : Nat} {b : Bool} {t : Tmp} (hd : (ops[j]?).bind (·.dst) = some t) (hv : r.get t = some undef) (hd' : Nat.blt d n = true)
    (k : AOps P n ops os ((d, undef) :: r) m K) : AOps P n ops ({ dst := some d, op, type := ty, pos, after := af, guard := some (j, b) } :: os) r m K := fun sg a w hf hw => by
  have hw2 : Region.wanted { dst := some d, op, type := ty, pos, after := af, guard := some (j, b) } (yielded ops a.tmps) = false := by
    have ht := hf.rep t _ hv
    have hy : yielded ops a.tmps j = none := by
      unfold yielded
      rw [hd, Option.bind_some, ht]; rfl
    simp [Region.wanted, hy]
  rw [hw2]
  have := hf.put (some d) undef
  rw [put_lt hd'] at this
  exact ⟨_, m, this, hw, k⟩
end
theorem ez62 : Enters Tryz.prog 62 := enters_of Tryz.func62 (by kernel_rfl) rfl
set_option maxRecDepth 100000 in
theorem Fz62 (m : Hp) (c : Int) : RC Tryz.prog 62 #[.int .i32 c] m (.bool (decide (c = 32) || (decide (c = 9) || (decide (48 ≤ c) && decide (c ≤ 57))))) := by
  refine rc_of_gc fun m1 hm => gc_intro (vs := [_]) Tryz.func62 rfl Tryz.ntmps62 (by simp) ?_
  refine awp_rs (ao_r (rig_assign rfl rfl) rfl (ao_nil ?_))
  refine awp_rs ?_
  refine ao_r (rig_move rfl rfl) rfl (ao_r (rig_eql rfl rfl rfl) rfl (ao_r (rig_move rfl rfl) rfl ?_))
  by_cases h1 : c = 32
  · rw [decide_eq_true h1]
    refine ao_no rfl rfl rfl rfl (ao_no rfl rfl rfl rfl (ao_r (rig_pickT rfl rfl rfl) rfl (ao_r (rig_move rfl rfl) rfl ?_)))
    refine ao_no rfl rfl rfl rfl (ao_no rfl rfl rfl rfl (ao_no rfl rfl rfl rfl (ao_nu rfl rfl rfl (ao_nu rfl rfl rfl (ao_no rfl rfl rfl rfl (ao_r (rig_pickT rfl rfl rfl) rfl (ao_r (rig_assign rfl rfl) rfl (ao_nil ?_))))))))
    exact awp_ret ⟨_, res1 Tryz.results62 rfl, rfl, HpLe.refl _⟩
  · rw [decide_eq_false h1]
    refine ao_on rfl rfl (ao_r (rig_move rfl rfl) rfl (ao_on rfl rfl (ao_r (rig_eql rfl rfl rfl) rfl (ao_r (rig_pickF rfl rfl rfl) rfl (ao_r (rig_move rfl rfl) rfl ?_)))))
    by_cases h2 : c = 9
    · rw [decide_eq_true h2]
      refine ao_no rfl rfl rfl rfl (ao_no rfl rfl rfl rfl (ao_no rfl rfl rfl rfl (ao_nu rfl rfl rfl (ao_nu rfl rfl rfl (ao_no rfl rfl rfl rfl (ao_r (rig_pickT rfl rfl rfl) rfl (ao_r (rig_assign rfl rfl) rfl (ao_nil ?_))))))))
      exact awp_ret ⟨_, res1 Tryz.results62 rfl, rfl, HpLe.refl _⟩
    · rw [decide_eq_false h2]
      refine ao_on rfl rfl (ao_r (rig_move rfl rfl) rfl (ao_on rfl rfl (ao_r (rig_leq rfl rfl rfl) rfl (ao_on rfl rfl (ao_r (rig_move rfl rfl) rfl ?_)))))
      by_cases h3 : 48 ≤ c
      · rw [decide_eq_true h3]
        refine ao_on rfl rfl (ao_r (rig_move rfl rfl) rfl (ao_on rfl rfl (ao_r (rig_leq rfl rfl rfl) rfl (ao_on rfl rfl (ao_r (rig_pickT rfl rfl rfl) rfl (ao_r (rig_pickF rfl rfl rfl) rfl (ao_r (rig_assign rfl rfl) rfl (ao_nil ?_))))))))
        exact awp_ret ⟨_, res1 Tryz.results62 rfl, rfl, HpLe.refl _⟩
      · rw [decide_eq_false h3]
        refine ao_no rfl rfl rfl rfl (ao_no rfl rfl rfl rfl (ao_on rfl rfl (ao_r (rig_pickF rfl rfl rfl) rfl (ao_r (rig_pickF rfl rfl rfl) rfl (ao_r (rig_assign rfl rfl) rfl (ao_nil ?_))))))
        exact awp_ret ⟨_, res1 Tryz.results62 rfl, rfl, HpLe.refl _⟩
theorem Fz61t (m : Hp) (s : ByteArray) : RC Tryz.prog 61 #[.string s, .func (.func 62) #[] #[]] m (.int .i64 (Lib.idxFunc tokR true s)) := by
  refine rc_of_below fun sg w hsat => ?_
  have hp : PredGrows Tryz.prog 62 #[] tokR w := fun W x hx hb => by
    have := (Fz62 hp0 (x : Int)).at W
    have e : (decide ((x : Int) = 32) || (decide ((x : Int) = 9) || (decide (48 ≤ (x : Int)) && decide ((x : Int) ≤ 57)))) = tokR x := by
      rw [Bool.eq_iff_iff]; simp [tokR, spR, digR]; omega
    rw [e] at this
    exact this
  exact Any.strings_IndexFunc_grows Tryz.laysIF 62 #[] ez62 tokR s w hp
theorem ez40 : Enters Tryz.prog 40 := enters_of Tryz.func40 (by kernel_rfl) rfl
set_option maxRecDepth 100000 in
theorem Fz40 (m : Hp) (s : ByteArray) : RC Tryz.prog 40 #[.string s] m (.bool (!tokBad s.data.toList)) := by
  refine rc_of_gc fun m1 hm => gc_intro (vs := [_]) Tryz.func40 rfl Tryz.ntmps40 (by simp) ?_
  refine awp_rs (ao_r (rig_assign rfl rfl) rfl (ao_nil ?_))
  refine awp_rs ?_
  refine ao_r (rig_move rfl rfl) rfl (ao_r (rig_call rfl rfl ez61 (Fz61t _ s)) rfl (ao_r (rig_lss rfl rfl rfl) rfl (ao_r (rig_assign rfl rfl) rfl (ao_nil ?_))))
  refine awp_ret ⟨_, res1 Tryz.results40 rfl, ?_, HpLe.refl _⟩
  rw [← idxFunc_tok]
  by_cases h : 0 ≤ Lib.idxFunc tokR true s
  · rw [decide_eq_true h, decide_eq_false (by omega)]; rfl
  · rw [decide_eq_false h, decide_eq_true (by omega)]; rfl
theorem ez39 : Enters Tryz.prog 39 := enters_of Tryz.func39 (by kernel_rfl) rfl
set_option maxRecDepth 100000 in
theorem Fz39 (m : Hp) (s : ByteArray) : RC Tryz.prog 39 #[.string s] m (.bool (tokBad s.data.toList)) := by
  refine rc_of_gc fun m1 hm => gc_intro (vs := [_]) Tryz.func39 rfl Tryz.ntmps39 (by simp) ?_
  refine awp_rs (ao_r (rig_assign rfl rfl) rfl (ao_nil ?_))
  refine awp_rs ?_
  refine ao_r (rig_move rfl rfl) rfl (ao_r (rig_call rfl rfl ez40 (Fz40 _ s)) rfl (ao_r (rig_not rfl rfl) rfl (ao_r (rig_assign rfl rfl) rfl (ao_nil ?_))))
  exact awp_ret ⟨_, res1 Tryz.results39 rfl, by rw [Bool.not_not], HpLe.refl _⟩
def badT (ts : List ByteArray) : Bool := ts.any fun s => tokBad s.data.toList
theorem ez38 : Enters Tryz.prog 38 := enters_of Tryz.func38 (by kernel_rfl) rfl
set_option maxRecDepth 100000 in
theorem Fz38 (m : Hp) (va : Value) (ts : List ByteArray) (ha : Strs m va ts) (hl : ts.length ≤ 1099511627776) : RC Tryz.prog 38 #[va, .func (.func 39) #[] #[]] m (.bool (badT ts)) := by
  refine rc_of_gc fun m1 hm => gc_intro (vs := [_, _]) Tryz.func38 rfl Tryz.ntmps38 (by simp) ?_
  refine awp_rs (ao_r (rig_assign rfl rfl) rfl (ao_nil ?_))
  have h84 := Fz60 m1 va 39 #[] ts (fun s => tokBad s.data.toList) (RdSl.le ha hm) hl ez39 (fun x hx => by simpa using Fz39 m1 x)
  refine awp_rs ?_
  refine ao_r (rig_move rfl rfl) rfl (ao_r (rig_move rfl rfl) rfl (ao_r (rig_call rfl rfl ez60 h84) rfl (ao_r (rig_geq rfl rfl rfl) rfl (ao_r (rig_assign rfl rfl) rfl (ao_nil ?_)))))
  refine awp_ret ⟨_, res1 Tryz.results38 rfl, ?_, HpLe.refl _⟩
  rw [badT, idxS]
  cases ts.any fun s => tokBad s.data.toList with
  | true => rw [if_pos rfl, decide_eq_true (by omega)]
  | false => rw [if_neg (by decide), decide_eq_false (by omega)]
end Go.Proofs.YtmofaabndjnhjaaGreat
/- The miner: Check. -/
set_option linter.unusedVariables false
set_option linter.unusedSimpArgs false
namespace Go.Proofs.YtmofaabndjnhjaaGreat
open Go Go.Aw Go.Pl Go.RowKit
section
variable {P : Program} {n : Nat} {ops : Array Oper} {mu : List Nat} {r : Env} {m : Hp} {K : Env → Hp → Prop} {x : Ord} {i : Nat} {d : Tmp} {op : Op} {ty : TypeId} {pos : String} {af : Array Edge}
theorem oson {F : Value → Hp → Prop} {j : Nat} {b : Bool} {t : Tmp} (hi : ops[i]? = some { dst := some d, op, type := ty, pos, after := af, guard := some (j, b) }) (hj : (ops[j]?).bind (·.dst) = some t) (hv : r.get t = some (.bool b)) (h : Ex P { dst := some d, op, type := ty, pos, after := af, guard := some (j, b) } r m F) (hd : Nat.blt d n = true)
    (k : ∀ v m', F v m' → (mu.contains i = false → HpLe m m') ∧ AOrd P n ops mu K x ((d, v) :: r) m') : AOrd P n ops mu K (.s i x) r m :=
  od_son hi rfl hj hv h fun v m' hF => by rw [put_lt hd]; exact k v m' hF
end
def e0 : El := ([], 0)
def okB (a : El) : Bool := decide (1 ≤ a.2) && (decide (1 ≤ a.1.length) && (decide (a.1.length ≤ 60) && !badT a.1))
def chk1 (q : List El) (i : Nat) : Bool := okB (q.getD i e0) && (decide (i = 0) || decide (cmpTk (q.getD (i - 1) e0).1 (q.getD i e0).1 < 0))
def chkB (q : List El) : Bool := (List.range q.length).all (chk1 q)
theorem chkB_no {q : List El} {i : Nat} (hi : i < q.length) (h : chk1 q i = false) : chkB q = false := by
  rw [Bool.eq_false_iff]
  intro h2
  rw [List.all_eq_true.1 h2 i (List.mem_range.2 hi)] at h
  cases h
theorem ez20 : Enters Tryz.prog 20 := enters_of Tryz.func20 (by kernel_rfl) rfl
set_option maxHeartbeats 4000000 in
set_option maxRecDepth 100000 in
theorem Fz20 (m : Hp) (va : Value) (l : List Tm) (ha : Tms m va l) (hok : ∀ t ∈ l, t.Ok m ∧ t.toks.length ≤ 16777216) (hl : l.length ≤ 1048576) : RC Tryz.prog 20 #[va] m (.bool (chkB (keys l))) := by
  obtain ⟨A, ca, rfl, _⟩ := RdSl.form encT_len (by decide) ha
  refine rc_of_gc fun m1 hm => gc_intro (vs := [_]) Tryz.func20 rfl Tryz.ntmps20 (by simp) ?_
  refine awp_rs (ao_r (rig_assign rfl rfl) rfl (ao_nil ?_))
  refine awp_sk fun K1 hK1 => awp_rs ?_
  refine ao_r (rig_move rfl rfl) rfl (ao_r (rig_lenSl rfl rfl Tryz.underlying23) rfl (ao_r (rig_move rfl rfl) rfl (ao_nil ?_)))
  refine awp_block ?_
  refine awp_le [(0, .slice A l.length ca), (5, .slice A l.length ca), (6, .int .i64 l.length), (7, .int .i64 (0 : Nat))] ⟨rfl, rfl, rfl, rfl, trivial⟩ ?_
  refine awp_loop (fun kk r mm => ∃ i : Nat, i ≤ l.length ∧ kk = l.length - i ∧ r = [(0, .slice A l.length ca), (5, .slice A l.length ca), (6, .int .i64 l.length), (7, .int .i64 i)] ∧ HpLe m1 mm ∧ (List.range i).all (chk1 (keys l)) = true) _ ⟨0, by omega, rfl, rfl, HpLe.refl _, rfl⟩ ?_
  rintro kk r mm ⟨i, hi, rfl, rfl, hle, hall⟩
  refine awp_rs (ao_r (rig_lss rfl rfl rfl) rfl (ao_nil ?_))
  refine awp_sk fun K2 hK2 => ?_
  refine awp_if rfl (fun h => ?_) (fun h => ?_)
  · have hil : i < l.length := by omega
    obtain ⟨y, hy⟩ := get_lt hil
    have hym := List.mem_of_getElem? hy
    have hmm := hm.trans hle
    obtain ⟨b, off, cap', e, hyc⟩ := Tms.get (RdSl.le ha hmm) hy
    simp only [Value.slice.injEq] at e
    obtain ⟨rfl, _, rfl⟩ := e
    have hyl := (hok y hym).2
    have hyn := (hok y hym).1.len
    have hky : (keys l).getD i e0 = y.key := by rw [List.getD_eq_getElem?_getD, keys_get hy]; rfl
    refine awp_skip (hK2 _ _ (awp_sk fun K3 hK3 => awp_block (awp_u (awp_rs ?_))))
    have hycU : CellsAt (U [mm]) b (off + i * 2) (encT y) := by rw [U_single]; exact hyc
    refine ao_r (rig_move rfl rfl) rfl (ao_r (rig_ix i rfl rfl rfl Tryz.underlying23 Tryz.sizeOf32 rfl rfl hil) rfl (ao_r (rig_loadN (vs := encT y) rfl rfl Tryz.isAgg32 Tryz.sizeOf32 hycU) rfl ?_))
    refine ao_x (ex_alloc rfl (Dj_single mm) Tryz.zeroValue32) rfl fun u m7 ⟨b4, hu, hm7, hD7⟩ => ao_r (rig_assign rfl rfl) rfl ?_
    subst hu hm7
    refine ao_x0 (ex_store (i := 0) rfl hD7 rfl rfl Tryz.sizeOf32 (encT_one y) rfl (by simp [Value.cells, encT])) fun u m8 ⟨_, hm8, hD8⟩ => ao_nil ?_
    subst hm8
    rw [List.set_cons_zero, putR_all _ _ (by rfl)] at hD8 ⊢
    have hcy : CellsAt (U [Go.Aw.one b4 (.cells (Value.agg (encT y).toArray).cells 32 (0, 0)), mm]) b4 0 (encT y) := (cellsAt_one b4 (encT y).toArray 32).le U_le_head
    have hmU : HpLe mm (U [Go.Aw.one b4 (.cells (Value.agg (encT y).toArray).cells 32 (0, 0)), mm]) := le_at 1 hD8 rfl
    have hyU := (hok y hym).1.le (hmm.trans hmU)
    obtain ⟨y0, y1, _⟩ := id hcy
    refine awp_sk fun K4 hK4 => ?_
    refine awp_mid (fun r m' => m' = U [Go.Aw.one b4 (.cells (Value.agg (encT y).toArray).cells 32 (0, 0)), mm] ∧ r = [(0, .slice (some ⟨b, off, none⟩) l.length ca), (3, .int .i64 i), (4, .pointer (some ⟨b4, 0, none⟩)), (5, .slice (some ⟨b, off, none⟩) l.length ca), (6, .int .i64 l.length), (7, .int .i64 i), (31, .bool (!okB y.key))]) (awp_region ?_) ?_
    · refine ao_r (rig_fieldAddr rfl rfl Tryz.underlying32 rfl Tryz.sizeOf3 rfl) rfl (ao_r (rig_load1 rfl rfl Tryz.isAgg3 y1) rfl (ao_r (rig_lss rfl rfl rfl) rfl (ao_r (rig_move rfl rfl) rfl ?_)))
      have hfin : ∀ (bb : Bool), bb = (!okB y.key) → ∀ r' : Env, EnvLe [(0, .slice (some ⟨b, off, none⟩) l.length ca), (3, .int .i64 i), (4, .pointer (some ⟨b4, 0, none⟩)), (5, .slice (some ⟨b, off, none⟩) l.length ca), (6, .int .i64 l.length), (7, .int .i64 i), (31, .bool bb)] r' → ∃ s, EnvLe s r' ∧ U [Go.Aw.one b4 (.cells (Value.agg (encT y).toArray).cells 32 (0, 0)), mm] = U [Go.Aw.one b4 (.cells (Value.agg (encT y).toArray).cells 32 (0, 0)), mm] ∧ s = [(0, .slice (some ⟨b, off, none⟩) l.length ca), (3, .int .i64 i), (4, .pointer (some ⟨b4, 0, none⟩)), (5, .slice (some ⟨b, off, none⟩) l.length ca), (6, .int .i64 l.length), (7, .int .i64 i), (31, .bool (!okB y.key))] := fun bb hbb r' hr => ⟨_, hr, rfl, by rw [hbb]⟩
      by_cases c1 : y.cnt < 1
      · rw [decide_eq_true c1]
        refine ao_no rfl rfl rfl rfl (ao_no rfl rfl rfl rfl (ao_no rfl rfl rfl rfl (ao_no rfl rfl rfl rfl (ao_r (rig_pickT rfl rfl rfl) rfl (ao_r (rig_move rfl rfl) rfl ?_)))))
        refine ao_no rfl rfl rfl rfl (ao_no rfl rfl rfl rfl (ao_no rfl rfl rfl rfl (ao_no rfl rfl rfl rfl (ao_r (rig_pickT rfl rfl rfl) rfl (ao_r (rig_move rfl rfl) rfl ?_)))))
        refine ao_no rfl rfl rfl rfl (ao_no rfl rfl rfl rfl (ao_no rfl rfl rfl rfl (ao_r (rig_pickT rfl rfl rfl) rfl (ao_nil ?_))))
        refine hfin true ?_ _ ⟨rfl, rfl, rfl, rfl, rfl, rfl, rfl, trivial⟩
        rw [okB, decide_eq_false (show ¬ (1 : Int) ≤ y.key.2 by show ¬ (1 : Int) ≤ y.cnt; omega)]; rfl
      · rw [decide_eq_false c1]
        have d1 : decide ((1 : Int) ≤ y.key.2) = true := decide_eq_true (by show (1 : Int) ≤ y.cnt; omega)
        refine ao_on rfl rfl (ao_r (rig_fieldAddr rfl rfl Tryz.underlying32 rfl Tryz.sizeOf27 rfl) rfl ?_)
        refine ao_on rfl rfl (ao_r (rig_load1 rfl rfl Tryz.isAgg27 y0) rfl ?_)
        refine ao_on rfl rfl (ao_r (rig_lenSl rfl rfl Tryz.underlying27) rfl ?_)
        refine ao_on rfl rfl (ao_r (rig_lss rfl rfl rfl) rfl ?_)
        refine ao_r (rig_pickF rfl rfl rfl) rfl (ao_r (rig_move rfl rfl) rfl ?_)
        by_cases c2 : (y.n : Int) < 1
        · rw [decide_eq_true c2]
          refine ao_no rfl rfl rfl rfl (ao_no rfl rfl rfl rfl (ao_no rfl rfl rfl rfl (ao_no rfl rfl rfl rfl (ao_r (rig_pickT rfl rfl rfl) rfl (ao_r (rig_move rfl rfl) rfl ?_)))))
          refine ao_no rfl rfl rfl rfl (ao_no rfl rfl rfl rfl (ao_no rfl rfl rfl rfl (ao_r (rig_pickT rfl rfl rfl) rfl (ao_nil ?_))))
          refine hfin true ?_ _ ⟨rfl, rfl, rfl, rfl, rfl, rfl, rfl, trivial⟩
          rw [okB, d1, decide_eq_false (show ¬ 1 ≤ y.key.1.length by show ¬ 1 ≤ y.toks.length; omega)]; rfl
        · rw [decide_eq_false c2]
          have d2 : decide (1 ≤ y.key.1.length) = true := decide_eq_true (by show 1 ≤ y.toks.length; omega)
          refine ao_on rfl rfl (ao_r (rig_fieldAddr rfl rfl Tryz.underlying32 rfl Tryz.sizeOf27 rfl) rfl ?_)
          refine ao_on rfl rfl (ao_r (rig_load1 rfl rfl Tryz.isAgg27 y0) rfl ?_)
          refine ao_on rfl rfl (ao_r (rig_lenSl rfl rfl Tryz.underlying27) rfl ?_)
          refine ao_on rfl rfl (ao_r (rig_gtr rfl rfl rfl) rfl ?_)
          refine ao_r (rig_pickF rfl rfl rfl) rfl (ao_r (rig_move rfl rfl) rfl ?_)
          by_cases c3 : (60 : Int) < (y.n : Int)
          · rw [decide_eq_true c3]
            refine ao_no rfl rfl rfl rfl (ao_no rfl rfl rfl rfl (ao_no rfl rfl rfl rfl (ao_r (rig_pickT rfl rfl rfl) rfl (ao_nil ?_))))
            refine hfin true ?_ _ ⟨rfl, rfl, rfl, rfl, rfl, rfl, rfl, trivial⟩
            rw [okB, d1, d2, decide_eq_false (show ¬ y.key.1.length ≤ 60 by show ¬ y.toks.length ≤ 60; omega)]; rfl
          · rw [decide_eq_false c3]
            have d3 : decide (y.key.1.length ≤ 60) = true := decide_eq_true (by show y.toks.length ≤ 60; omega)
            refine ao_on rfl rfl (ao_r (rig_fieldAddr rfl rfl Tryz.underlying32 rfl Tryz.sizeOf27 rfl) rfl ?_)
            refine ao_on rfl rfl (ao_r (rig_load1 rfl rfl Tryz.isAgg27 y0) rfl ?_)
            refine ao_on rfl rfl (ao_r (rig_call rfl rfl ez38 (Fz38 _ _ y.toks hyU (by omega))) rfl ?_)
            refine ao_r (rig_pickF rfl rfl rfl) rfl (ao_nil ?_)
            refine hfin (badT y.toks) ?_ _ ⟨rfl, rfl, rfl, rfl, rfl, rfl, rfl, trivial⟩
            rw [okB, d1, d2, d3]
            show badT y.toks = !(!badT y.toks)
            rw [Bool.not_not]
    · rintro r m' ⟨rfl, rfl⟩
      refine awp_cond rfl (fun h2 => ?_) (fun h2 => ?_)
      · refine awp_rs (ao_r (rig_assign rfl rfl) rfl (ao_nil ?_))
        refine awp_ret ⟨_, res1 Tryz.results20 rfl, ?_, hle.trans hmU⟩
        rw [chkB_no (i := i) (by rw [keys_len]; exact hil)]
        rw [chk1, hky]
        have : okB y.key = false := by simpa using h2
        rw [this]; rfl
      · have hokb : okB y.key = true := by simpa using h2
        refine awp_skip (hK4 _ _ ?_)
        have h1 : chk1 (keys l) i = (decide (i = 0) || decide (cmpTk ((keys l).getD (i - 1) e0).1 y.toks < 0)) := by
          rw [chk1, hky, hokb, Bool.true_and]; rfl
        refine awp_mid (fun r m' => HpLe mm m' ∧ r = [(0, .slice (some ⟨b, off, none⟩) l.length ca), (5, .slice (some ⟨b, off, none⟩) l.length ca), (6, .int .i64 l.length), (7, .int .i64 i), (58, .bool (!chk1 (keys l) i))]) ?_ ?_
        · by_cases hi0 : (0 : Int) < (i : Int)
          · refine awp_draw (.q 0 (.q 1 (.q 2 (.q 3 (.q 4 (.q 5 (.q 6 (.q 7 (.q 8 (.q 9 (.q 10 (.q 11 (.q 12 (.q 13 (.q 14 (.q 15 (.q 16 (.q 17 (.q 18 (.q 19 (.q 20 (.q 21 (.q 22 (.s 23 (.q 24 (.q 25 (.q 26 .fin))))))))))))))))))))))))))) [] (by kernel_rfl) (by kernel_rfl) ?_
            refine oq rfl (rig_move rfl rfl) rfl (oq rfl (rig_gtr rfl rfl rfl) rfl ?_)
            rw [decide_eq_true hi0]
            refine oq rfl (rig_move rfl rfl) rfl ?_
            have hil0 : i - 1 < l.length := by omega
            obtain ⟨z, hz⟩ := get_lt hil0
            have hzm := List.mem_of_getElem? hz
            obtain ⟨bz, oz, cz, ez, hzc⟩ := Tms.get (RdSl.le ha (hmm.trans hmU)) hz
            simp only [Value.slice.injEq, Option.some.injEq, Addr.mk.injEq] at ez
            obtain ⟨⟨rfl, rfl, _⟩, _, rfl⟩ := ez
            obtain ⟨z0, z1, _⟩ := id hzc
            have hzl := (hok z hzm).2
            have hzn := (hok z hzm).1.len
            have hzU := (hok z hzm).1.le (hmm.trans hmU)
            have hkz : (keys l).getD (i - 1) e0 = z.key := by rw [List.getD_eq_getElem?_getD, keys_get hz]; rfl
            refine oqon rfl rfl rfl (rig_move rfl rfl) rfl ?_
            refine oqon rfl rfl rfl (rig_move rfl rfl) rfl ?_
            refine oqon rfl rfl rfl (rig_sub (c := ((i - 1 : Nat) : Int)) rfl rfl rfl (by rw [w64 _ (by omega) (by omega)]; omega)) rfl ?_
            refine oqon rfl rfl rfl (rig_ix (i - 1) rfl rfl rfl Tryz.underlying23 Tryz.sizeOf32 rfl rfl hil0) rfl ?_
            refine oqon rfl rfl rfl (rig_fieldAddr rfl rfl Tryz.underlying32 rfl Tryz.sizeOf27 rfl) rfl ?_
            refine oqon rfl rfl rfl (rig_load1 rfl rfl Tryz.isAgg27 z0) rfl ?_
            refine oqon rfl rfl rfl (rig_lenSl rfl rfl Tryz.underlying27) rfl ?_
            refine oqon rfl rfl rfl (rig_fieldAddr rfl rfl Tryz.underlying32 rfl Tryz.sizeOf27 rfl) rfl ?_
            refine oqon rfl rfl rfl (rig_load1 rfl rfl Tryz.isAgg27 y0) rfl ?_
            refine oqon rfl rfl rfl (rig_lenSl rfl rfl Tryz.underlying27) rfl ?_
            refine oqon rfl rfl rfl (rig_call rfl rfl M.ez42 (M.Fz42 _ _ _)) rfl ?_
            refine oqon rfl rfl rfl (rig_move rfl rfl) rfl ?_
            refine oqon rfl rfl rfl (rig_move rfl rfl) rfl ?_
            refine oqon rfl rfl rfl (rig_sub (c := ((i - 1 : Nat) : Int)) rfl rfl rfl (by rw [w64 _ (by omega) (by omega)]; omega)) rfl ?_
            refine oqon rfl rfl rfl (rig_ix (i - 1) rfl rfl rfl Tryz.underlying23 Tryz.sizeOf32 rfl rfl hil0) rfl ?_
            refine oqon rfl rfl rfl (rig_fieldAddr rfl rfl Tryz.underlying32 rfl Tryz.sizeOf27 rfl) rfl ?_
            refine oqon rfl rfl rfl (rig_load1 rfl rfl Tryz.isAgg27 z0) rfl ?_
            refine oqon rfl rfl rfl (rig_fieldAddr rfl rfl Tryz.underlying32 rfl Tryz.sizeOf27 rfl) rfl ?_
            refine oqon rfl rfl rfl (rig_load1 rfl rfl Tryz.isAgg27 y0) rfl ?_
            refine oqon rfl rfl rfl (rig_call rfl rfl M.ez43 (M.Fz43 _ _ _ z.toks y.toks hzU hyU (by omega))) rfl ?_
            refine oson rfl rfl rfl (ex_buildSlice (cs := #[.int .i64 (cmpI z.n y.n), .int .i64 (cmpSL z.toks y.toks)]) rfl hD8 rfl Tryz.underlying74 Tryz.sizeOf3 Tryz.zeroValue3 (by decide) (by decide) (by kernel_rfl)) rfl fun w2 m9 ⟨b2, hw2, hm9, hD9⟩ => ⟨fun _ => by subst hm9; exact U_le_tail hD9, ?_⟩
            subst hw2 hm9
            have ho : M.orInts (U [Go.Aw.one b2 (.cells #[.int .i64 (cmpI z.n y.n), .int .i64 (cmpSL z.toks y.toks)] 3 (0, 0)), Go.Aw.one b4 (.cells (Value.agg (encT y).toArray).cells 32 (0, 0)), mm]) (.slice (some ⟨b2, 0, none⟩) 2 2) [cmpI z.n y.n, cmpSL z.toks y.toks] :=
              ⟨_, 2, 2, rfl, rfl, .inr ⟨b2, 0, rfl, (cellsAt_one b2 _ 3).le U_le_head⟩⟩
            refine oqon rfl rfl rfl (rig_call rfl rfl M.ez41 (M.Fz41 _ _ _ ho (by simp))) rfl ?_
            refine oqon rfl rfl rfl (rig_geq rfl rfl rfl) rfl ?_
            refine oq rfl (rig_pickT rfl rfl rfl) rfl (od_fin ?_)
            refine ⟨[(0, .slice (some ⟨b, off, none⟩) l.length ca), (5, .slice (some ⟨b, off, none⟩) l.length ca), (6, .int .i64 l.length), (7, .int .i64 i), (58, .bool (decide (0 ≤ orI [cmpI z.n y.n, cmpSL z.toks y.toks])))], ⟨rfl, rfl, rfl, rfl, rfl, trivial⟩, le_at 2 hD9 rfl, ?_⟩
            have : decide (0 ≤ orI [cmpI z.n y.n, cmpSL z.toks y.toks]) = !chk1 (keys l) i := by
              rw [h1, hkz, decide_eq_false (show ¬ i = 0 by omega), Bool.false_or, hzn, hyn]
              show decide (0 ≤ cmpTk z.toks y.toks) = !decide (cmpTk z.toks y.toks < 0)
              by_cases h5 : cmpTk z.toks y.toks < 0
              · rw [decide_eq_true h5, decide_eq_false (by omega)]; rfl
              · rw [decide_eq_false h5, decide_eq_true (by omega)]; rfl
            rw [this]
          · refine awp_draw (.q 0 (.q 1 (.q 2 (.q 3 (.q 4 (.q 5 (.q 6 (.q 7 (.q 8 (.q 9 (.q 10 (.q 11 (.q 12 (.q 13 (.q 14 (.q 15 (.q 16 (.q 17 (.q 18 (.q 19 (.q 20 (.q 21 (.q 22 (.q 23 (.q 24 (.q 25 (.q 26 .fin))))))))))))))))))))))))))) [] (by kernel_rfl) (by kernel_rfl) ?_
            refine oq rfl (rig_move rfl rfl) rfl (oq rfl (rig_gtr rfl rfl rfl) rfl ?_)
            rw [decide_eq_false hi0]
            refine oq rfl (rig_move rfl rfl) rfl ?_
            refine oqno rfl rfl rfl rfl rfl (oqno rfl rfl rfl rfl rfl (oqno rfl rfl rfl rfl rfl (oqno rfl rfl rfl rfl rfl (oqno rfl rfl rfl rfl rfl (oqno rfl rfl rfl rfl rfl (oqno rfl rfl rfl rfl rfl (oqno rfl rfl rfl rfl rfl (oqno rfl rfl rfl rfl rfl (oqno rfl rfl rfl rfl rfl ?_)))))))))
            refine oqno rfl rfl rfl rfl rfl (oqno rfl rfl rfl rfl rfl (oqno rfl rfl rfl rfl rfl (oqno rfl rfl rfl rfl rfl (oqno rfl rfl rfl rfl rfl (oqno rfl rfl rfl rfl rfl (oqno rfl rfl rfl rfl rfl (oqno rfl rfl rfl rfl rfl (oqno rfl rfl rfl rfl rfl (oqno rfl rfl rfl rfl rfl ?_)))))))))
            refine oqno rfl rfl rfl rfl rfl (oqno rfl rfl rfl rfl rfl (oqno rfl rfl rfl rfl rfl ?_))
            refine oq rfl (rig_pickF rfl rfl rfl) rfl (od_fin ?_)
            refine ⟨[(0, .slice (some ⟨b, off, none⟩) l.length ca), (5, .slice (some ⟨b, off, none⟩) l.length ca), (6, .int .i64 l.length), (7, .int .i64 i), (58, .bool false)], ⟨rfl, rfl, rfl, rfl, rfl, trivial⟩, hmU, ?_⟩
            rw [h1, decide_eq_true (show i = 0 by omega)]; rfl
        · rintro r m' ⟨hle2, rfl⟩
          refine awp_cond rfl (fun h3 => ?_) (fun h3 => ?_)
          · refine awp_rs (ao_r (rig_assign rfl rfl) rfl (ao_nil ?_))
            refine awp_ret ⟨_, res1 Tryz.results20 rfl, ?_, hle.trans hle2⟩
            rw [chkB_no (i := i) (by rw [keys_len]; exact hil) (by simpa using h3)]
          · refine awp_skip (hK3 _ _ (awp_region ?_))
            refine ao_r (rig_add (c := ((i + 1 : Nat) : Int)) rfl rfl rfl (w64 _ (by omega) (by omega))) rfl (ao_r (rig_move rfl rfl) rfl (ao_nil ?_))
            refine ⟨[(0, .slice (some ⟨b, off, none⟩) l.length ca), (5, .slice (some ⟨b, off, none⟩) l.length ca), (6, .int .i64 l.length), (7, .int .i64 (i + 1 : Nat))], _, ⟨rfl, rfl, rfl, rfl, trivial⟩, by omega, i + 1, by omega, rfl, rfl, hle.trans hle2, ?_⟩
            rw [List.range_succ, List.all_append, hall]
            have : chk1 (keys l) i = true := by simpa using h3
            simp [this]
  · obtain rfl : i = l.length := by omega
    refine awp_exit (hK1 _ _ (awp_rs (ao_r (rig_assign rfl rfl) rfl (ao_nil ?_))))
    refine awp_ret ⟨_, res1 Tryz.results20 rfl, ?_, hle⟩
    rw [chkB, keys_len, hall]
end Go.Proofs.YtmofaabndjnhjaaGreat
