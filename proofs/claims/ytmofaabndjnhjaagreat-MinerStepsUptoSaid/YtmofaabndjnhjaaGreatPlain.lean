/- Plain: comparisons. -/
import GoSem.Op.String
import Derived.Test.YtmofaabndjnhjaaGreatHeap
import Derived.Lib.FieldsP
import Derived.Shelf.GgClosure.StringsIndexFunc
import Derived.Lib.Bytealg
namespace Go.Pl
open Go
def cmpI (x y : Int) : Int := if x < y then -1 else if y < x then 1 else 0
def cmpS (x y : ByteArray) : Int := if Op.bytesLess x.toList y.toList then -1 else if x = y then 0 else 1
def cmpSL : List ByteArray → List ByteArray → Int
  | [], [] => 0
  | [], _ :: _ => -1
  | _ :: _, [] => 1
  | x :: xs, y :: ys => if cmpS x y = 0 then cmpSL xs ys else cmpS x y
def orI : List Int → Int
  | [] => 0
  | x :: xs => if x = 0 then orI xs else x
end Go.Pl
/- Plain: bytes, digits, fields of a line. -/
set_option linter.unusedVariables false
namespace Go.Aw
open Go
/-- A string made of bytes. -/
def B (l : List UInt8) : ByteArray := ⟨l.toArray⟩
theorem B_data (l : List UInt8) : (B l).data.toList = l := by simp [B]
theorem B_of (s : ByteArray) : B s.data.toList = s := by cases s; simp [B]
theorem B_size (l : List UInt8) : (B l).size = l.length := by simp [B, ByteArray.size]
theorem size_len (s : ByteArray) : s.size = s.data.toList.length := by rw [Array.length_toList]; rfl
theorem extract_B (s : ByteArray) (i j : Nat) : s.extract i j = B ((s.data.toList.drop i).take (j - i)) := by
  rw [← B_of (s.extract i j)]
  congr 1
  simp [ByteArray.data_extract]
def isSp (c : UInt8) : Bool := c == 32 || c == 9
def fieldsGo (cur : List UInt8) : List UInt8 → List (List UInt8)
  | [] => if cur = [] then [] else [cur.reverse]
  | c :: l => if isSp c then (if cur = [] then fieldsGo [] l else cur.reverse :: fieldsGo [] l) else fieldsGo (c :: cur) l
def fieldsB (s : ByteArray) : List ByteArray := (fieldsGo [] s.data.toList).map B
theorem fieldsGo_length : ∀ (l cur : List UInt8), (fieldsGo cur l).length ≤ l.length + 1
  | [], cur => by simp only [fieldsGo]; split <;> simp
  | c :: l, cur => by
    simp only [fieldsGo]
    split
    · split
      · have := fieldsGo_length l []; simp; omega
      · have := fieldsGo_length l []; simp; omega
    · have := fieldsGo_length l (c :: cur); simp; omega
theorem fieldsGo_end {cur l : List UInt8} (h : cur ≠ []) (hl : ∀ c, l.head? = some c → isSp c = true) : fieldsGo cur l = cur.reverse :: fieldsGo [] l := by
  cases l with
  | nil => simp [fieldsGo, h]
  | cons c l => simp [fieldsGo, hl c rfl, h]
theorem drop_getD {l : List UInt8} {i : Nat} (h : i < l.length) : l.drop i = l.getD i 0 :: l.drop (i + 1) := by
  rw [List.drop_eq_getElem_cons h, List.getD_eq_getElem?_getD, List.getElem?_eq_getElem h]; rfl
theorem take_snoc_drop {l : List UInt8} {f i : Nat} (hf : f ≤ i) (h : i < l.length) : (l.drop f).take (i + 1 - f) = (l.drop f).take (i - f) ++ [l.getD i 0] := by
  have hlt : i - f < (l.drop f).length := by simp; omega
  rw [show i + 1 - f = (i - f) + 1 by omega, List.take_succ_eq_append_getElem hlt, List.getD_eq_getElem?_getD, List.getElem?_eq_getElem h]
  simp [show f + (i - f) = i by omega]
def isDig (c : UInt8) : Bool := 48 ≤ c && c ≤ 57
def hasDig (s : List UInt8) : Bool := s.any isDig
theorem hasDig_take {l : List UInt8} {i : Nat} (h : i < l.length) : hasDig (l.take (i + 1)) = (hasDig (l.take i) || isDig (l.getD i 0)) := by
  rw [List.take_succ_eq_append_getElem h, List.getD_eq_getElem?_getD, List.getElem?_eq_getElem h, Option.getD_some]
  simp only [hasDig, List.any_append, List.any_cons, List.any_nil, Bool.or_false]
theorem hasDig_le {l : List UInt8} {i : Nat} (h : hasDig (l.take i) = true) : hasDig l = true := by
  simp only [hasDig, List.any_eq_true] at h ⊢
  obtain ⟨x, hx, hd⟩ := h
  exact ⟨x, List.mem_of_mem_take hx, hd⟩
/-- A token: the empty string where it holds a digit. -/
def varB (s : ByteArray) : ByteArray := if hasDig s.data.toList then B [] else s
/-- The tokens of a line. -/
def toksOf (s : ByteArray) : Option (List ByteArray) := if (fieldsB s).length = 0 ∨ 60 < (fieldsB s).length then none else some ((fieldsB s).map varB)
def bless (a b : ByteArray) : Bool := Go.Op.bytesLess a.toList b.toList
end Go.Aw
/- Plain: sizes of fields, tokens. -/
set_option linter.unusedVariables false
namespace Go.Aw
open Go
theorem fieldsGo_size : ∀ (l cur : List UInt8), ∀ x ∈ fieldsGo cur l, x.length ≤ cur.length + l.length
  | [], cur, x, hx => by
    simp only [fieldsGo] at hx
    split at hx
    · cases hx
    · simp at hx; subst hx; simp
  | c :: l, cur, x, hx => by
    simp only [fieldsGo] at hx
    split at hx
    · split at hx
      · have := fieldsGo_size l [] x hx; simp at this ⊢; omega
      · rcases List.mem_cons.1 hx with rfl | h
        · simp
        · have := fieldsGo_size l [] x h; simp at this ⊢; omega
    · have := fieldsGo_size l (c :: cur) x hx; simp at this ⊢; omega
theorem fieldsB_size {s x : ByteArray} (h : x ∈ fieldsB s) : x.size ≤ s.size := by
  obtain ⟨y, hy, rfl⟩ := List.mem_map.1 h
  have := fieldsGo_size _ _ y hy
  rw [B_size, size_len]; simpa using this
theorem fieldsB_length (s : ByteArray) : (fieldsB s).length ≤ s.size + 1 := by
  rw [fieldsB, List.length_map, size_len]; exact fieldsGo_length _ _
/-- The tokens, as far as they are made. -/
def half (l : List ByteArray) (i : Nat) : List ByteArray := (l.take i).map varB ++ l.drop i
theorem half_zero (l : List ByteArray) : half l 0 = l := by simp [half]
theorem half_all {l : List ByteArray} {i : Nat} (h : l.length ≤ i) : half l i = l.map varB := by simp [half, List.take_of_length_le h, List.drop_of_length_le h]
theorem half_length (l : List ByteArray) (i : Nat) : (half l i).length = l.length := by simp [half]; omega
theorem half_get {l : List ByteArray} {i : Nat} {x : ByteArray} (h : l[i]? = some x) : (half l i)[i]? = some x := by
  have hlt := (List.getElem?_eq_some_iff.1 h).1
  rw [half, List.getElem?_append_right (by simp; omega)]
  simp [Nat.min_eq_left (Nat.le_of_lt hlt), h]
theorem half_succ {l : List ByteArray} {i : Nat} {x : ByteArray} (h : l[i]? = some x) : half l (i + 1) = (half l i).set i (varB x) := by
  have hlt := (List.getElem?_eq_some_iff.1 h).1
  have hx := (List.getElem?_eq_some_iff.1 h).2
  rw [half, half, List.set_append_right _ _ (by simp; omega), List.take_succ_eq_append_getElem hlt, hx, List.drop_eq_getElem_cons hlt]
  simp [Nat.min_eq_left (Nat.le_of_lt hlt), hx]
theorem half_same {l : List ByteArray} {i : Nat} {x : ByteArray} (h : l[i]? = some x) (hd : hasDig x.data.toList = false) : half l (i + 1) = half l i := by
  rw [half_succ h, varB, if_neg (by simp [hd])]
  apply List.ext_getElem?
  intro j
  rw [List.getElem?_set]
  split
  · rename_i e; subst e; rw [half_get h]; split <;> simp_all [half_length]
  · rfl
/-- What of a template is seen. -/
def Tm.key (t : Tm) : List ByteArray × Int := (t.toks, t.cnt)
def keys (l : List Tm) : List (List ByteArray × Int) := l.map Tm.key
end Go.Aw
/- Plain: the library's fields and search by runes, at the blank and at digits. -/
set_option linter.unusedVariables false
namespace Go.Aw
open Go
theorem get_bang (s : ByteArray) (i : Nat) (h : i < s.size) : s.get! i = s.data.toList.getD i 0 := by
  have h' : i < s.data.toList.length := by rw [← size_len]; exact h
  rw [List.getD_eq_getElem?_getD, List.getElem?_eq_getElem h', Option.getD_some]
  simp only [ByteArray.get!, Array.getElem_toList]
  exact getElem!_pos s.data i (by simpa using h)
theorem decode_low {s : ByteArray} {i : Nat} (h : i < s.size) (hb : (s.data.toList.getD i 0).toNat < 128) : Utf8.decode s i = ((s.data.toList.getD i 0).toNat, 1) := by
  unfold Utf8.decode
  simp only [Nat.add_zero, get_bang s i h]
  rw [if_pos hb]
theorem decode_high {s : ByteArray} {i : Nat} (h : i < s.size) (hb : 128 ≤ (s.data.toList.getD i 0).toNat) :
    128 ≤ (Utf8.decode s i).1 ∧ 1 ≤ (Utf8.decode s i).2 ∧ ∀ k, k < (Utf8.decode s i).2 → i + k < s.size ∧ 128 ≤ (s.data.toList.getD (i + k) 0).toNat := by
  have h0 : ∀ k, k < 1 → i + k < s.size ∧ 128 ≤ (s.data.toList.getD (i + k) 0).toNat := fun k hk => by
    obtain rfl : k = 0 := by omega
    exact ⟨h, hb⟩
  have hc : ∀ k, (decide (i + k < s.size) = true ∧ ((s.get! (i + k)).toNat / 64 == 2) = true) → i + k < s.size ∧ 128 ≤ (s.data.toList.getD (i + k) 0).toNat := fun k hk => by
    simp only [decide_eq_true_eq, beq_iff_eq] at hk
    obtain ⟨h1, h2⟩ := hk
    rw [get_bang s _ h1] at h2
    exact ⟨h1, by omega⟩
  unfold Utf8.decode
  simp only [Nat.add_zero, get_bang s i h]
  rw [if_neg (by omega)]
  have herr : 128 ≤ Utf8.runeError := by decide
  split
  · rename_i hx
    simp only [Bool.and_eq_true] at hx
    split
    · rename_i h80
      refine ⟨h80, by simp, fun k hk => ?_⟩
      rcases Nat.lt_or_ge k 1 with h1 | h1
      · exact h0 k h1
      · obtain rfl : k = 1 := by simp at hk; omega
        exact hc 1 hx.2
    · exact ⟨herr, by decide, h0⟩
  · split
    · rename_i hx
      simp only [Bool.and_eq_true] at hx
      split
      · rename_i h80
        simp only [Bool.and_eq_true, decide_eq_true_eq] at h80
        refine ⟨by omega, by simp, fun k hk => ?_⟩
        rcases Nat.lt_or_ge k 1 with h1 | h1
        · exact h0 k h1
        · rcases Nat.lt_or_ge k 2 with h2 | h2
          · obtain rfl : k = 1 := by omega
            exact hc 1 hx.1.2
          · obtain rfl : k = 2 := by simp at hk; omega
            exact hc 2 hx.2
      · exact ⟨herr, by decide, h0⟩
    · split
      · rename_i hx
        simp only [Bool.and_eq_true] at hx
        split
        · rename_i h80
          simp only [Bool.and_eq_true, decide_eq_true_eq] at h80
          refine ⟨by omega, by simp, fun k hk => ?_⟩
          rcases Nat.lt_or_ge k 1 with h1 | h1
          · exact h0 k h1
          · rcases Nat.lt_or_ge k 2 with h2 | h2
            · obtain rfl : k = 1 := by omega
              exact hc 1 hx.1.1.2
            · rcases Nat.lt_or_ge k 3 with h3 | h3
              · obtain rfl : k = 2 := by omega
                exact hc 2 hx.1.2
              · obtain rfl : k = 3 := by simp at hk; omega
                exact hc 3 hx.2
        · exact ⟨herr, by decide, h0⟩
      · exact ⟨herr, by decide, h0⟩
/-- One rune: its bytes are taken one by one; none but the first can be a byte below 128. -/
theorem decode_cases {s : ByteArray} {i : Nat} (h : i < s.size) : ((s.data.toList.getD i 0).toNat < 128 ∧ Utf8.decode s i = ((s.data.toList.getD i 0).toNat, 1)) ∨
    (128 ≤ (Utf8.decode s i).1 ∧ 1 ≤ (Utf8.decode s i).2 ∧ i + (Utf8.decode s i).2 ≤ s.size ∧ ∀ x ∈ (s.data.toList.drop i).take (Utf8.decode s i).2, 128 ≤ x.toNat) := by
  rcases Nat.lt_or_ge (s.data.toList.getD i 0).toNat 128 with hb | hb
  · exact .inl ⟨hb, decode_low h hb⟩
  · obtain ⟨h1, h2, h3⟩ := decode_high h hb
    refine .inr ⟨h1, h2, ?_, fun x hx => ?_⟩
    · have := (h3 ((Utf8.decode s i).2 - 1) (by omega)).1
      omega
    · obtain ⟨k, hk⟩ := List.mem_iff_getElem?.1 hx
      rw [List.getElem?_take] at hk
      split at hk
      · rename_i hlt
        have := (h3 k hlt).2
        rw [List.getElem?_drop] at hk
        rwa [List.getD_eq_getElem?_getD, hk] at this
      · cases hk
def spR (r : Nat) : Bool := r == 32 || r == 9
def digR (r : Nat) : Bool := decide (48 ≤ r) && decide (r ≤ 57)
theorem isSp_high {c : UInt8} (h : 128 ≤ c.toNat) : isSp c = false := by
  rw [Bool.eq_false_iff]
  intro hs
  simp only [isSp, Bool.or_eq_true, beq_iff_eq] at hs
  rcases hs with rfl | rfl <;> simp at h
theorem isSp_spR (c : UInt8) : isSp c = spR c.toNat := by
  rw [Bool.eq_iff_iff]
  simp [isSp, spR, ← UInt8.toNat_inj]
theorem isDig_digR (c : UInt8) : isDig c = digR c.toNat := by
  rw [Bool.eq_iff_iff]
  simp [isDig, digR, UInt8.le_iff_toNat_le]
theorem fieldsGo_run : ∀ (xs cur rest : List UInt8), (∀ x ∈ xs, isSp x = false) → fieldsGo cur (xs ++ rest) = fieldsGo (xs.reverse ++ cur) rest
  | [], cur, rest, _ => rfl
  | x :: xs, cur, rest, h => by
    rw [List.cons_append, fieldsGo, if_neg (by simp [h x (List.mem_cons_self ..)]), fieldsGo_run xs (x :: cur) rest fun y hy => h y (List.mem_cons_of_mem _ hy)]
    simp
theorem take_take_drop {l : List UInt8} {a pos w : Nat} (h : a ≤ pos) (hw : pos + w ≤ l.length) : (l.drop a).take (pos + w - a) = (l.drop a).take (pos - a) ++ (l.drop pos).take w := by
  rw [show pos + w - a = (pos - a) + w by omega, List.take_add, List.drop_drop, show a + (pos - a) = pos by omega]
def curOf (l : List UInt8) (pos : Nat) : Option Nat → List UInt8
  | none => []
  | some a => ((l.drop a).take (pos - a)).reverse
theorem spans_fields (s : ByteArray) : ∀ (f pos : Nat) (st : Option Nat) (acc : List (Nat × Nat)), s.size - pos ≤ f → pos ≤ s.size → (∀ a, st = some a → a < pos) →
    (Lib.closeSpans s (Lib.spansFromP spR s f pos st acc)).map (fun x => s.extract x.1 x.2) = acc.map (fun x => s.extract x.1 x.2) ++ (fieldsGo (curOf s.data.toList pos st) (s.data.toList.drop pos)).map B := by
  intro f
  have hsz := size_len s
  have fin : ∀ (pos : Nat) (st : Option Nat) (acc : List (Nat × Nat)), pos = s.size → (∀ a, st = some a → a < pos) →
      (Lib.closeSpans s (acc, st)).map (fun x => s.extract x.1 x.2) = acc.map (fun x => s.extract x.1 x.2) ++ (fieldsGo (curOf s.data.toList pos st) (s.data.toList.drop pos)).map B := by
    intro pos st acc hp hst
    rw [List.drop_of_length_le (by omega)]
    cases st with
    | none => simp [Lib.closeSpans, curOf, fieldsGo]
    | some a =>
      have ha := hst a rfl
      have hne : ((s.data.toList.drop a).take (pos - a)).reverse ≠ [] := by
        intro e
        have := congrArg List.length e
        simp at this
        omega
      simp only [Lib.closeSpans, curOf, fieldsGo, if_neg hne, List.map_append, List.map_cons, List.map_nil, List.reverse_reverse]
      rw [extract_B, hp]
  induction f with
  | zero =>
    intro pos st acc h1 h2 hst
    exact fin pos st acc (by omega) hst
  | succ f ih =>
    intro pos st acc h1 h2 hst
    unfold Lib.spansFromP
    by_cases hp : pos < s.size
    · rw [if_pos hp]
      have hd := drop_getD (l := s.data.toList) (i := pos) (by omega)
      rcases decode_cases hp with ⟨hb, hdec⟩ | ⟨hr, hw, hle, hx⟩
      · rw [hdec]
        dsimp only
        rw [← isSp_spR]
        by_cases hs : isSp (s.data.toList.getD pos 0) = true
        · rw [if_pos hs, hd, fieldsGo, if_pos hs]
          cases st with
          | none =>
            dsimp only
            rw [ih (pos + 1) none acc (by omega) (by omega) (by simp)]
            simp [curOf]
          | some a =>
            have ha := hst a rfl
            have hne : curOf s.data.toList pos (some a) ≠ [] := by
              intro e
              have := congrArg List.length e
              simp [curOf] at this
              omega
            dsimp only
            rw [ih (pos + 1) none _ (by omega) (by omega) (by simp), if_neg hne]
            simp only [List.map_append, List.map_cons, List.map_nil, List.append_assoc, List.singleton_append, curOf, List.reverse_reverse, extract_B]
        · rw [if_neg hs, hd, fieldsGo, if_neg hs]
          cases st with
          | none =>
            dsimp only
            rw [ih (pos + 1) (some pos) acc (by omega) (by omega) (by simp)]
            congr 3
            simp [curOf, hd]
          | some a =>
            have ha := hst a rfl
            dsimp only
            rw [ih (pos + 1) (some a) acc (by omega) (by omega) (by intro b hb; cases hb; omega)]
            congr 3
            simp only [curOf]
            rw [take_snoc_drop (by omega) (by omega)]
            simp
      · have hs : spR (Utf8.decode s pos).1 = false := by
          simp only [spR, Bool.or_eq_false_iff, beq_eq_false_iff_ne]; omega
        generalize (Utf8.decode s pos).2 = w at *
        rw [hs, if_neg (by simp)]
        have e : s.data.toList.drop pos = (s.data.toList.drop pos).take w ++ s.data.toList.drop (pos + w) := by
          rw [← List.drop_drop, List.take_append_drop]
        have hrun := fieldsGo_run ((s.data.toList.drop pos).take w) (curOf s.data.toList pos st) (s.data.toList.drop (pos + w)) fun x h => isSp_high (hx x h)
        rw [← e] at hrun
        rw [hrun]
        cases st with
        | none =>
          dsimp only
          rw [ih (pos + w) (some pos) acc (by omega) (by omega) (by intro b hb; cases hb; omega)]
          congr 3
          simp [curOf]
        | some a =>
          have ha := hst a rfl
          dsimp only
          rw [ih (pos + w) (some a) acc (by omega) (by omega) (by intro b hb; cases hb; omega)]
          congr 3
          simp only [curOf]
          rw [take_take_drop (by omega) (by omega)]
          simp
    · rw [if_neg hp]
      exact fin pos st acc (by omega) hst
theorem goFields_eq (s : ByteArray) : Lib.goFieldsP spR s = fieldsB s := by
  have := spans_fields s s.size 0 none [] (by omega) (by omega) (by simp)
  simpa [Lib.goFieldsP, Lib.spansOfP, curOf, fieldsB] using this
theorem idx_dig (s : ByteArray) : ∀ (f pos : Nat), s.size - pos ≤ f → pos ≤ s.size → (0 ≤ Lib.idxFuncFrom digR true s f pos ↔ hasDig (s.data.toList.drop pos) = true) := by
  have hsz := size_len s
  have fin : ∀ pos, pos = s.size → ((0 : Int) ≤ -1 ↔ hasDig (s.data.toList.drop pos) = true) := fun pos hp => by
    rw [List.drop_of_length_le (by omega)]; simp [hasDig]
  intro f
  induction f with
  | zero => intro pos h1 h2; exact fin pos (by omega)
  | succ f ih =>
    intro pos h1 h2
    unfold Lib.idxFuncFrom
    by_cases hp : pos < s.size
    · rw [if_pos hp]
      rcases decode_cases hp with ⟨hb, hdec⟩ | ⟨hr, hw, hle, hx⟩
      · rw [hdec, drop_getD (l := s.data.toList) (i := pos) (by omega)]
        dsimp only
        rw [← isDig_digR]
        by_cases hd : isDig (s.data.toList.getD pos 0) = true
        · rw [if_pos hd, show hasDig (s.data.toList.getD pos 0 :: s.data.toList.drop (pos + 1)) = true by rw [hasDig, List.any_cons, hd, Bool.true_or]]; simp
        · rw [if_neg hd, ih (pos + 1) (by omega) (by omega), hasDig, hasDig, List.any_cons, Bool.eq_false_iff.2 hd, Bool.false_or]
      · have hs : digR (Utf8.decode s pos).1 = false := by
          simp only [digR, Bool.and_eq_false_iff, decide_eq_false_iff_not]; omega
        generalize (Utf8.decode s pos).2 = w at *
        rw [hs, if_neg (by simp), ih (pos + w) (by omega) (by omega)]
        have e : s.data.toList.drop pos = (s.data.toList.drop pos).take w ++ s.data.toList.drop (pos + w) := by
          rw [← List.drop_drop, List.take_append_drop]
        have hn : hasDig ((s.data.toList.drop pos).take w) = false := by
          rw [Bool.eq_false_iff]
          intro h
          obtain ⟨x, hm, hd⟩ := List.any_eq_true.1 h
          have := hx x hm
          rw [isDig_digR] at hd
          simp only [digR, Bool.and_eq_true, decide_eq_true_eq] at hd
          omega
        rw [e]
        simp only [hasDig, List.any_append] at hn ⊢
        rw [hn, Bool.false_or]
    · rw [if_neg hp]; exact fin pos (by omega)
theorem idxFunc_dig (s : ByteArray) : decide (0 ≤ Lib.idxFunc digR true s) = hasDig s.data.toList := by
  have := idx_dig s s.size 0 (by omega) (by omega)
  rw [Bool.eq_iff_iff, decide_eq_true_eq]
  simpa [Lib.idxFunc] using this
end Go.Aw
/- Plain: the order of strings. -/
set_option linter.unusedVariables false
namespace Go.Pl
open Go Go.Op
theorem bl_irrefl : ∀ l : List UInt8, bytesLess l l = false
  | [] => rfl
  | a :: l => by simp [bytesLess, bl_irrefl l]
theorem u8_lt {a b : UInt8} : a < b ↔ a.toNat < b.toNat := UInt8.lt_iff_toNat_lt
theorem u8_tri {a b : UInt8} (h : ¬ a < b) (h2 : ¬ b < a) : a = b := by
  rw [u8_lt] at h h2
  exact UInt8.toNat_inj.1 (by omega)
theorem bl_cons {a b : UInt8} {x y : List UInt8} : bytesLess (a :: x) (b :: y) = true ↔ a < b ∨ (a = b ∧ bytesLess x y = true) := by
  simp [bytesLess]
theorem bl_trans : ∀ {x y z : List UInt8}, bytesLess x y = true → bytesLess y z = true → bytesLess x z = true
  | _, _, [], _, h => by simp [bytesLess] at h
  | _, [], _ :: _, h, _ => by simp [bytesLess] at h
  | [], _ :: _, _ :: _, _, _ => by simp [bytesLess]
  | a :: x, b :: y, c :: z, h1, h2 => by
    rw [bl_cons] at h1 h2 ⊢
    rcases h1 with h1 | ⟨rfl, h1⟩
    · rcases h2 with h2 | ⟨rfl, h2⟩
      · left; rw [u8_lt] at *; omega
      · exact .inl h1
    · rcases h2 with h2 | ⟨rfl, h2⟩
      · exact .inl h2
      · exact .inr ⟨rfl, bl_trans h1 h2⟩
theorem bl_tri : ∀ {x y : List UInt8}, bytesLess x y = false → bytesLess y x = false → x = y
  | [], [], _, _ => rfl
  | [], _ :: _, h, _ => by simp [bytesLess] at h
  | _ :: _, [], _, h => by simp [bytesLess] at h
  | a :: x, b :: y, h1, h2 => by
    rw [Bool.eq_false_iff, ne_eq, bl_cons, not_or] at h1 h2
    obtain rfl := u8_tri h1.1 h2.1
    have e1 : bytesLess x y = false := by rw [Bool.eq_false_iff]; exact fun h => h1.2 ⟨rfl, h⟩
    have e2 : bytesLess y x = false := by rw [Bool.eq_false_iff]; exact fun h => h2.2 ⟨rfl, h⟩
    rw [bl_tri e1 e2]
theorem cb_eq : ∀ (x y : List UInt8), Lib.compareBytes x y = if bytesLess x y then -1 else if x = y then 0 else 1
  | [], [] => by simp [Lib.compareBytes, bytesLess]
  | [], _ :: _ => by simp [Lib.compareBytes, bytesLess]
  | _ :: _, [] => by simp [Lib.compareBytes, bytesLess]
  | a :: x, b :: y => by
    unfold Lib.compareBytes
    by_cases h : a < b
    · rw [if_pos h, if_pos (bl_cons.2 (.inl h))]
    · rw [if_neg h]
      by_cases h2 : b < a
      · have hne : a ≠ b := fun e => by subst e; rw [u8_lt] at h2; omega
        rw [if_pos h2, if_neg (by rw [bl_cons]; rintro (h3 | ⟨e, _⟩); exact h h3; exact hne e), if_neg (by simp [hne])]
      · obtain rfl := u8_tri h h2
        rw [if_neg h2, cb_eq x y]
        by_cases h3 : bytesLess x y = true
        · rw [if_pos h3, if_pos (bl_cons.2 (.inr ⟨rfl, h3⟩))]
        · have e : bytesLess (a :: x) (a :: y) = false := by
            rw [Bool.eq_false_iff, ne_eq, bl_cons]
            rintro (h4 | ⟨_, h4⟩)
            · exact h h4
            · exact h3 h4
          rw [if_neg h3, e]
          by_cases h4 : x = y
          · rw [if_pos h4, h4]; simp
          · rw [if_neg h4]; simp [h4]
theorem ba_toList (s : ByteArray) : s.toList = s.data.toList := ByteArray.toList_eq s
theorem ba_inj {s t : ByteArray} (h : s.toList = t.toList) : s = t := by
  rw [ba_toList, ba_toList] at h
  cases s; cases t
  simpa [ByteArray.ext_iff, Array.toList_inj] using h
theorem cmpS_cb (s t : ByteArray) : cmpS s t = Lib.compareBytes s.data.toList t.data.toList := by
  rw [cb_eq, cmpS, ba_toList, ba_toList]
  congr 1
  by_cases h : s = t
  · rw [if_pos h, if_pos (by rw [h])]
  · rw [if_neg h, if_neg (fun e => h (ba_inj (by rw [ba_toList, ba_toList, e])))]
theorem cmpS_zero {s t : ByteArray} : cmpS s t = 0 ↔ s = t := by
  unfold cmpS
  split
  · rename_i h
    refine ⟨fun e => absurd e (by decide), fun e => ?_⟩
    rw [e, bl_irrefl] at h
    cases h
  · split <;> simp_all
theorem cmpS_neg {s t : ByteArray} : cmpS s t < 0 ↔ bytesLess s.toList t.toList = true := by
  unfold cmpS
  split
  · simp_all
  · split <;> simp_all
theorem cmpS_pos {s t : ByteArray} : 0 < cmpS s t ↔ bytesLess t.toList s.toList = true := by
  unfold cmpS
  split
  · rename_i h
    refine ⟨fun e => absurd e (by decide), fun e => ?_⟩
    have := bl_trans h e
    rw [bl_irrefl] at this
    cases this
  · rename_i h
    split
    · rename_i e; rw [e, bl_irrefl]; simp
    · rename_i hne
      refine ⟨fun _ => ?_, fun _ => by decide⟩
      by_cases h2 : bytesLess t.toList s.toList = true
      · exact h2
      · exact absurd (ba_inj (bl_tri (Bool.eq_false_iff.2 h) (Bool.eq_false_iff.2 h2))) hne
theorem cmpS_trans {s t u : ByteArray} (h : cmpS s t < 0) (k : cmpS t u < 0) : cmpS s u < 0 := by
  rw [cmpS_neg] at *
  exact bl_trans h k
theorem cmpS_flip {s t : ByteArray} : cmpS s t < 0 ↔ 0 < cmpS t s := by rw [cmpS_neg, cmpS_pos]
end Go.Pl
/- Plain: what stands at a position: keys in ascending order with their sums. -/
set_option linter.unusedVariables false
namespace Go.Pl
open Go
def sumK (a b : Int) : Int := if a > 9223372036854775807 - b then 9223372036854775807 else a + b
abbrev KV := List (ByteArray × Int)
def insK : KV → ByteArray → Int → KV
  | [], k, n => [(k, sumK 0 n)]
  | (a, x) :: r, k, n => if cmpS a k < 0 then (a, x) :: insK r k n else if a = k then (a, sumK x n) :: r else (k, sumK 0 n) :: (a, x) :: r
def Asc (l : KV) : Prop := l.Pairwise fun a b => cmpS a.1 b.1 < 0
def plK (l : KV) (k : ByteArray) : Nat := l.countP fun a => decide (cmpS a.1 k < 0)
def fdK (l : KV) (k : ByteArray) : Bool := match l[plK l k]? with | some a => decide (a.1 = k) | none => false
theorem plK_tail {a : ByteArray × Int} {r : KV} {k : ByteArray} (h : Asc (a :: r)) (hn : ¬ cmpS a.1 k < 0) : plK (a :: r) k = 0 := by
  rw [plK, List.countP_eq_zero]
  intro b hb
  rw [decide_eq_true_eq]
  rcases List.mem_cons.1 hb with rfl | hb
  · exact hn
  · exact fun hk => hn (cmpS_trans (List.rel_of_pairwise_cons h hb) hk)
theorem plK_cons {a : ByteArray × Int} {r : KV} {k : ByteArray} (hn : cmpS a.1 k < 0) : plK (a :: r) k = plK r k + 1 := by
  rw [plK, List.countP_cons, if_pos (decide_eq_true hn)]; rfl
theorem plK_le (l : KV) (k : ByteArray) : plK l k ≤ l.length := List.countP_le_length
theorem insK_found : ∀ {l : KV} {k : ByteArray} {n x : Int}, Asc l → l[plK l k]? = some (k, x) → insK l k n = l.set (plK l k) (k, sumK x n)
  | [], k, n, x, _, h => by simp [plK] at h
  | (a, y) :: r, k, n, x, hA, h => by
    unfold insK
    by_cases hc : cmpS a k < 0
    · rw [if_pos hc]
      rw [plK_cons (a := (a, y)) hc] at h ⊢
      rw [List.getElem?_cons_succ] at h
      rw [insK_found (List.Pairwise.of_cons hA) h, List.set_cons_succ]
    · rw [plK_tail hA hc] at h ⊢
      simp only [List.getElem?_cons_zero, Option.some.injEq, Prod.mk.injEq] at h
      rw [if_neg hc, if_pos h.1, List.set_cons_zero, h.1, h.2]
theorem insK_new : ∀ {l : KV} {k : ByteArray} {n : Int}, Asc l → fdK l k = false → insK l k n = l.take (plK l k) ++ (k, sumK 0 n) :: l.drop (plK l k)
  | [], k, n, _, h => by simp [insK]
  | (a, y) :: r, k, n, hA, h => by
    unfold insK
    unfold fdK at h
    by_cases hc : cmpS a k < 0
    · rw [if_pos hc]
      rw [plK_cons (a := (a, y)) hc] at h ⊢
      rw [List.getElem?_cons_succ] at h
      rw [insK_new (List.Pairwise.of_cons hA) h, List.take_succ_cons, List.drop_succ_cons, List.cons_append]
    · rw [plK_tail hA hc] at h ⊢
      simp only [List.getElem?_cons_zero, decide_eq_false_iff_not] at h
      rw [if_neg hc, if_neg h]
      rfl
theorem insK_mem {l : KV} {k : ByteArray} {n : Int} : ∀ {b : ByteArray × Int}, b ∈ insK l k n → b.1 = k ∨ ∃ c ∈ l, c.1 = b.1 := by
  induction l with
  | nil => intro b hb; simp [insK] at hb; exact .inl (by rw [hb])
  | cons a r ih =>
    intro b hb
    obtain ⟨a, y⟩ := a
    unfold insK at hb
    split at hb
    · rcases List.mem_cons.1 hb with rfl | hb
      · exact .inr ⟨_, List.mem_cons_self .., rfl⟩
      · rcases ih hb with h | ⟨c, hc, e⟩
        · exact .inl h
        · exact .inr ⟨c, List.mem_cons_of_mem _ hc, e⟩
    · split at hb
      · rcases List.mem_cons.1 hb with rfl | hb
        · exact .inr ⟨_, List.mem_cons_self .., rfl⟩
        · exact .inr ⟨b, List.mem_cons_of_mem _ hb, rfl⟩
      · rcases List.mem_cons.1 hb with rfl | hb
        · exact .inl rfl
        · exact .inr ⟨b, hb, rfl⟩
theorem insK_asc : ∀ {l : KV} {k : ByteArray} {n : Int}, Asc l → Asc (insK l k n)
  | [], k, n, _ => List.pairwise_singleton _ _
  | (a, y) :: r, k, n, hA => by
    have hr := List.Pairwise.of_cons hA
    have h1 : ∀ b ∈ r, cmpS a b.1 < 0 := fun b hb => List.rel_of_pairwise_cons hA hb
    unfold insK
    split
    · rename_i hc
      refine List.pairwise_cons.2 ⟨fun b hb => ?_, insK_asc hr⟩
      rcases insK_mem hb with e | ⟨c, hc2, e⟩
      · rw [e]; exact hc
      · rw [← e]; exact h1 c hc2
    · rename_i hc
      split
      · exact List.pairwise_cons.2 ⟨h1, hr⟩
      · rename_i hne
        have hka : cmpS k a < 0 := by
          rw [cmpS_flip]
          have h0 : cmpS a k ≠ 0 := fun h => hne (cmpS_zero.1 h)
          omega
        refine List.pairwise_cons.2 ⟨fun b hb => ?_, hA⟩
        rcases List.mem_cons.1 hb with rfl | hb
        · exact hka
        · exact cmpS_trans hka (h1 b hb)
end Go.Pl
/- Plain: templates of elements, on keys. -/
set_option linter.unusedVariables false
namespace Go.Pl
open Go
/-- An element: its tokens and its count. -/
abbrev El := List ByteArray × Int
def em : ByteArray := ⟨#[]⟩
def atQ (q : List El) (p : Nat) : KV := q.foldl (fun acc t => insK acc (t.1.getD p em) t.2) []
def totQ (q : List El) : Int := q.foldl (fun n t => sumK n t.2) 0
def splQ (t : KV) : Bool := decide (2 ≤ t.length) && decide (t.length ≤ 4) && !t.any fun a => decide (a.1 = em) || decide (a.2 < 2)
/-- The token of a template at a position where its group is not split. -/
def tokQ (t : KV) : ByteArray := if 1 < t.length then em else (t.head?.map (·.1)).getD em
/-- The first position at which a group is split, or the tokens of its template. -/
def walkQ (q : List El) : Nat → Nat → List ByteArray → List ByteArray ⊕ Nat
  | 0, _, acc => .inl acc
  | n + 1, p, acc => if splQ (atQ q p) then .inr p else walkQ q n (p + 1) (acc ++ [tokQ (atQ q p)])
def widQ (q : List El) : Nat := (q.headD ([], 0)).1.length
def mineQ : Nat → List El → List El
  | 0, _ => []
  | f + 1, q => match walkQ q (widQ q) 0 [] with
    | .inl acc => [(acc, totQ q)]
    | .inr p => (atQ q p).flatMap fun a => mineQ f (q.filter fun t => decide (t.1.getD p em = a.1))
/-- Insertions of two elements in either order. -/
theorem sumK_comm (a b c : Int) (ha : 0 ≤ a) (hb : 0 ≤ b) (hc : 0 ≤ c) (ha2 : a ≤ 9223372036854775807) (hb2 : b ≤ 9223372036854775807) (hc2 : c ≤ 9223372036854775807) : sumK (sumK a b) c = sumK (sumK a c) b := by
  unfold sumK; repeat' split
  all_goals omega
def okC (n : Int) : Prop := 0 ≤ n ∧ n ≤ 9223372036854775807
theorem sumK_ok {a b : Int} (ha : okC a) (hb : okC b) : okC (sumK a b) := by
  unfold okC at *; unfold sumK; split <;> omega
def okKV (l : KV) : Prop := ∀ a ∈ l, okC a.2
theorem insK_ok {l : KV} {k : ByteArray} {n : Int} (h : okKV l) (hn : okC n) : okKV (insK l k n) := by
  induction l with
  | nil =>
    intro a ha
    simp [insK] at ha
    rw [ha]
    exact sumK_ok ⟨by omega, by omega⟩ hn
  | cons b r ih =>
    obtain ⟨b, x⟩ := b
    have hr : okKV r := fun a ha => h a (List.mem_cons_of_mem _ ha)
    have hx : okC x := h _ (List.mem_cons_self ..)
    intro a ha
    unfold insK at ha
    split at ha
    · rcases List.mem_cons.1 ha with rfl | ha
      · exact hx
      · exact ih hr a ha
    · split at ha
      · rcases List.mem_cons.1 ha with rfl | ha
        · exact sumK_ok hx hn
        · exact hr a ha
      · rcases List.mem_cons.1 ha with rfl | ha
        · exact sumK_ok ⟨by omega, by omega⟩ hn
        · exact h a ha
theorem cmpS_self (k : ByteArray) : ¬ cmpS k k < 0 := by
  have := cmpS_zero (s := k) (t := k)
  have h := this.2 rfl
  omega
end Go.Pl
/- Plain: insertions in either order. -/
set_option linter.unusedVariables false
namespace Go.Pl
open Go
theorem triS (s t : ByteArray) : (cmpS s t < 0 ∧ s ≠ t ∧ ¬ cmpS t s < 0) ∨ s = t ∨ (cmpS t s < 0 ∧ s ≠ t ∧ ¬ cmpS s t < 0) := by
  by_cases h : s = t
  · exact .inr (.inl h)
  · by_cases h1 : cmpS s t < 0
    · refine .inl ⟨h1, h, fun h2 => ?_⟩
      exact cmpS_self s (cmpS_trans h1 h2)
    · refine .inr (.inr ⟨?_, h, h1⟩)
      rw [cmpS_flip]
      have h0 : cmpS s t ≠ 0 := fun e => h (cmpS_zero.1 e)
      omega
theorem insK_lt {a k : ByteArray} {x n : Int} {r : KV} (h : cmpS a k < 0) : insK ((a, x) :: r) k n = (a, x) :: insK r k n := by rw [insK, if_pos h]
theorem insK_eq {a : ByteArray} {x n : Int} {r : KV} : insK ((a, x) :: r) a n = (a, sumK x n) :: r := by rw [insK, if_neg (cmpS_self a), if_pos rfl]
theorem insK_gt {a k : ByteArray} {x n : Int} {r : KV} (h : cmpS k a < 0) : insK ((a, x) :: r) k n = (k, sumK 0 n) :: (a, x) :: r := by
  rcases triS a k with ⟨_, _, h1⟩ | rfl | ⟨_, hne, h1⟩
  · exact absurd h h1
  · exact absurd h (cmpS_self a)
  · rw [insK, if_neg h1, if_neg hne]
theorem insK_comm {k k' : ByteArray} {n n' : Int} (hn : okC n) (hn' : okC n') : ∀ {l : KV}, okKV l → insK (insK l k n) k' n' = insK (insK l k' n') k n
  | [], _ => by
    have z : okC 0 := ⟨by omega, by omega⟩
    show insK [(k, sumK 0 n)] k' n' = insK [(k', sumK 0 n')] k n
    rcases triS k k' with ⟨h, _, _⟩ | rfl | ⟨h, _, _⟩
    · rw [insK_lt h, insK_gt h]; rfl
    · rw [insK_eq, insK_eq, sumK_comm 0 n n' z.1 hn.1 hn'.1 z.2 hn.2 hn'.2]
    · rw [insK_gt h, insK_lt h]; rfl
  | (a, x) :: r, hok => by
    have hr : okKV r := fun b hb => hok b (List.mem_cons_of_mem _ hb)
    have hx : okC x := hok _ (List.mem_cons_self ..)
    have z : okC 0 := ⟨by omega, by omega⟩
    rcases triS a k with ⟨h1, _, _⟩ | rfl | ⟨h1, _, _⟩
    · rcases triS a k' with ⟨h2, _, _⟩ | rfl | ⟨h2, _, _⟩
      · rw [insK_lt h1, insK_lt h2, insK_lt h2, insK_lt h1, insK_comm hn hn' hr]
      · rw [insK_lt h1, insK_eq, insK_eq, insK_lt h1]
      · rw [insK_lt h1, insK_gt h2, insK_gt h2, insK_lt (cmpS_trans h2 h1), insK_lt h1]
    · rcases triS a k' with ⟨h2, _, _⟩ | rfl | ⟨h2, _, _⟩
      · rw [insK_eq, insK_lt h2, insK_lt h2, insK_eq]
      · rw [insK_eq, insK_eq, insK_eq, insK_eq, sumK_comm x n n' hx.1 hn.1 hn'.1 hx.2 hn.2 hn'.2]
      · rw [insK_eq, insK_gt h2, insK_gt h2, insK_lt h2, insK_eq]
    · rcases triS a k' with ⟨h2, _, _⟩ | rfl | ⟨h2, _, _⟩
      · rw [insK_gt h1, insK_lt (cmpS_trans h1 h2), insK_lt h2, insK_gt h1]
      · rw [insK_gt h1, insK_lt h1, insK_eq, insK_gt h1]
      · rw [insK_gt h1, insK_gt h2]
        rcases triS k k' with ⟨h3, _, _⟩ | rfl | ⟨h3, _, _⟩
        · rw [insK_lt h3, insK_gt h2, insK_gt h3]
        · rw [insK_eq, insK_eq, sumK_comm 0 n n' z.1 hn.1 hn'.1 z.2 hn.2 hn'.2]
        · rw [insK_gt h3, insK_lt h3, insK_gt h1]
end Go.Pl
/- Plain: what does not hang on the order. -/
set_option linter.unusedVariables false
namespace Go.Pl
open Go
theorem fold_perm {p : Nat} {q q' : List El} (h : q.Perm q') : ∀ acc : KV, okKV acc → (∀ t ∈ q, okC t.2) → q.foldl (fun acc t => insK acc (t.1.getD p em) t.2) acc = q'.foldl (fun acc t => insK acc (t.1.getD p em) t.2) acc := by
  induction h with
  | nil => intro acc _ _; rfl
  | cons x _ ih =>
    intro acc ha hq
    exact ih _ (insK_ok ha (hq x (List.mem_cons_self ..))) fun t ht => hq t (List.mem_cons_of_mem _ ht)
  | swap x y l =>
    intro acc ha hq
    simp only [List.foldl_cons]
    rw [insK_comm (hq y (List.mem_cons_self ..)) (hq x (List.mem_cons_of_mem _ (List.mem_cons_self ..))) ha]
  | trans h1 _ ih1 ih2 =>
    intro acc ha hq
    rw [ih1 acc ha hq, ih2 acc ha fun t ht => hq t (h1.mem_iff.2 ht)]
theorem atQ_perm {p : Nat} {q q' : List El} (h : q.Perm q') (hq : ∀ t ∈ q, okC t.2) : atQ q p = atQ q' p :=
  fold_perm h [] (fun a ha => by cases ha) hq
theorem tot_perm {q q' : List El} (h : q.Perm q') : ∀ n : Int, okC n → (∀ t ∈ q, okC t.2) → q.foldl (fun n t => sumK n t.2) n = q'.foldl (fun n t => sumK n t.2) n := by
  induction h with
  | nil => intro n _ _; rfl
  | cons x _ ih =>
    intro n hn hq
    exact ih _ (sumK_ok hn (hq x (List.mem_cons_self ..))) fun t ht => hq t (List.mem_cons_of_mem _ ht)
  | swap x y l =>
    intro n hn hq
    have hx := hq x (List.mem_cons_of_mem _ (List.mem_cons_self ..))
    have hy := hq y (List.mem_cons_self ..)
    simp only [List.foldl_cons]
    rw [sumK_comm n y.2 x.2 hn.1 hy.1 hx.1 hn.2 hy.2 hx.2]
  | trans h1 _ ih1 ih2 =>
    intro n hn hq
    rw [ih1 n hn hq, ih2 n hn fun t ht => hq t (h1.mem_iff.2 ht)]
theorem totQ_perm {q q' : List El} (h : q.Perm q') (hq : ∀ t ∈ q, okC t.2) : totQ q = totQ q' :=
  tot_perm h 0 ⟨by omega, by omega⟩ hq
theorem walkQ_perm {q q' : List El} (h : q.Perm q') (hq : ∀ t ∈ q, okC t.2) : ∀ (n p : Nat) (acc : List ByteArray), walkQ q n p acc = walkQ q' n p acc
  | 0, _, _ => rfl
  | n + 1, p, acc => by
    unfold walkQ
    rw [atQ_perm h hq]
    split
    · rfl
    · exact walkQ_perm h hq n (p + 1) _
theorem widQ_of {q : List El} {w : Nat} (hw : ∀ t ∈ q, t.1.length = w) (hne : q ≠ []) : widQ q = w := by
  cases q with
  | nil => exact absurd rfl hne
  | cons t r => exact hw t (List.mem_cons_self ..)
theorem mineQ_perm {w : Nat} : ∀ (f : Nat) {q q' : List El}, q.Perm q' → (∀ t ∈ q, okC t.2) → (∀ t ∈ q, t.1.length = w) → mineQ f q = mineQ f q'
  | 0, _, _, _, _, _ => rfl
  | f + 1, q, q', h, hq, hw => by
    have hwid : widQ q = widQ q' := by
      cases q with
      | nil => rw [h.nil_eq]
      | cons t r =>
        have hne : q' ≠ [] := fun e => by rw [e] at h; exact absurd h.length_eq (by simp)
        rw [widQ_of hw (by simp), widQ_of (fun t ht => hw t (h.mem_iff.2 ht)) hne]
    unfold mineQ
    rw [hwid, walkQ_perm h hq, totQ_perm h hq]
    split
    · rfl
    · rename_i p _
      rw [atQ_perm h hq]
      congr 1
      funext a
      exact mineQ_perm f (h.filter _) (fun t ht => hq t ((List.mem_filter.1 ht).1)) (fun t ht => hw t ((List.mem_filter.1 ht).1))
end Go.Pl
/- Plain: elements brought to the front. -/
set_option linter.unusedVariables false
namespace Go.Pl
open Go
section
variable {α : Type} {p : α → Bool} {R cur : List α} {i n : Nat} {x : α}
/-- Of the first i elements those that p takes stand in front, in their order. -/
def Part (p : α → Bool) (R : List α) (i n : Nat) (cur : List α) : Prop :=
  ∃ C, cur = (R.take i).filter p ++ C ++ R.drop i ∧ C.Perm ((R.take i).filter fun x => !p x) ∧ n = ((R.take i).filter p).length
theorem Part.start : Part p R 0 0 R := ⟨[], by simp, by simp, by simp⟩
theorem Part.len (h : Part p R i n cur) (hi : i ≤ R.length) : ∃ C, cur = (R.take i).filter p ++ C ++ R.drop i ∧ C.Perm ((R.take i).filter fun x => !p x) ∧ n = ((R.take i).filter p).length ∧ ((R.take i).filter p).length + C.length = i ∧ cur.length = R.length := by
  obtain ⟨C, h1, h2, h3⟩ := h
  have h4 := (List.filter_append_perm p (R.take i)).length_eq
  rw [List.length_append, List.length_take, Nat.min_eq_left hi, ← h2.length_eq] at h4
  refine ⟨C, h1, h2, h3, h4, ?_⟩
  rw [h1, List.length_append, List.length_append, h4, List.length_drop]; omega
theorem Part.le (h : Part p R i n cur) (hi : i ≤ R.length) : n ≤ i ∧ cur.length = R.length := by
  obtain ⟨C, _, _, h3, h4, h5⟩ := h.len hi
  exact ⟨by omega, h5⟩
theorem Part.get (h : Part p R i n cur) (hx : R[i]? = some x) : cur[i]? = some x := by
  have hlt := (List.getElem?_eq_some_iff.1 hx).1
  obtain ⟨C, h1, _, h3, h4, _⟩ := h.len (by omega)
  rw [h1, List.getElem?_append_right (by rw [List.length_append]; omega), List.length_append, h4, Nat.sub_self, List.getElem?_drop, Nat.add_zero]
  exact hx
theorem take_succ_get (hx : R[i]? = some x) : R.take (i + 1) = R.take i ++ [x] := by
  obtain ⟨h1, h2⟩ := List.getElem?_eq_some_iff.1 hx
  rw [List.take_succ_eq_append_getElem h1, h2]
theorem drop_get (hx : R[i]? = some x) : R.drop i = x :: R.drop (i + 1) := by
  obtain ⟨h1, h2⟩ := List.getElem?_eq_some_iff.1 hx
  rw [List.drop_eq_getElem_cons h1, h2]
theorem Part.no (h : Part p R i n cur) (hx : R[i]? = some x) (hp : p x = false) : Part p R (i + 1) n cur := by
  obtain ⟨C, h1, h2, h3⟩ := h
  refine ⟨C ++ [x], ?_, ?_, ?_⟩
  · rw [h1, take_succ_get hx, drop_get hx, List.filter_append]; simp [hp]
  · rw [take_succ_get hx, List.filter_append]; simp only [List.filter_cons, hp, Bool.not_false, if_true, List.filter_nil]; exact h2.append_right [x]
  · rw [take_succ_get hx, List.filter_append, h3]; simp [hp]
theorem Part.yes {y : α} (h : Part p R i n cur) (hx : R[i]? = some x) (hp : p x = true) (hy : cur[n]? = some y) : Part p R (i + 1) (n + 1) ((cur.set i y).set n x) := by
  have hlt := (List.getElem?_eq_some_iff.1 hx).1
  obtain ⟨C, h1, h2, h3, h4, _⟩ := h.len (by omega)
  have e1 : (R.take (i + 1)).filter p = (R.take i).filter p ++ [x] := by rw [take_succ_get hx, List.filter_append]; simp [hp]
  have e2 : ((R.take (i + 1)).filter fun x => !p x) = (R.take i).filter fun x => !p x := by rw [take_succ_get hx, List.filter_append]; simp [hp]
  have hcur := h1
  rw [drop_get hx] at hcur
  generalize (R.take i).filter p = A at *
  cases C with
  | nil =>
    have hni : n = i := by simp at h4; omega
    subst hni
    have hc : cur = A ++ x :: R.drop (n + 1) := by rw [hcur]; simp
    have hyx : y = x := by
      rw [hc, List.getElem?_append_right (by omega), h3, Nat.sub_self] at hy; simpa using hy.symm
    subst hyx
    refine ⟨[], ?_, by rw [e2]; exact h2, by rw [e1]; simp; omega⟩
    rw [e1, hc, List.set_append_right _ _ (by omega), h3, Nat.sub_self, List.set_cons_zero, List.set_append_right _ _ (by omega), Nat.sub_self, List.set_cons_zero]
    simp
  | cons b C =>
    have hyb : y = b := by
      rw [hcur, List.append_assoc, List.getElem?_append_right (by omega), h3, Nat.sub_self] at hy; simpa using hy.symm
    subst hyb
    refine ⟨C ++ [y], ?_, by rw [e2]; exact (List.perm_append_comm.trans (by simp)).trans h2, by rw [e1]; simp; omega⟩
    have hl : i = (A ++ y :: C).length := by rw [List.length_append]; omega
    rw [e1, hcur, List.set_append_right _ _ (by omega), hl, Nat.sub_self, List.set_cons_zero, List.append_assoc, List.set_append_right _ _ (by omega), h3, Nat.sub_self]
    simp
theorem Part.fin (h : Part p R R.length n cur) : n = (R.filter p).length ∧ ∃ C, cur = R.filter p ++ C ∧ C.Perm (R.filter fun x => !p x) := by
  obtain ⟨C, h1, h2, h3⟩ := h
  simp only [List.take_length, List.drop_length, List.append_nil] at h1 h2 h3
  exact ⟨h3, C, h1, h2⟩
end
end Go.Pl
/- Plain: the parts of a group. -/
set_option linter.unusedVariables false
namespace Go.Pl
open Go
theorem insK_keys {k : ByteArray} {n : Int} {c : ByteArray} : ∀ {l : KV}, (∃ b ∈ insK l k n, b.1 = c) ↔ c = k ∨ ∃ b ∈ l, b.1 = c := by
  intro l
  induction l with
  | nil => simp [insK, eq_comm]
  | cons a r ih =>
    obtain ⟨a, x⟩ := a
    unfold insK
    split
    · simp only [List.mem_cons, exists_eq_or_imp]
      rw [ih]
      constructor
      · rintro (h | h | h)
        · exact .inr (.inl h)
        · exact .inl h
        · exact .inr (.inr h)
      · rintro (h | h | h)
        · exact .inr (.inl h)
        · exact .inl h
        · exact .inr (.inr h)
    · split
      · rename_i h
        subst h
        simp only [List.mem_cons, exists_eq_or_imp]
        constructor
        · exact fun h => .inr h
        · rintro (h | h)
          · exact .inl h.symm
          · exact h
      · simp only [List.mem_cons, exists_eq_or_imp]
        constructor
        · rintro (h | h)
          · exact .inl h.symm
          · exact .inr h
        · rintro (h | h)
          · exact .inl h.symm
          · exact .inr h
theorem foldK_keys {p : Nat} {c : ByteArray} : ∀ (q : List El) (acc : KV), (∃ b ∈ q.foldl (fun acc t => insK acc (t.1.getD p em) t.2) acc, b.1 = c) ↔ (∃ b ∈ acc, b.1 = c) ∨ ∃ t ∈ q, t.1.getD p em = c
  | [], acc => by simp
  | t :: q, acc => by
    rw [List.foldl_cons, foldK_keys q, insK_keys]
    simp only [List.mem_cons, exists_eq_or_imp]
    constructor
    · rintro ((h | h) | h)
      · exact .inr (.inl h.symm)
      · exact .inl h
      · exact .inr (.inr h)
    · rintro (h | h | h)
      · exact .inl (.inr h)
      · exact .inl (.inl h.symm)
      · exact .inr h
theorem atQ_keys {q : List El} {p : Nat} {c : ByteArray} : (∃ b ∈ atQ q p, b.1 = c) ↔ ∃ t ∈ q, t.1.getD p em = c := by
  rw [atQ, foldK_keys]; simp
theorem foldK_asc {p : Nat} : ∀ (q : List El) (acc : KV), Asc acc → Asc (q.foldl (fun acc t => insK acc (t.1.getD p em) t.2) acc)
  | [], acc, h => h
  | t :: q, acc, h => foldK_asc q _ (insK_asc h)
theorem atQ_asc (q : List El) (p : Nat) : Asc (atQ q p) := foldK_asc q [] List.Pairwise.nil
theorem insK_len (l : KV) (k : ByteArray) (n : Int) : (insK l k n).length ≤ l.length + 1 := by
  induction l with
  | nil => simp [insK]
  | cons a r ih =>
    unfold insK
    split
    · simp; omega
    · split <;> simp
theorem foldK_len {p : Nat} : ∀ (q : List El) (acc : KV), (q.foldl (fun acc t => insK acc (t.1.getD p em) t.2) acc).length ≤ acc.length + q.length
  | [], acc => by simp
  | t :: q, acc => by
    have h1 := foldK_len (p := p) q (insK acc (t.1.getD p em) t.2)
    have h2 := insK_len acc (t.1.getD p em) t.2
    simp only [List.foldl_cons, List.length_cons]; omega
theorem atQ_len (q : List El) (p : Nat) : (atQ q p).length ≤ q.length := by have := foldK_len (p := p) q []; simpa [atQ] using this
theorem atQ_ne {q : List El} {p : Nat} (h : q ≠ []) : atQ q p ≠ [] := by
  cases q with
  | nil => exact absurd rfl h
  | cons t q =>
    intro e
    obtain ⟨b, hb, _⟩ := (atQ_keys (q := t :: q) (p := p)).2 ⟨t, List.mem_cons_self .., rfl⟩
    rw [e] at hb; cases hb
theorem asc_take {L : KV} (h : Asc L) {j : Nat} {b : ByteArray × Int} (hb : L[j]? = some b) {a : ByteArray × Int} (ha : a ∈ L.take j) : a.1 ≠ b.1 := by
  obtain ⟨i, hi⟩ := List.mem_iff_getElem?.1 ha
  have hlt := (List.getElem?_eq_some_iff.1 hi).1
  rw [List.length_take] at hlt
  rw [List.getElem?_take_of_lt (by omega)] at hi
  obtain ⟨h1, e1⟩ := List.getElem?_eq_some_iff.1 hi
  obtain ⟨h2, e2⟩ := List.getElem?_eq_some_iff.1 hb
  have := List.pairwise_iff_getElem.1 h i j h1 h2 (by omega)
  rw [e1, e2] at this
  intro e
  rw [e] at this
  exact cmpS_self _ this
/-- A part of a group that is split is smaller. -/
theorem part_short {q : List El} {p : Nat} {a : ByteArray × Int} (ha : a ∈ atQ q p) (h2 : 2 ≤ (atQ q p).length) : (q.filter fun t => decide (t.1.getD p em = a.1)).length < q.length := by
  have hA := atQ_asc q p
  generalize hL : atQ q p = L at *
  obtain ⟨b, hb, hne⟩ : ∃ b ∈ L, b.1 ≠ a.1 := by
    match L, h2 with
    | x :: y :: r, _ =>
      have h1 : cmpS x.1 y.1 < 0 := List.rel_of_pairwise_cons hA (List.mem_cons_self ..)
      by_cases hx : x.1 = a.1
      · refine ⟨y, by simp, fun hy => ?_⟩
        rw [hx, hy] at h1
        exact cmpS_self _ h1
      · exact ⟨x, by simp, hx⟩
  rw [← hL] at hb
  obtain ⟨t, ht, e⟩ := atQ_keys.1 ⟨b, hb, rfl⟩
  refine List.length_filter_lt_length_iff_exists.2 ⟨t, ht, ?_⟩
  rw [decide_eq_true_eq, e]; exact hne
section
variable {α : Type} {l R C : List α} {e pr : α → Bool}
theorem part_front (h : R.Perm (l.filter fun t => !e t)) (hd : ∀ t ∈ l, pr t = true → e t = false) : (R.filter pr).Perm (l.filter pr) := by
  refine (h.filter pr).trans ?_
  rw [List.filter_filter]
  refine List.Perm.of_eq (List.filter_congr fun t ht => ?_)
  cases hp : pr t with
  | false => rfl
  | true => rw [hd t ht hp]; rfl
theorem part_back (h : R.Perm (l.filter fun t => !e t)) (hC : C.Perm (R.filter fun t => !pr t)) : C.Perm (l.filter fun t => !(e t || pr t)) := by
  refine hC.trans ((h.filter _).trans ?_)
  rw [List.filter_filter]
  refine List.Perm.of_eq (List.filter_congr fun t _ => ?_)
  cases e t <;> cases pr t <;> rfl
end
end Go.Pl
/- Plain: the order of templates is total; a sorted list is told by its elements. -/
set_option linter.unusedVariables false
namespace Go.Pl
open Go
theorem cmpI_neg {x y : Int} : cmpI x y < 0 ↔ x < y := by unfold cmpI; (repeat' split) <;> omega
theorem cmpI_zero {x y : Int} : cmpI x y = 0 ↔ x = y := by unfold cmpI; (repeat' split) <;> omega
theorem cmpSL_zero : ∀ {x y : List ByteArray}, cmpSL x y = 0 ↔ x = y
  | [], [] => by simp [cmpSL]
  | [], _ :: _ => by simp [cmpSL]
  | _ :: _, [] => by simp [cmpSL]
  | a :: x, b :: y => by
    unfold cmpSL
    by_cases h : cmpS a b = 0
    · rw [if_pos h, cmpSL_zero, cmpS_zero.1 h]; simp
    · rw [if_neg h]
      refine ⟨fun e => absurd e h, fun e => ?_⟩
      rw [List.cons.injEq] at e
      exact absurd (cmpS_zero.2 e.1) h
theorem cmpSL_cons {a b : ByteArray} {x y : List ByteArray} : cmpSL (a :: x) (b :: y) < 0 ↔ cmpS a b < 0 ∨ (a = b ∧ cmpSL x y < 0) := by
  rw [cmpSL]
  by_cases h : cmpS a b = 0
  · rw [if_pos h, h, cmpS_zero.1 h]; simp
  · rw [if_neg h]
    have : a ≠ b := fun e => h (cmpS_zero.2 e)
    simp [this]
theorem cmpSL_trans : ∀ {x y z : List ByteArray}, cmpSL x y < 0 → cmpSL y z < 0 → cmpSL x z < 0
  | [], _, [], h1, h2 => by
    rename_i y
    cases y <;> simp [cmpSL] at h1 h2
  | [], _, _ :: _, _, _ => by simp [cmpSL]
  | _ :: _, [], _, h, _ => by simp [cmpSL] at h
  | _ :: _, _ :: _, [], _, h => by simp [cmpSL] at h
  | a :: x, b :: y, c :: z, h1, h2 => by
    rw [cmpSL_cons] at *
    rcases h1 with h1 | ⟨rfl, h1⟩
    · rcases h2 with h2 | ⟨rfl, h2⟩
      · exact .inl (cmpS_trans h1 h2)
      · exact .inl h1
    · rcases h2 with h2 | ⟨rfl, h2⟩
      · exact .inl h2
      · exact .inr ⟨rfl, cmpSL_trans h1 h2⟩
theorem cmpSL_tri : ∀ (x y : List ByteArray), cmpSL x y < 0 ∨ x = y ∨ cmpSL y x < 0
  | [], [] => .inr (.inl rfl)
  | [], _ :: _ => .inl (by simp [cmpSL])
  | _ :: _, [] => .inr (.inr (by simp [cmpSL]))
  | a :: x, b :: y => by
    rw [cmpSL_cons, cmpSL_cons]
    rcases triS a b with ⟨h, _, _⟩ | rfl | ⟨h, _, _⟩
    · exact .inl (.inl h)
    · rcases cmpSL_tri x y with h | rfl | h
      · exact .inl (.inr ⟨rfl, h⟩)
      · exact .inr (.inl rfl)
      · exact .inr (.inr (.inr ⟨rfl, h⟩))
    · exact .inr (.inr (.inl h))
theorem cmpSL_self (x : List ByteArray) : ¬ cmpSL x x < 0 := by
  have := (cmpSL_zero (x := x) (y := x)).2 rfl
  omega
def cmpE (a b : El) : Int := orI [cmpI a.1.length b.1.length, cmpSL a.1 b.1, cmpI a.2 b.2]
theorem cmpE_neg {a b : El} : cmpE a b < 0 ↔ a.1.length < b.1.length ∨ (a.1.length = b.1.length ∧ (cmpSL a.1 b.1 < 0 ∨ (a.1 = b.1 ∧ a.2 < b.2))) := by
  unfold cmpE
  simp only [orI]
  by_cases h : cmpI a.1.length b.1.length = 0
  · rw [if_pos h]
    rw [cmpI_zero] at h
    by_cases h2 : cmpSL a.1 b.1 = 0
    · rw [if_pos h2]
      have h3 := cmpSL_zero.1 h2
      have h4 : ¬ cmpSL a.1 b.1 < 0 := by omega
      have e : (if cmpI a.2 b.2 = 0 then (0 : Int) else cmpI a.2 b.2) = cmpI a.2 b.2 := by split <;> omega
      rw [e, cmpI_neg]
      constructor
      · exact fun h5 => .inr ⟨by omega, .inr ⟨h3, h5⟩⟩
      · rintro (h5 | ⟨_, h5 | ⟨_, h5⟩⟩)
        · omega
        · exact absurd h5 h4
        · exact h5
    · rw [if_neg h2]
      have h3 : a.1 ≠ b.1 := fun e => h2 (cmpSL_zero.2 e)
      constructor
      · exact fun h5 => .inr ⟨by omega, .inl h5⟩
      · rintro (h5 | ⟨_, h5 | ⟨h5, _⟩⟩)
        · omega
        · exact h5
        · exact absurd h5 h3
  · rw [if_neg h, cmpI_neg]
    rw [cmpI_zero] at h
    constructor
    · exact fun h5 => .inl (by omega)
    · rintro (h5 | ⟨h5, _⟩) <;> omega
theorem cmpE_irr (a : El) : ¬ cmpE a a < 0 := by
  rw [cmpE_neg]
  rintro (h | ⟨_, h | ⟨_, h⟩⟩)
  · omega
  · exact cmpSL_self _ h
  · omega
theorem cmpE_trans {a b c : El} (h1 : cmpE a b < 0) (h2 : cmpE b c < 0) : cmpE a c < 0 := by
  rw [cmpE_neg] at *
  rcases h1 with h1 | ⟨e1, h1⟩
  · rcases h2 with h2 | ⟨e2, _⟩ <;> exact .inl (by omega)
  · rcases h2 with h2 | ⟨e2, h2⟩
    · exact .inl (by omega)
    · refine .inr ⟨by omega, ?_⟩
      rcases h1 with h1 | ⟨q1, h1⟩
      · rcases h2 with h2 | ⟨q2, h2⟩
        · exact .inl (cmpSL_trans h1 h2)
        · rw [← q2]; exact .inl h1
      · rcases h2 with h2 | ⟨q2, h2⟩
        · rw [q1]; exact .inl h2
        · exact .inr ⟨q1.trans q2, by omega⟩
theorem cmpE_tri (a b : El) : cmpE a b < 0 ∨ a = b ∨ cmpE b a < 0 := by
  rw [cmpE_neg, cmpE_neg]
  obtain ⟨x, n⟩ := a
  obtain ⟨y, k⟩ := b
  by_cases h : x.length = y.length
  · rcases cmpSL_tri x y with h1 | rfl | h1
    · exact .inl (.inr ⟨h, .inl h1⟩)
    · by_cases h2 : n < k
      · exact .inl (.inr ⟨h, .inr ⟨rfl, h2⟩⟩)
      · by_cases h3 : k < n
        · exact .inr (.inr (.inr ⟨h, .inr ⟨rfl, h3⟩⟩))
        · exact .inr (.inl (by rw [show n = k by omega]))
    · exact .inr (.inr (.inr ⟨h.symm, .inl h1⟩))
  · by_cases h1 : x.length < y.length
    · exact .inl (.inl h1)
    · exact .inr (.inr (.inl (by simp only; omega)))
def Srt (q : List El) : Prop := q.Pairwise fun a b => ¬ cmpE b a < 0
theorem srt_unique : ∀ {q q' : List El}, q.Perm q' → Srt q → Srt q' → q = q'
  | [], q', h, _, _ => by rw [h.nil_eq]
  | a :: q, [], h, _, _ => absurd h.length_eq (by simp)
  | a :: q, b :: q', h, h1, h2 => by
    have hab : a = b := by
      rcases cmpE_tri a b with hl | he | hl
      · have ha : a ∈ b :: q' := h.mem_iff.1 (List.mem_cons_self ..)
        rcases List.mem_cons.1 ha with e | ha
        · exact e
        · exact absurd hl (List.rel_of_pairwise_cons h2 ha)
      · exact he
      · have hb : b ∈ a :: q := h.mem_iff.2 (List.mem_cons_self ..)
        rcases List.mem_cons.1 hb with e | hb
        · exact e.symm
        · exact absurd hl (List.rel_of_pairwise_cons h1 hb)
    subst hab
    rw [srt_unique (List.Perm.cons_inv h) (List.Pairwise.of_cons h1) (List.Pairwise.of_cons h2)]
/-- Sorted by insertion. -/
def insE (a : El) : List El → List El
  | [] => [a]
  | b :: r => if cmpE a b < 0 then a :: b :: r else b :: insE a r
theorem insE_perm (a : El) : ∀ q : List El, (insE a q).Perm (a :: q)
  | [] => .refl _
  | b :: r => by
    unfold insE
    split
    · exact .refl _
    · exact ((insE_perm a r).cons b).trans (.swap a b r)
theorem insE_srt (a : El) : ∀ {q : List El}, Srt q → Srt (insE a q)
  | [], _ => List.pairwise_singleton _ _
  | b :: r, h => by
    unfold insE
    split
    · rename_i hc
      refine List.pairwise_cons.2 ⟨fun x hx hl => ?_, h⟩
      rcases List.mem_cons.1 hx with rfl | hx
      · exact cmpE_irr _ (cmpE_trans hc hl)
      · exact List.rel_of_pairwise_cons h hx (cmpE_trans hl hc)
    · rename_i hc
      refine List.pairwise_cons.2 ⟨fun x hx => ?_, insE_srt a (List.Pairwise.of_cons h)⟩
      rcases List.mem_cons.1 ((insE_perm a r).mem_iff.1 hx) with rfl | hx
      · exact hc
      · exact List.rel_of_pairwise_cons h hx
def srtE (q : List El) : List El := q.foldr insE []
theorem srtE_perm : ∀ q : List El, (srtE q).Perm q
  | [] => .refl _
  | a :: q => (insE_perm a (srtE q)).trans ((srtE_perm q).cons a)
theorem srtE_srt : ∀ q : List El, Srt (srtE q)
  | [] => List.Pairwise.nil
  | a :: q => insE_srt a (srtE_srt q)
theorem srtE_of {q q' : List El} (h : q.Perm q') (hs : Srt q) : q = srtE q' := srt_unique (h.trans (srtE_perm q').symm) hs (srtE_srt q')
theorem srtE_congr {q q' : List El} (h : q.Perm q') : srtE q = srtE q' := srtE_of ((srtE_perm q).trans h) (srtE_srt q)
end Go.Pl
/- Plain: the templates of elements. -/
set_option linter.unusedVariables false
namespace Go.Pl
open Go
def vE (a : El) : Bool := decide (1 ≤ a.2) && decide (1 ≤ a.1.length) && decide (a.1.length ≤ 60)
def grpQ (n : Nat) (q : List El) : List El := q.filter fun a => vE a && decide (a.1.length = n)
def mineG (q : List El) : List El := if q = [] then [] else mineQ q.length q
def allQ (q : List El) : List El := (List.range 61).flatMap fun n => mineG (grpQ n q)
def ofQ (q : List El) : List El := srtE (allQ q)
theorem vE_iff {a : El} : vE a = true ↔ 1 ≤ a.2 ∧ 1 ≤ a.1.length ∧ a.1.length ≤ 60 := by
  simp [vE, and_assoc]
theorem grpQ_mem {n : Nat} {q : List El} {a : El} : a ∈ grpQ n q ↔ a ∈ q ∧ vE a = true ∧ a.1.length = n := by
  simp [grpQ]
theorem flatMap_filter {α β : Type} (p : α → Bool) (f : α → List β) : ∀ (l : List α), (∀ a ∈ l, p a = false → f a = []) → (l.filter p).flatMap f = l.flatMap f
  | [], _ => rfl
  | a :: l, h => by
    have ih := flatMap_filter p f l fun b hb => h b (List.mem_cons_of_mem _ hb)
    cases hp : p a with
    | true => rw [List.filter_cons, if_pos hp, List.flatMap_cons, List.flatMap_cons, ih]
    | false => rw [List.filter_cons, if_neg (by rw [hp]; decide), List.flatMap_cons, h a (List.mem_cons_self ..) hp, ih]; rfl
theorem ns_perm {q : List El} {ns : List Nat} (h1 : ns.Nodup) (h2 : ∀ n ∈ ns, grpQ n q ≠ []) (h3 : ∀ n, grpQ n q ≠ [] → n ∈ ns) : ns.Perm ((List.range 61).filter fun n => !(grpQ n q).isEmpty) := by
  refine (List.perm_ext_iff_of_nodup h1 (List.Pairwise.filter _ List.nodup_range)).2 fun n => ?_
  rw [List.mem_filter, List.mem_range]
  constructor
  · intro hn
    refine ⟨?_, by simpa using h2 n hn⟩
    obtain ⟨a, ha⟩ := List.exists_mem_of_ne_nil _ (h2 n hn)
    have := grpQ_mem.1 ha
    have h := vE_iff.1 this.2.1
    omega
  · rintro ⟨_, hn⟩
    exact h3 n (by simpa using hn)
theorem ns_le {q : List El} {ns : List Nat} (h1 : ns.Nodup) (h2 : ∀ n ∈ ns, grpQ n q ≠ []) (h3 : ∀ n, grpQ n q ≠ [] → n ∈ ns) : ns.length ≤ 61 := by
  rw [(ns_perm h1 h2 h3).length_eq]
  exact Nat.le_trans (List.length_filter_le ..) (by simp)
theorem ns_all {q : List El} {ns : List Nat} (h1 : ns.Nodup) (h2 : ∀ n ∈ ns, grpQ n q ≠ []) (h3 : ∀ n, grpQ n q ≠ [] → n ∈ ns) : (ns.flatMap fun n => mineG (grpQ n q)).Perm (allQ q) := by
  refine ((ns_perm h1 h2 h3).flatMap_right _).trans (List.Perm.of_eq ?_)
  refine flatMap_filter _ _ _ fun n _ hn => ?_
  have : grpQ n q = [] := by simpa using hn
  rw [this]; rfl
/-- Values that an int can hold. -/
def okI (q : List El) : Prop := ∀ t ∈ q, t.2 ≤ 9223372036854775807
theorem grpQ_ok {n : Nat} {q : List El} (h : okI q) : ∀ t ∈ grpQ n q, okC t.2 ∧ t.1.length = n := fun t ht => by
  obtain ⟨h1, h2, h3⟩ := grpQ_mem.1 ht
  exact ⟨⟨by have := (vE_iff.1 h2).1; omega, h t h1⟩, h3⟩
theorem mineG_perm {w : Nat} {q q' : List El} (h : q.Perm q') (hq : ∀ t ∈ q, okC t.2 ∧ t.1.length = w) : mineG q = mineG q' := by
  unfold mineG
  rw [h.length_eq, mineQ_perm q'.length h (fun t ht => (hq t ht).1) fun t ht => (hq t ht).2]
  by_cases e : q = []
  · subst e
    have e2 := h.nil_eq
    subst e2
    rfl
  · rw [if_neg e, if_neg (fun e' => e (by rw [e'] at h; exact h.eq_nil))]
theorem allQ_perm {q q' : List El} (h : q.Perm q') (hq : okI q) : allQ q = allQ q' := by
  unfold allQ
  congr 1
  funext n
  exact mineG_perm (h.filter _) (grpQ_ok hq)
theorem ofQ_perm {q q' : List El} (h : q.Perm q') (hq : okI q) : ofQ q = ofQ q' := by rw [ofQ, ofQ, allQ_perm h hq]
theorem range_perm {n : Nat} {S : List Nat} (h1 : S.Nodup) (h2 : ∀ j ∈ S, j < n) (h3 : ∀ j, j < n → j ∈ S) : S.Perm (List.range n) :=
  (List.perm_ext_iff_of_nodup h1 List.nodup_range).2 fun j => by rw [List.mem_range]; exact ⟨h2 j, h3 j⟩
theorem nodup_len {n : Nat} {S : List Nat} (h1 : S.Nodup) (h2 : ∀ j ∈ S, j < n) : S.length ≤ n := by
  have h : S.Perm ((List.range n).filter fun j => S.contains j) := (List.perm_ext_iff_of_nodup h1 (List.Pairwise.filter _ List.nodup_range)).2 fun j => by
    rw [List.mem_filter, List.mem_range]
    exact ⟨fun hj => ⟨h2 j hj, by simpa using hj⟩, fun ⟨_, hj⟩ => by simpa using hj⟩
  rw [h.length_eq]
  exact Nat.le_trans (List.length_filter_le ..) (by simp)
theorem range_get {α β : Type} (l : List α) (f : α → List β) : (List.range l.length).flatMap (fun j => (l[j]?.map f).getD []) = l.flatMap f := by
  have : ∀ (k : Nat), k ≤ l.length → (List.range k).flatMap (fun j => (l[j]?.map f).getD []) = (l.take k).flatMap f := by
    intro k
    induction k with
    | zero => intro _; simp
    | succ k ih =>
      intro hk
      have hk' : k < l.length := by omega
      rw [List.range_succ, List.flatMap_append, ih (by omega), List.take_succ_eq_append_getElem hk', List.flatMap_append]
      congr 1
      simp [hk']
  rw [this l.length (Nat.le_refl _), List.take_length]
end Go.Pl
/- Plain: sizes of templates. -/
set_option linter.unusedVariables false
namespace Go.Pl
open Go
theorem walkQ_inl {q : List El} : ∀ {n p : Nat} {acc r : List ByteArray}, walkQ q n p acc = .inl r → r.length = acc.length + n
  | 0, p, acc, r, h => by simp [walkQ] at h; rw [h]; rfl
  | n + 1, p, acc, r, h => by
    unfold walkQ at h
    split at h
    · cases h
    · have := walkQ_inl h
      rw [this, List.length_append]; simp; omega
theorem mineQ_len {w : Nat} : ∀ (f : Nat) {q : List El}, (∀ t ∈ q, t.1.length = w) → q ≠ [] → ∀ a ∈ mineQ f q, a.1.length = w
  | 0, q, _, _, a, ha => by simp [mineQ] at ha
  | f + 1, q, hq, hne, a, ha => by
    unfold mineQ at ha
    split at ha
    · rename_i acc h
      have := walkQ_inl h
      rw [List.mem_singleton] at ha
      rw [ha, this, widQ_of hq hne]; simp
    · rename_i p h
      obtain ⟨b, hb, ha⟩ := List.mem_flatMap.1 ha
      refine mineQ_len f (fun t ht => hq t (List.mem_filter.1 ht).1) ?_ a ha
      obtain ⟨t, ht, e⟩ := atQ_keys.1 ⟨b, hb, rfl⟩
      exact List.ne_nil_of_mem (List.mem_filter.2 ⟨ht, decide_eq_true e⟩)
theorem mineQ_ok : ∀ (f : Nat) {q : List El}, (∀ t ∈ q, okC t.2) → ∀ a ∈ mineQ f q, okC a.2
  | 0, q, _, a, ha => by simp [mineQ] at ha
  | f + 1, q, hq, a, ha => by
    unfold mineQ at ha
    split at ha
    · rw [List.mem_singleton] at ha
      rw [ha]
      have : ∀ (q : List El) (n : Int), okC n → (∀ t ∈ q, okC t.2) → okC (q.foldl (fun n t => sumK n t.2) n) := by
        intro q
        induction q with
        | nil => exact fun n h _ => h
        | cons t q ih => exact fun n h hq => ih _ (sumK_ok h (hq t (List.mem_cons_self ..))) fun x hx => hq x (List.mem_cons_of_mem _ hx)
      exact this q 0 ⟨by omega, by omega⟩ hq
    · obtain ⟨b, hb, ha⟩ := List.mem_flatMap.1 ha
      exact mineQ_ok f (fun t ht => hq t (List.mem_filter.1 ht).1) a ha
theorem allQ_len {q : List El} {a : El} (h : a ∈ allQ q) : 1 ≤ a.1.length ∧ a.1.length ≤ 60 := by
  obtain ⟨n, hn, ha⟩ := List.mem_flatMap.1 h
  unfold mineG at ha
  split at ha
  · cases ha
  · rename_i hne
    have h1 := mineQ_len (w := n) _ (fun t ht => (grpQ_mem.1 ht).2.2) hne a ha
    obtain ⟨b, hb⟩ := List.exists_mem_of_ne_nil _ hne
    obtain ⟨_, h2, h3⟩ := grpQ_mem.1 hb
    have := vE_iff.1 h2
    omega
theorem allQ_ok {q : List El} (hq : okI q) {a : El} (h : a ∈ allQ q) : okC a.2 := by
  obtain ⟨n, hn, ha⟩ := List.mem_flatMap.1 h
  unfold mineG at ha
  split at ha
  · cases ha
  · exact mineQ_ok _ (fun t ht => (grpQ_ok hq t ht).1) a ha
end Go.Pl
/- Plain: equal lines put together; how many rounds are granted does not matter. -/
set_option linter.unusedVariables false
namespace Go.Pl
open Go
theorem walkQ_inr {q : List El} : ∀ {n p : Nat} {acc : List ByteArray} {r : Nat}, walkQ q n p acc = .inr r → splQ (atQ q r) = true
  | 0, p, acc, r, h => by simp [walkQ] at h
  | n + 1, p, acc, r, h => by
    unfold walkQ at h
    split at h
    · rename_i hs; cases h; exact hs
    · exact walkQ_inr h
theorem splQ_two {t : KV} (h : splQ t = true) : 2 ≤ t.length := by
  simp only [splQ, Bool.and_eq_true, decide_eq_true_eq] at h; exact h.1.1
theorem flatMap_same {α β : Type} {f g : α → List β} : ∀ (l : List α), (∀ a ∈ l, f a = g a) → l.flatMap f = l.flatMap g
  | [], _ => rfl
  | a :: l, h => by rw [List.flatMap_cons, List.flatMap_cons, h a (List.mem_cons_self ..), flatMap_same l fun b hb => h b (List.mem_cons_of_mem _ hb)]
theorem mineQ_fuel : ∀ (f f' : Nat) (q : List El), q ≠ [] → q.length ≤ f → q.length ≤ f' → mineQ f q = mineQ f' q
  | 0, _, q, hne, h, _ => absurd (List.length_pos_iff.2 hne) (by omega)
  | f + 1, 0, q, hne, _, h => absurd (List.length_pos_iff.2 hne) (by omega)
  | f + 1, f' + 1, q, hne, h1, h2 => by
    unfold mineQ
    split
    · rfl
    · rename_i p hw
      have h3 := splQ_two (walkQ_inr hw)
      refine flatMap_same _ fun a ha => ?_
      have h4 := part_short ha h3
      refine mineQ_fuel f f' _ ?_ (by omega) (by omega)
      obtain ⟨t, ht, e⟩ := atQ_keys.1 ⟨a, ha, rfl⟩
      exact List.ne_nil_of_mem (List.mem_filter.2 ⟨ht, decide_eq_true e⟩)
/-- Each element as often as it counts. -/
def expE (q : List El) : List El := q.flatMap fun t => List.replicate t.2.toNat (t.1, 1)
theorem expE_cons (t : El) (q : List El) : expE (t :: q) = List.replicate t.2.toNat (t.1, 1) ++ expE q := List.flatMap_cons ..
theorem expE_append (q q' : List El) : expE (q ++ q') = expE q ++ expE q' := List.flatMap_append ..
def posE (q : List El) : Prop := ∀ t ∈ q, 1 ≤ t.2 ∧ t.2 ≤ 9223372036854775807
theorem insK_twice {k : ByteArray} {n : Int} (hn : 0 ≤ n) (hn2 : n + 1 ≤ 9223372036854775807) : ∀ {l : KV}, okKV l → insK (insK l k n) k 1 = insK l k (n + 1)
  | [], _ => by
    show insK [(k, sumK 0 n)] k 1 = [(k, sumK 0 (n + 1))]
    rw [insK_eq]
    congr 2
    unfold sumK; repeat' split
    all_goals omega
  | (a, x) :: r, hok => by
    have hr : okKV r := fun b hb => hok b (List.mem_cons_of_mem _ hb)
    have hx : okC x := hok _ (List.mem_cons_self ..)
    rcases triS a k with ⟨h1, _, _⟩ | rfl | ⟨h1, _, _⟩
    · rw [insK_lt h1, insK_lt h1, insK_lt h1, insK_twice hn hn2 hr]
    · rw [insK_eq, insK_eq, insK_eq]
      congr 2
      unfold okC at hx
      unfold sumK; repeat' split
      all_goals omega
    · rw [insK_gt h1, insK_eq, insK_gt h1]
      congr 2
      unfold sumK; repeat' split
      all_goals omega
theorem rep_fold {p : Nat} {x : List ByteArray} {acc : KV} (hacc : okKV acc) (n : Nat) (h1 : 1 ≤ n) (h2 : (n : Int) ≤ 9223372036854775807) : (List.replicate n ((x, 1) : El)).foldl (fun acc t => insK acc (t.1.getD p em) t.2) acc = insK acc (x.getD p em) n := by
  induction n with
  | zero => omega
  | succ n ih =>
    rw [List.replicate_succ', List.foldl_append]
    by_cases hn : n = 0
    · subst hn; rfl
    · rw [ih (by omega) (by omega)]
      show insK (insK acc (x.getD p em) n) (x.getD p em) 1 = _
      rw [insK_twice (by omega) (by omega) hacc]
      congr 1
theorem exp_fold {p : Nat} : ∀ (q : List El) (acc : KV), posE q → okKV acc → (expE q).foldl (fun acc t => insK acc (t.1.getD p em) t.2) acc = q.foldl (fun acc t => insK acc (t.1.getD p em) t.2) acc
  | [], _, _, _ => rfl
  | t :: q, acc, hq, hacc => by
    have ht := hq t (List.mem_cons_self ..)
    have e : ((t.2.toNat : Nat) : Int) = t.2 := by omega
    rw [expE_cons, List.foldl_append, rep_fold hacc t.2.toNat (by omega) (by omega), e, List.foldl_cons]
    exact exp_fold q _ (fun x hx => hq x (List.mem_cons_of_mem _ hx)) (insK_ok hacc ⟨by omega, ht.2⟩)
theorem atQ_exp {q : List El} (hq : posE q) (p : Nat) : atQ (expE q) p = atQ q p := exp_fold q [] hq (fun a ha => by cases ha)
theorem rep_tot {x : List ByteArray} {m : Int} (hm : okC m) (n : Nat) (h2 : (n : Int) ≤ 9223372036854775807) : (List.replicate n ((x, 1) : El)).foldl (fun n t => sumK n t.2) m = sumK m n := by
  unfold okC at hm
  induction n with
  | zero => simp only [List.replicate, List.foldl_nil, sumK]; split <;> omega
  | succ n ih =>
    rw [List.replicate_succ', List.foldl_append, ih (by omega)]
    simp only [List.foldl_cons, List.foldl_nil]
    unfold sumK; repeat' split
    all_goals omega
theorem exp_tot : ∀ (q : List El) (m : Int), posE q → okC m → (expE q).foldl (fun n t => sumK n t.2) m = q.foldl (fun n t => sumK n t.2) m
  | [], _, _, _ => rfl
  | t :: q, m, hq, hm => by
    have ht := hq t (List.mem_cons_self ..)
    have e : ((t.2.toNat : Nat) : Int) = t.2 := by omega
    rw [expE_cons, List.foldl_append, rep_tot hm t.2.toNat (by omega), e, List.foldl_cons]
    exact exp_tot q _ (fun x hx => hq x (List.mem_cons_of_mem _ hx)) (sumK_ok hm ⟨by omega, ht.2⟩)
theorem totQ_exp {q : List El} (hq : posE q) : totQ (expE q) = totQ q := exp_tot q 0 hq ⟨by omega, by omega⟩
theorem walkQ_exp {q : List El} (hq : posE q) : ∀ (n p : Nat) (acc : List ByteArray), walkQ (expE q) n p acc = walkQ q n p acc
  | 0, _, _ => rfl
  | n + 1, p, acc => by
    unfold walkQ
    rw [atQ_exp hq]
    split
    · rfl
    · exact walkQ_exp hq n (p + 1) _
theorem widQ_exp {q : List El} (hq : posE q) : widQ (expE q) = widQ q := by
  cases q with
  | nil => rfl
  | cons t q =>
    have ht := hq t (List.mem_cons_self ..)
    obtain ⟨n, hn⟩ : ∃ n, t.2.toNat = n + 1 := ⟨t.2.toNat - 1, by omega⟩
    rw [expE_cons, hn]; rfl
theorem filter_exp (f : List ByteArray → Bool) : ∀ (q : List El), (expE q).filter (fun t => f t.1) = expE (q.filter fun t => f t.1)
  | [] => rfl
  | t :: q => by
    rw [expE_cons, List.filter_append, filter_exp f q, List.filter_cons]
    cases h : f t.1 with
    | true => rw [if_pos rfl, expE_cons, List.filter_replicate]; simp [h]
    | false => rw [if_neg (by decide), List.filter_replicate]; simp [h]
theorem posE_filter {q : List El} (f : El → Bool) (hq : posE q) : posE (q.filter f) := fun t ht => hq t (List.mem_filter.1 ht).1
theorem mineQ_exp : ∀ (f : Nat) {q : List El}, posE q → mineQ f (expE q) = mineQ f q
  | 0, _, _ => rfl
  | f + 1, q, hq => by
    unfold mineQ
    rw [widQ_exp hq, walkQ_exp hq, totQ_exp hq]
    split
    · rfl
    · rename_i p _
      rw [atQ_exp hq]
      congr 1
      funext a
      rw [filter_exp (fun x => decide (x.getD p em = a.1)) q]
      exact mineQ_exp f (posE_filter _ hq)
theorem expE_len {q : List El} (hq : posE q) : q.length ≤ (expE q).length := by
  induction q with
  | nil => simp
  | cons t q ih =>
    have ht := hq t (List.mem_cons_self ..)
    have := ih fun x hx => hq x (List.mem_cons_of_mem _ hx)
    rw [expE_cons, List.length_append, List.length_replicate, List.length_cons]; omega
theorem expE_nil {q : List El} (hq : posE q) (h : expE q = []) : q = [] := by
  have := expE_len hq
  rw [h] at this
  exact List.eq_nil_of_length_eq_zero (by simpa using this)
theorem mineG_exp {q : List El} (hq : posE q) : mineG (expE q) = mineG q := by
  unfold mineG
  by_cases h : q = []
  · subst h; rfl
  · have h2 : expE q ≠ [] := fun e => h (expE_nil hq e)
    rw [if_neg h, if_neg h2, mineQ_exp _ hq]
    exact mineQ_fuel _ _ q h (expE_len hq) (Nat.le_refl _)
theorem grpQ_exp {q : List El} (hq : posE q) (n : Nat) : grpQ n (expE q) = expE (grpQ n q) := by
  have e1 : grpQ n (expE q) = (expE q).filter fun t => decide (1 ≤ t.1.length) && decide (t.1.length ≤ 60) && decide (t.1.length = n) := by
    unfold grpQ
    refine List.filter_congr fun t ht => ?_
    obtain ⟨u, hu, h1⟩ := List.mem_flatMap.1 ht
    obtain ⟨_, rfl⟩ := List.mem_replicate.1 h1
    simp [vE]
  have e2 : grpQ n q = q.filter fun t => decide (1 ≤ t.1.length) && decide (t.1.length ≤ 60) && decide (t.1.length = n) := by
    unfold grpQ
    refine List.filter_congr fun t ht => ?_
    have := (hq t ht).1
    simp [vE, this]
  rw [e1, e2]
  exact filter_exp (fun x => decide (1 ≤ x.length) && decide (x.length ≤ 60) && decide (x.length = n)) q
theorem allQ_exp {q : List El} (hq : posE q) : allQ (expE q) = allQ q := by
  unfold allQ
  congr 1
  funext n
  rw [grpQ_exp hq]
  exact mineG_exp (posE_filter _ hq)
theorem ofQ_exp {q : List El} (hq : posE q) : ofQ (expE q) = ofQ q := by rw [ofQ, ofQ, allQ_exp hq]
end Go.Pl
