/- Plain: comparisons. -/
import GoSem.Op.String
import Derived.Test.YtbonkkbpjlikjaaHeap
namespace Go.Pl
open Go
def cmpI (x y : Int) : Int := if x < y then -1 else if y < x then 1 else 0
def cmpS (x y : ByteArray) : Int := if Op.bytesLess x.toList y.toList then -1 else if x = y then 0 else 1
def cmpSL : List ByteArray → List ByteArray → Int
  | [], [] => 0
  | [], _ :: _ => -1
  | _ :: _, [] => 1
  | x :: xs, y :: ys => if cmpS x y = 0 then cmpSL xs ys else cmpS x y
def orI : List Int → Int
  | [] => 0
  | x :: xs => if x = 0 then orI xs else x
end Go.Pl
/- Plain: bytes, digits, fields of a line. -/
set_option linter.unusedVariables false
namespace Go.Aw
open Go
/-- A string made of bytes. -/
def B (l : List UInt8) : ByteArray := ⟨l.toArray⟩
theorem B_data (l : List UInt8) : (B l).data.toList = l := by simp [B]
theorem B_of (s : ByteArray) : B s.data.toList = s := by cases s; simp [B]
theorem B_size (l : List UInt8) : (B l).size = l.length := by simp [B, ByteArray.size]
theorem size_len (s : ByteArray) : s.size = s.data.toList.length := by rw [Array.length_toList]; rfl
theorem extract_B (s : ByteArray) (i j : Nat) : s.extract i j = B ((s.data.toList.drop i).take (j - i)) := by
  rw [← B_of (s.extract i j)]
  congr 1
  simp [ByteArray.data_extract]
def isSp (c : UInt8) : Bool := c == 32 || c == 9
def fieldsGo (cur : List UInt8) : List UInt8 → List (List UInt8)
  | [] => if cur = [] then [] else [cur.reverse]
  | c :: l => if isSp c then (if cur = [] then fieldsGo [] l else cur.reverse :: fieldsGo [] l) else fieldsGo (c :: cur) l
def fieldsB (s : ByteArray) : List ByteArray := (fieldsGo [] s.data.toList).map B
theorem fieldsGo_length : ∀ (l cur : List UInt8), (fieldsGo cur l).length ≤ l.length + 1
  | [], cur => by simp only [fieldsGo]; split <;> simp
  | c :: l, cur => by
    simp only [fieldsGo]
    split
    · split
      · have := fieldsGo_length l []; simp; omega
      · have := fieldsGo_length l []; simp; omega
    · have := fieldsGo_length l (c :: cur); simp; omega
theorem fieldsGo_end {cur l : List UInt8} (h : cur ≠ []) (hl : ∀ c, l.head? = some c → isSp c = true) : fieldsGo cur l = cur.reverse :: fieldsGo [] l := by
  cases l with
  | nil => simp [fieldsGo, h]
  | cons c l => simp [fieldsGo, hl c rfl, h]
theorem drop_getD {l : List UInt8} {i : Nat} (h : i < l.length) : l.drop i = l.getD i 0 :: l.drop (i + 1) := by
  rw [List.drop_eq_getElem_cons h, List.getD_eq_getElem?_getD, List.getElem?_eq_getElem h]; rfl
theorem take_snoc_drop {l : List UInt8} {f i : Nat} (hf : f ≤ i) (h : i < l.length) : (l.drop f).take (i + 1 - f) = (l.drop f).take (i - f) ++ [l.getD i 0] := by
  have hlt : i - f < (l.drop f).length := by simp; omega
  rw [show i + 1 - f = (i - f) + 1 by omega, List.take_succ_eq_append_getElem hlt, List.getD_eq_getElem?_getD, List.getElem?_eq_getElem h]
  simp [show f + (i - f) = i by omega]
def isDig (c : UInt8) : Bool := 48 ≤ c && c ≤ 57
def hasDig (s : List UInt8) : Bool := s.any isDig
theorem hasDig_take {l : List UInt8} {i : Nat} (h : i < l.length) : hasDig (l.take (i + 1)) = (hasDig (l.take i) || isDig (l.getD i 0)) := by
  rw [List.take_succ_eq_append_getElem h, List.getD_eq_getElem?_getD, List.getElem?_eq_getElem h, Option.getD_some]
  simp only [hasDig, List.any_append, List.any_cons, List.any_nil, Bool.or_false]
theorem hasDig_le {l : List UInt8} {i : Nat} (h : hasDig (l.take i) = true) : hasDig l = true := by
  simp only [hasDig, List.any_eq_true] at h ⊢
  obtain ⟨x, hx, hd⟩ := h
  exact ⟨x, List.mem_of_mem_take hx, hd⟩
/-- A token: the empty string where it holds a digit. -/
def varB (s : ByteArray) : ByteArray := if hasDig s.data.toList then B [] else s
/-- The tokens of a line. -/
def toksOf (s : ByteArray) : Option (List ByteArray) := if (fieldsB s).length = 0 ∨ 60 < (fieldsB s).length then none else some ((fieldsB s).map varB)
def bless (a b : ByteArray) : Bool := Go.Op.bytesLess a.toList b.toList
end Go.Aw
/- Plain: sizes of fields, tokens. -/
set_option linter.unusedVariables false
namespace Go.Aw
open Go
theorem fieldsGo_size : ∀ (l cur : List UInt8), ∀ x ∈ fieldsGo cur l, x.length ≤ cur.length + l.length
  | [], cur, x, hx => by
    simp only [fieldsGo] at hx
    split at hx
    · cases hx
    · simp at hx; subst hx; simp
  | c :: l, cur, x, hx => by
    simp only [fieldsGo] at hx
    split at hx
    · split at hx
      · have := fieldsGo_size l [] x hx; simp at this ⊢; omega
      · rcases List.mem_cons.1 hx with rfl | h
        · simp
        · have := fieldsGo_size l [] x h; simp at this ⊢; omega
    · have := fieldsGo_size l (c :: cur) x hx; simp at this ⊢; omega
theorem fieldsB_size {s x : ByteArray} (h : x ∈ fieldsB s) : x.size ≤ s.size := by
  obtain ⟨y, hy, rfl⟩ := List.mem_map.1 h
  have := fieldsGo_size _ _ y hy
  rw [B_size, size_len]; simpa using this
theorem fieldsB_length (s : ByteArray) : (fieldsB s).length ≤ s.size + 1 := by
  rw [fieldsB, List.length_map, size_len]; exact fieldsGo_length _ _
/-- The tokens, as far as they are made. -/
def half (l : List ByteArray) (i : Nat) : List ByteArray := (l.take i).map varB ++ l.drop i
theorem half_zero (l : List ByteArray) : half l 0 = l := by simp [half]
theorem half_all {l : List ByteArray} {i : Nat} (h : l.length ≤ i) : half l i = l.map varB := by simp [half, List.take_of_length_le h, List.drop_of_length_le h]
theorem half_length (l : List ByteArray) (i : Nat) : (half l i).length = l.length := by simp [half]; omega
theorem half_get {l : List ByteArray} {i : Nat} {x : ByteArray} (h : l[i]? = some x) : (half l i)[i]? = some x := by
  have hlt := (List.getElem?_eq_some_iff.1 h).1
  rw [half, List.getElem?_append_right (by simp; omega)]
  simp [Nat.min_eq_left (Nat.le_of_lt hlt), h]
theorem half_succ {l : List ByteArray} {i : Nat} {x : ByteArray} (h : l[i]? = some x) : half l (i + 1) = (half l i).set i (varB x) := by
  have hlt := (List.getElem?_eq_some_iff.1 h).1
  have hx := (List.getElem?_eq_some_iff.1 h).2
  rw [half, half, List.set_append_right _ _ (by simp; omega), List.take_succ_eq_append_getElem hlt, hx, List.drop_eq_getElem_cons hlt]
  simp [Nat.min_eq_left (Nat.le_of_lt hlt), hx]
theorem half_same {l : List ByteArray} {i : Nat} {x : ByteArray} (h : l[i]? = some x) (hd : hasDig x.data.toList = false) : half l (i + 1) = half l i := by
  rw [half_succ h, varB, if_neg (by simp [hd])]
  apply List.ext_getElem?
  intro j
  rw [List.getElem?_set]
  split
  · rename_i e; subst e; rw [half_get h]; split <;> simp_all [half_length]
  · rfl
/-- What of a template is seen. -/
def Tm.key (t : Tm) : List ByteArray × Int := (t.toks, t.cnt)
def keys (l : List Tm) : List (List ByteArray × Int) := l.map Tm.key
end Go.Aw
