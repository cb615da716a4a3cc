/- Plain: where the tokens of a template come from. -/
import Derived.Test.YtmofaabndjnhjaaGreatPlain
import Derived.Test.YtmofaabndjnhjaaGreatAnswers
import Derived.Test.YtmofaabndjnhjaaGreatSplit
set_option linter.unusedVariables false
namespace Go.Pl
open Go
theorem getD_mem (l : List ByteArray) (p : Nat) : l.getD p em = em ∨ l.getD p em ∈ l := by
  rw [List.getD_eq_getElem?_getD]
  cases h : l[p]? with
  | none => exact .inl rfl
  | some x => exact .inr (List.mem_of_getElem? h)
theorem tokQ_from {q : List El} {p : Nat} : tokQ (atQ q p) = em ∨ ∃ t ∈ q, tokQ (atQ q p) ∈ t.1 := by
  unfold tokQ
  split
  · exact .inl rfl
  · cases hl : atQ q p with
    | nil => exact .inl rfl
    | cons a r =>
      obtain ⟨t, ht, e⟩ := atQ_keys.1 ⟨a, by rw [hl]; exact List.mem_cons_self .., rfl⟩
      rcases getD_mem t.1 p with h | h
      · exact .inl (by show a.1 = em; rw [← e, h])
      · exact .inr ⟨t, ht, by show a.1 ∈ t.1; rw [← e]; exact h⟩
theorem walkQ_from {q : List El} : ∀ {n p : Nat} {acc r : List ByteArray}, walkQ q n p acc = .inl r → ∀ s ∈ r, s ∈ acc ∨ s = em ∨ ∃ t ∈ q, s ∈ t.1
  | 0, p, acc, r, h, s, hs => by simp [walkQ] at h; exact .inl (by rw [h]; exact hs)
  | n + 1, p, acc, r, h, s, hs => by
    unfold walkQ at h
    split at h
    · cases h
    · rcases walkQ_from h s hs with h1 | h1
      · rcases List.mem_append.1 h1 with h2 | h2
        · exact .inl h2
        · rw [List.mem_singleton.1 h2]; exact .inr tokQ_from
      · exact .inr h1
theorem mineQ_from : ∀ (f : Nat) {q : List El} {a : El}, a ∈ mineQ f q → ∀ s ∈ a.1, s = em ∨ ∃ t ∈ q, s ∈ t.1
  | 0, q, a, h, s, hs => by simp [mineQ] at h
  | f + 1, q, a, h, s, hs => by
    unfold mineQ at h
    split at h
    · rename_i acc hw
      rw [List.mem_singleton] at h
      rw [h] at hs
      rcases walkQ_from hw s hs with h1 | h1
      · cases h1
      · exact h1
    · obtain ⟨b, hb, ha⟩ := List.mem_flatMap.1 h
      rcases mineQ_from f ha s hs with h1 | ⟨t, ht, h1⟩
      · exact .inl h1
      · exact .inr ⟨t, (List.mem_filter.1 ht).1, h1⟩
theorem ofQ_from {q : List El} {a : El} (h : a ∈ ofQ q) : ∀ s ∈ a.1, s = em ∨ ∃ t ∈ q, s ∈ t.1 := fun s hs => by
  obtain ⟨n, hn, ha⟩ := List.mem_flatMap.1 ((srtE_perm _).mem_iff.1 h)
  unfold mineG at ha
  split at ha
  · cases ha
  · rcases mineQ_from _ ha s hs with h1 | ⟨t, ht, h1⟩
    · exact .inl h1
    · exact .inr ⟨t, (grpQ_mem.1 ht).1, h1⟩
end Go.Pl
/- The program's side: Find. -/
set_option linter.unusedVariables false
namespace Go.Proofs.YtmofaabndjnhjaaGreat
open Go Go.Aw Go.Pl Go.RowKit
def fit1 (a b : ByteArray) : Bool := decide (a = em) || decide (a = b)
def fitsB (ps ts : List ByteArray) : Bool := decide (ps.length = ts.length) && (ps.zip ts).all fun x => fit1 x.1 x.2
theorem zip_take_all {a b : List ByteArray} {i : Nat} {x y : ByteArray} (hx : a[i]? = some x) (hy : b[i]? = some y) : ((a.zip b).take (i + 1)).all (fun x => fit1 x.1 x.2) = (((a.zip b).take i).all (fun x => fit1 x.1 x.2) && fit1 x y) := by
  have h : (a.zip b)[i]? = some (x, y) := by rw [List.getElem?_zip_eq_some]; exact ⟨hx, hy⟩
  rw [take_succ_get h, List.all_append]; simp
theorem all_take_false {α : Type} {p : α → Bool} {l : List α} {i : Nat} (h : (l.take i).all p = false) : l.all p = false := by
  rw [Bool.eq_false_iff] at *
  intro h2
  exact h (List.all_eq_true.2 fun x hx => List.all_eq_true.1 h2 x (List.mem_of_mem_take hx))
def fitP (ts : List ByteArray) (t : Tm) : Bool := fitsB t.toks ts
/-- What Find answers: the place of the first template that fits, and whether there is one. -/
def findI (l : List Tm) (s : ByteArray) : Int := match toksOf s with | none => 0 | some ts => if l.any (fitP ts) then (l.findIdx (fitP ts) : Nat) else 0
def findO (l : List Tm) (s : ByteArray) : Bool := match toksOf s with | none => false | some ts => l.any (fitP ts)
/-- On keys. -/
theorem findO_keys (l : List Tm) (s : ByteArray) : findO l s = match toksOf s with | none => false | some ts => (keys l).any fun a => fitsB a.1 ts := by
  unfold findO
  cases toksOf s with
  | none => rfl
  | some ts => show l.any (fitP ts) = (keys l).any _; rw [keys, List.any_map]; rfl
theorem findI_keys (l : List Tm) (s : ByteArray) : findI l s = match toksOf s with | none => 0 | some ts => if (keys l).any fun a => fitsB a.1 ts then ((keys l).findIdx fun a => fitsB a.1 ts : Nat) else 0 := by
  unfold findI
  cases toksOf s with
  | none => rfl
  | some ts =>
    have e1 : (keys l).any (fun a => fitsB a.1 ts) = l.any (fitP ts) := by rw [keys, List.any_map]; rfl
    have e2 : (keys l).findIdx (fun a => fitsB a.1 ts) = l.findIdx (fitP ts) := by rw [keys, List.findIdx_map]; rfl
    show (if l.any (fitP ts) = true then ((l.findIdx (fitP ts) : Nat) : Int) else 0) = (if (keys l).any (fun a => fitsB a.1 ts) = true then (((keys l).findIdx fun a => fitsB a.1 ts : Nat) : Int) else 0)
    rw [e1, e2]
end Go.Proofs.YtmofaabndjnhjaaGreat
/- The walks of the reference's Text and Find. -/
set_option linter.unusedVariables false
namespace Go.Proofs.YtmofaabndjnhjaaGreat
open Go Go.Aw Go.Pl Go.RowKit
theorem B_app (a b : List UInt8) : B a ++ B b = B (a ++ b) := by
  apply ba_inj
  simp [ba_toList, B, ByteArray.data_append]
theorem B_data (s : ByteArray) : B s.data.toList = s := by cases s; simp [B]
theorem B_size (l : List UInt8) : (B l).size = l.length := by rw [size_len]; rfl
theorem app_size (a b : ByteArray) : (a ++ b).size = a.size + b.size := ByteArray.size_append
theorem toksOf_len {s : ByteArray} {ts : List ByteArray} (h : toksOf s = some ts) : 1 ≤ ts.length ∧ ts.length ≤ 60 := by
  unfold toksOf at h
  split at h
  · cases h
  · rename_i h2
    rw [← Option.some.inj h, List.length_map]; omega
end Go.Proofs.YtmofaabndjnhjaaGreat
