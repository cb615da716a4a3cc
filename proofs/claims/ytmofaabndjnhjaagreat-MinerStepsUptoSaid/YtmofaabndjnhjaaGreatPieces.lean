/- The law TemplateOrder: its walk. -/
import Derived.Test.YtmofaabndjnhjaaGreatAnswers
import Derived.Test.YtmofaabndjnhjaaGreatPlain
set_option linter.unusedVariables false
namespace Go.Proofs.YtmofaabndjnhjaaGreat
open Go Go.Aw Go.Pl Go.RowKit
theorem lineE_ok (ls : List ByteArray) : okI (lineE ls) := fun t ht => by
  obtain ⟨s, _, h2⟩ := List.mem_filterMap.1 ht
  obtain ⟨ts, _, h3⟩ := Option.map_eq_some_iff.1 h2
  rw [← h3]; show (1 : Int) ≤ 9223372036854775807; decide
theorem mineL_perm {ls ls' : List ByteArray} (h : ls.Perm ls') : mineL ls = mineL ls' := ofQ_perm (h.filterMap _) (lineE_ok ls)
theorem keys_len60 {out : List Tm} {q : List El} (h : keys out = ofQ q) : ∀ t ∈ out, t.toks.length ≤ 60 := fun t ht => by
  have h1 : t.key ∈ keys out := List.mem_map_of_mem ht
  rw [h] at h1
  exact (allQ_len ((srtE_perm _).mem_iff.1 h1)).2
end Go.Proofs.YtmofaabndjnhjaaGreat
/- The law TemplateCounted: its walk. -/
set_option linter.unusedVariables false
namespace Go.Proofs.YtmofaabndjnhjaaGreat
open Go Go.Aw Go.Pl Go.RowKit
theorem outL {mb m : Hp} {p : Nat} {T : TypeId} {L : List Hp} (h : CodH mb p T (U L) m) (hD : Dj L) : ∃ c, Cod mb p T c ∧ m = U (c :: L) ∧ Dj (c :: L) := by
  obtain ⟨c, hc, h1, rfl, _⟩ := h
  exact ⟨c, hc, U_flat [c] L, Dj_flat (A := [c]) h1 hD⟩
theorem backL {mb c : Hp} {p : Nat} {T : TypeId} {L : List Hp} (hc : Cod mb p T c) (hD : Dj (c :: L)) (hl : HpLe mb (U L)) : CodH mb p T (U L) (U (c :: L)) :=
  ⟨c, hc, Dj_unflat (A := [c]) hD, (U_flat [c] L).symm, hl⟩
/-- A new piece joins what is only read beside the generator and two rows. -/
theorem sinkG {x c a b F : Hp} (hD : Dj [x, c, a, b, F]) : U [x, c, a, b, F] = U [c, a, b, U [x, F]] ∧ Dj [c, a, b, U [x, F]] ∧ HpLe F (U [x, F]) ∧ HpLe x (U [x, F]) := by
  have h : U [x, c, a, b, F] = U [c, a, b, x, F] ∧ Dj [c, a, b, x, F] := U_pm [1, 2, 3, 0, 4] rfl hD
  exact ⟨h.1.trans (U_flat [c, a, b] _).symm, Dj_unflat (A := [c, a, b]) h.2, le_at 1 h.2.2.2.2 rfl, U_le_head⟩
theorem sinkG2 {x y c a b F : Hp} (hD : Dj [x, y, c, a, b, F]) : U [x, y, c, a, b, F] = U [c, a, b, U [x, y, F]] ∧ Dj [c, a, b, U [x, y, F]] ∧ HpLe F (U [x, y, F]) ∧ HpLe x (U [x, y, F]) := by
  have h : U [x, y, c, a, b, F] = U [c, a, b, x, y, F] ∧ Dj [c, a, b, x, y, F] := U_pm [2, 3, 4, 0, 1, 5] rfl hD
  exact ⟨h.1.trans (U_flat [c, a, b] _).symm, Dj_unflat (A := [c, a, b]) h.2, le_at 2 h.2.2.2.2 rfl, U_le_head⟩
theorem lineE_app (a b : List ByteArray) : lineE (a ++ b) = lineE a ++ lineE b := List.filterMap_append
theorem lineE_rep (n : Nat) (s : ByteArray) : lineE (List.replicate n s) = match toksOf s with | some ts => List.replicate n (ts, 1) | none => [] := by
  rw [lineE, List.filterMap_replicate]
  cases toksOf s <;> rfl
theorem posE_app {a b : List El} (ha : posE a) (hb : posE b) : posE (a ++ b) := fun t ht => by
  rcases List.mem_append.1 ht with h | h
  · exact ha t h
  · exact hb t h
theorem expE_ones (n : Nat) (x : List ByteArray) : expE (List.replicate n ((x, 1) : El)) = List.replicate n (x, 1) := by
  induction n with
  | zero => rfl
  | succ n ih => rw [List.replicate_succ, expE_cons, ih]; rfl
/-- What the loop over the lines keeps. -/
structure Cn (m3 : Hp) (p2 : Nat) (va vt : Value) (all : List ByteArray) (t : List Tm) (Ya Yt F mm : Hp) : Prop where
  gen : CodH m3 p2 44 (U [Ya, Yt, F]) mm
  dj : Dj [Ya, Yt, F]
  le : HpLe m3 F
  oa : Own 9 1 Ya va (rows encS all)
  ot : Own 32 2 Yt vt (rows encT t)
  ok : ∀ x ∈ t, x.Ok F
theorem Cn.leF {m3 Ya Yt F : Hp} (hD : Dj [Ya, Yt, F]) (h : HpLe m3 F) : HpLe m3 (U [Ya, Yt, F]) := h.trans (le_at 2 hD rfl)
end Go.Proofs.YtmofaabndjnhjaaGreat
