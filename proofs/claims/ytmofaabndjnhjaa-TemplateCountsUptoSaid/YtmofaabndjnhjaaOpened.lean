/- Arguments []string, []api.Template, string, opened. -/
import Derived.Test.YtmofaabndjnhjaaArgs
import Derived.Deep.Strs
import Derived.Deep.SlicePairs
import Derived.ChangeMaps5
set_option linter.unusedVariables false
namespace Go.Proofs.Ytmofaabndjnhjaa
open Go.ChangeShapes Go.WideShapes Go.ChangeAt Go.RowKit
theorem cells9 : Try.prog.cellsOf 9 = 1 := by kernel_rfl
theorem cells33 : Try.prog.cellsOf 33 = 2 := by kernel_rfl
theorem cells22 : Try.prog.cellsOf 22 = 1 := by kernel_rfl
theorem cells3 : Try.prog.cellsOf 3 = 1 := by kernel_rfl
/-- A row of strings, read down. -/
theorem strs_down {H : Type} {enc : TypeId × Value → H} {W : World} {fuel : Nat} {cs : List Value} {x : DataW H × List MemPlace} (h : DataW.trod enc Try.prog W 0 (fun _ => true) true fuel 22 cs = some x) (hk : Rows.uptoBulk x.1 ≤ 1048576) :
    ∃ A ca ss, cs = [.slice A (List.length ss) ca] ∧ Go.Aw.Strs (Go.Aw.all W) (.slice A ss.length ca) ss ∧ (∀ s ∈ ss, s.size ≤ 1048576) ∧ List.length ss ≤ 1048576 ∧ List.length ss ≤ ca := by
  rcases Go.Deep.open_strs Try.underlying22 Try.underlying9 cells9 h with ⟨rfl, rfl⟩ | ⟨a, len, cap, m, Sx, rfl, _, hl, hm, hmm, rfl, hx⟩
  · exact ⟨none, 0, [], rfl, ⟨none, 0, 0, rfl, rfl, .inl rfl⟩, by simp, Nat.zero_le _, Nat.zero_le _⟩
  · simp only [if_true] at hmm
    subst hmm
    simp only [Rows.uptoBulk] at hk
    have hlen : ((List.range len).map Sx).length = len := by simp
    have hbl : len ≤ 1048576 := by
      have h1 := bulk_len (H := H) ((List.range len).map fun i => (.lit (.string (Sx i).data.toList) : DataW H))
      simp only [List.length_map, List.length_range] at h1
      omega
    refine ⟨some a, m, (List.range len).map Sx, by rw [hlen], ?_, fun s hs => ?_, by omega, by omega⟩
    · rw [hlen]
      refine ⟨some a, len, m, rfl, by rw [Go.Aw.rows_encS]; simp, ?_⟩
      by_cases h0 : len = 0
      · exact .inl h0
      · have hsp : a.spot = none := cell_spot (v := .string (Sx 0)) (by have := (hx 0 (by omega)).1; simpa [Addr.add] using this)
        obtain ⟨b, off, spot⟩ := a
        simp only at hsp
        subst hsp
        refine .inr ⟨b, off, rfl, Go.Aw.CellsAt.of_get fun j v hj => ?_⟩
        rw [Go.Aw.rows_encS, List.getElem?_map, List.getElem?_map] at hj
        have hjl : j < len := by
          cases hq : (List.range len)[j]? with
          | none => simp [hq] at hj
          | some q => have := (List.getElem?_eq_some_iff.1 hq).1; rwa [List.length_range] at this
        rw [List.getElem?_range hjl] at hj
        simp only [Option.map_some, Option.some.injEq] at hj
        have hc := (hx j (by omega)).1
        rw [Addr.add_lit] at hc
        rw [← hj]
        exact cell_all hc
    · obtain ⟨i, hi, rfl⟩ := List.mem_map.1 hs
      have h1 := bulk_mem (H := H) (d := .lit (.string (Sx i).data.toList)) (l := (List.range len).map fun i => (.lit (.string (Sx i).data.toList) : DataW H)) (List.mem_map.2 ⟨i, hi, rfl⟩)
      simp only [Rows.uptoBulk, Array.length_toList] at h1
      have h2 : (Sx i).size = (Sx i).data.size := rfl
      omega
set_option maxRecDepth 100000 in
/-- An argument []string. -/
theorem open_lines {H : Type} {enc : TypeId × Value → H} {W : World} {base : Nat} {v : Value} {d : DataW H} {p : List MemPlace} (hval : Value.okWide Try.prog W .any base 22 v) (h : DataW.Trod enc Try.prog W 0 (fun _ => true) true 22 v d p) (hk : Rows.uptoBulk d ≤ 1048576) :
    ∃ A ca ss, v = .slice A (List.length ss) ca ∧ Go.Aw.Strs (Go.Aw.all W) (.slice A (List.length ss) ca) ss ∧ (∀ s ∈ ss, s.size ≤ 1048576) ∧ List.length ss ≤ 1048576 ∧ List.length ss ≤ ca := by
  obtain ⟨A, len, cap, rfl⟩ := okWide_slice Try.underlying22 hval
  obtain ⟨fuel, hf⟩ := h
  obtain ⟨A', ca, ss, he, h1, h2, h3, h4⟩ := strs_down (x := (d, p)) hf hk
  simp [Value.cells] at he
  obtain ⟨rfl, rfl, rfl⟩ := he
  exact ⟨_, _, ss, rfl, h1, h2, h3, h4⟩
theorem int_range {n : Int} (h : (Lit.int .i64 n).wf = true) : -9223372036854775808 ≤ n ∧ n ≤ 9223372036854775807 := by
  simpa [Lit.wf, IntKind.min, IntKind.max, IntKind.signed, IntKind.bits] using h
set_option maxRecDepth 100000 in
/-- An argument []api.Template. -/
theorem open_tms {H : Type} {enc : TypeId × Value → H} {W : World} {base : Nat} {v : Value} {d : DataW H} {p : List MemPlace} (hval : Value.okWide Try.prog W .any base 29 v) (h : DataW.Trod enc Try.prog W 0 (fun _ => true) true 29 v d p) (hk : Rows.uptoBulk d ≤ 1048576) :
    ∃ A ca l, v = .slice A (List.length l) ca ∧ Go.Aw.Tms (Go.Aw.all W) (.slice A (List.length l) ca) l ∧ (∀ t ∈ l, t.Ok (Go.Aw.all W) ∧ t.toks.length ≤ 1048576 ∧ (∀ s ∈ t.toks, s.size ≤ 1048576) ∧ -9223372036854775808 ≤ t.cnt ∧ t.cnt ≤ 9223372036854775807) ∧ List.length l ≤ 1048576 ∧ List.length l ≤ ca := by
  obtain ⟨A, len0, cap0, rfl⟩ := okWide_slice Try.underlying29 hval
  obtain ⟨fuel, hf⟩ := h
  have hf' : DataW.trod enc Try.prog W 0 (fun _ => true) true fuel 29 [.slice A len0 cap0] = some (d, p) := hf
  rcases Go.Deep.open_slice_pairs Try.underlying29 Try.underlying33 cells33 rfl rfl cells22 cells3 hf' with ⟨hcs, hx⟩ | ⟨a, len, cap, m, n, V0, V1, D0, D1, P0, P1, hcs, _, hl, hm, hmm, hx, hcell⟩
  · simp only [List.cons.injEq, Value.slice.injEq, and_true] at hcs
    obtain ⟨rfl, rfl, rfl⟩ := hcs
    exact ⟨none, 0, [], rfl, ⟨none, 0, 0, rfl, rfl, .inl rfl⟩, by simp, Nat.zero_le _, Nat.zero_le _⟩
  · simp only [List.cons.injEq, Value.slice.injEq, and_true] at hcs
    obtain ⟨rfl, rfl, rfl⟩ := hcs
    simp only [if_true] at hmm
    subst hmm
    simp only [Prod.mk.injEq] at hx
    obtain ⟨rfl, -⟩ := hx
    simp only [Rows.uptoBulk] at hk
    have hbl : len0 ≤ 1048576 := by
      have h1 := bulk_len (H := H) ((List.range len0).map fun i => (.agg [D0 i, D1 i] : DataW H))
      simp only [List.length_map, List.length_range] at h1
      omega
    have each : ∀ i, i < len0 → ∃ t : Go.Aw.Tm, V0 i = .slice t.A t.n t.cap ∧ V1 i = .int .i64 t.cnt ∧ t.Ok (Go.Aw.all W) ∧ t.toks.length ≤ 1048576 ∧ (∀ s ∈ t.toks, s.size ≤ 1048576) ∧ -9223372036854775808 ≤ t.cnt ∧ t.cnt ≤ 9223372036854775807 := fun i hi => by
      obtain ⟨_, _, h0, h1⟩ := hcell i (by omega)
      have hb := bulk_mem (H := H) (d := .agg [D0 i, D1 i]) (l := (List.range len0).map fun i => (.agg [D0 i, D1 i] : DataW H)) (List.mem_map.2 ⟨i, List.mem_range.2 hi, rfl⟩)
      simp only [Rows.uptoBulk, Rows.uptoBulkAll] at hb
      obtain ⟨A', ca, ss, he, k1, k2, k3, k4⟩ := strs_down h0 (by show Rows.uptoBulk (D0 i) ≤ _; omega)
      obtain ⟨z, he2, _, hwf⟩ := DataW.trod_int Try.underlying3 h1
      simp only [List.cons.injEq, and_true] at he he2
      have hr := int_range hwf
      exact ⟨⟨A', ss.length, ca, ss, z⟩, he, he2, k1, k3, k2, hr.1, hr.2⟩
    letI : Inhabited Go.Aw.Tm := ⟨⟨none, 0, 0, [], 0⟩⟩
    obtain ⟨T, hT⟩ := Go.Deep.choose_lt each
    have hlen : ((List.range len0).map T).length = len0 := by simp
    refine ⟨some a, m, (List.range len0).map T, by rw [hlen], ?_, fun t ht => ?_, by omega, by omega⟩
    · rw [hlen]
      refine ⟨some a, len0, m, rfl, by rw [Go.Aw.rows_length Go.Aw.encT_len, hlen], ?_⟩
      by_cases h0 : len0 = 0
      · exact .inl h0
      · have hsp : a.spot = none := cell_spot (v := V0 0) (by have := (hcell 0 (by omega)).1; simpa [Addr.add] using this)
        obtain ⟨b, off, spot⟩ := a
        simp only at hsp
        subst hsp
        refine .inr ⟨b, off, rfl, ?_⟩
        have key : ∀ k, k ≤ len0 → Go.Aw.CellsAt (Go.Aw.all W) b off (Go.Aw.rows Go.Aw.encT ((List.range k).map T)) := by
          intro k
          induction k with
          | zero => intro _; exact trivial
          | succ k ih =>
            intro hk'
            have h1 := ih (by omega)
            obtain ⟨hc0, hc1, _, _⟩ := hcell k (by omega)
            obtain ⟨e0, e1, _⟩ := hT k (by omega)
            rw [Addr.add_lit] at hc0 hc1
            rw [e0] at hc0
            rw [e1] at hc1
            have hl2 : (Go.Aw.rows Go.Aw.encT ((List.range k).map T)).length = k * 2 := by rw [Go.Aw.rows_length Go.Aw.encT_len]; simp
            rw [List.range_succ, List.map_append, Go.Aw.rows_append]
            refine Go.Aw.CellsAt.of_get fun j v hj => ?_
            by_cases hjk : j < k * 2
            · rw [List.getElem?_append_left (by omega)] at hj
              exact h1.get j v hj
            · rw [List.getElem?_append_right (by omega), hl2] at hj
              have hj2 : j - k * 2 = 0 ∨ j - k * 2 = 1 := by
                have := (List.getElem?_eq_some_iff.1 hj).1
                have h5 : (Go.Aw.rows Go.Aw.encT ([k].map T)).length = 2 := rfl
                omega
              rcases hj2 with e | e
              · rw [e] at hj
                have : v = .slice (T k).A (T k).n (T k).cap := by simpa [Go.Aw.rows, Go.Aw.encT] using hj.symm
                rw [this, show off + j = off + k * 2 by omega]
                exact cell_all hc0
              · rw [e] at hj
                have : v = .int .i64 (T k).cnt := by simpa [Go.Aw.rows, Go.Aw.encT] using hj.symm
                rw [this, show off + j = off + (k * 2 + 1) by omega]
                exact cell_all hc1
        exact key len0 (Nat.le_refl _)
    · obtain ⟨i, hi, rfl⟩ := List.mem_map.1 ht
      exact (hT i (List.mem_range.1 hi)).2.2
set_option maxRecDepth 100000 in
/-- An argument string. -/
theorem open_str {H : Type} {enc : TypeId × Value → H} {W : World} {base : Nat} {v : Value} {d : DataW H} {p : List MemPlace} (hval : Value.okWide Try.prog W .any base 9 v) (h : DataW.Trod enc Try.prog W 0 (fun _ => true) true 9 v d p) (hk : Rows.uptoBulk d ≤ 1048576) :
    ∃ s : ByteArray, v = .string s ∧ s.size ≤ 1048576 := by
  obtain ⟨s, rfl, rfl, _, _⟩ := Go.ChangeMaps.open_string Try.underlying9 hval h
  refine ⟨s, rfl, ?_⟩
  simp only [Rows.uptoBulk, Array.length_toList] at hk
  have h2 : s.size = s.data.size := rfl
  omega
end Go.Proofs.Ytmofaabndjnhjaa
