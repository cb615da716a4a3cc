/- What every law's row asks: arguments opened, and read again behind the call. -/
import Derived.Test.YtmofaabndjnhjaaGreatRows
import Derived.Test.YtmofaabndjnhjaaGreatHeap
import Derived.WalkKit
import Derived.ProofKit
import Derived.OpenShut
import Derived.JoinedCond
import Derived.Carry
import Derived.Deep.Strs
import Derived.Deep.SlicePairs
import Derived.ChangeMaps5
set_option linter.unusedVariables false
namespace Go.Proofs.YtmofaabndjnhjaaGreat
open Go.ChangeShapes Go.WideShapes Go.ChangeAt Go.RowKit
theorem ownK : ownKnob Tryz.prog.godebug = none := by kernel_rfl
theorem laidOutP : laidOutB Tryz.prog = true := by kernel_rfl
theorem all_below {H : Type} {enc : TypeId × Value → H} {W W' : World} (hb : Below W.heap.size W W') : ∀ {ts : List TypeId} {vs : List Value} {ds : List (DataW H)} {ps : List MemPlace}, DataW.TrodAll enc Tryz.prog W 0 (fun _ => true) true ts vs ds ps →
    (∀ t ∈ ts, Tryz.prog.readableRec t = true ∧ t < Tryz.prog.types.size) → (∀ x ∈ ps, x.block < W.heap.size) → DataW.TrodAll enc Tryz.prog W' 0 (fun b => decide (b < W.heap.size)) true ts vs ds ps
  | [], vs, ds, ps, h, _, _ => by
    obtain ⟨rfl, rfl, rfl⟩ := trodAll_nil h
    exact trodAll_mk0
  | t :: ts, vs, ds, ps, h, ht, hp => by
    obtain ⟨v, vs', d, ds', p, q, rfl, rfl, rfl, h1, h2⟩ := trodAll_cons h
    have h3 := ht t (List.mem_cons_self ..)
    exact trodAll_cons_mk (Below.trod laidOutP h3.1 h3.2 h1 hb fun x hx => hp x (List.mem_append_left _ hx)) (all_below hb h2 (fun t ht' => ht t (List.mem_cons_of_mem _ ht')) fun x hx => hp x (List.mem_append_right _ hx))
theorem law_post {H : Type} {enc : TypeId × Value → H} {f : Func} {s : ChangeSpec} {W W' : World} {args : Array Value} {ds : List (DataW H)} {before : List MemPlace} (hs : s.vars = []) (hrt : f.resultTypes = #[4])
    (hres : s.fn H (ds ++ []) = { results := [.lit (.bool true)], args := ds }) (hr : ∀ t ∈ f.params.toList, Tryz.prog.readableRec t = true ∧ t < Tryz.prog.types.size)
    (hW : DataW.Whole enc Tryz.prog f.params.toList s.vars false W args.toList ds [] before) (hb : Below W.heap.size W W') : s.post enc Tryz.prog f false true false false W args (.bool true) W' := by
  have hlt := hW.lt
  have hW' := hW
  obtain ⟨p, q, hA, hV, rfl, hfz, hnd⟩ := hW
  rw [hs] at hV
  obtain ⟨_, rfl⟩ := trodVars_none hV
  refine ⟨ds, [], p ++ [], [], p, [], hW', ?_, ?_, ?_, hb.frame _, fun h => by cases h⟩
  · rw [hres, hrt]
    exact trodAll_mk1 (shut_bool Tryz.underlying4 true)
  · rw [hres]
    exact all_below hb hA hr fun x hx => hlt x (by simpa using hx)
  · rw [hres, hs]
    exact rfl
theorem bulk_one {H : Type} (d : DataW H) : 1 ≤ Rows.uptoBulk d := by
  cases d with
  | lit l => cases l <;> simp [Rows.uptoBulk]
  | nil => simp [Rows.uptoBulk]
  | ptr d => simp [Rows.uptoBulk]
  | slice elems spare => simp [Rows.uptoBulk]
  | agg parts => simp [Rows.uptoBulk]
  | iface t d => simp [Rows.uptoBulk]
  | map entries => simp [Rows.uptoBulk]
  | held h => simp [Rows.uptoBulk]
theorem bulk_len {H : Type} (l : List (DataW H)) : l.length ≤ Rows.uptoBulkAll l := by
  induction l with
  | nil => simp [Rows.uptoBulkAll]
  | cons x r ih => have := bulk_one x; simp only [Rows.uptoBulkAll, List.length_cons]; omega
theorem bulk_bound {H : Type} {l : List (DataW H)} (hk : Rows.uptoSmall H l = true) : Rows.uptoBulkAll l ≤ 1048576 := of_decide_eq_true hk
theorem bulk_mem {H : Type} {d : DataW H} {l : List (DataW H)} (h : d ∈ l) : Rows.uptoBulk d ≤ Rows.uptoBulkAll l := by
  induction l with
  | nil => cases h
  | cons x r ih =>
    simp only [Rows.uptoBulkAll]
    rcases List.mem_cons.1 h with e | e
    · subst e; omega
    · have := ih e; omega
theorem cell_all {W : World} {b o : Nat} {v : Value} (h : W.cell? ⟨b, o, none⟩ = some v) : Go.Aw.cell (Go.Aw.all W) b o = some v := by
  unfold Go.Aw.cell Go.Aw.all
  unfold World.cell? at h
  cases hb : W.heap[b]? with
  | none => simp [hb] at h
  | some ob => cases ob <;> simp [hb] at h ⊢; exact h
theorem cell_spot {W : World} {a : Addr} {v : Value} (h : W.cell? a = some v) : a.spot = none := by
  unfold World.cell? at h
  cases hs : a.spot with
  | none => rfl
  | some q =>
    rw [hs] at h
    cases hb : W.heap[a.block]? with
    | none => simp [hb] at h
    | some ob => cases ob <;> simp [hb] at h
theorem rows_encB (l : List UInt8) : Go.Aw.rows Go.Aw.encB l = l.map fun b => Value.int .u8 (b.toNat : Int) := by
  induction l with
  | nil => rfl
  | cons x l ih => rw [Go.Aw.rows_cons, ih]; rfl
theorem cells5 : Tryz.prog.cellsOf 5 = 1 := by kernel_rfl
set_option maxRecDepth 100000 in
/-- An argument []uint8. -/
theorem open_bytes {H : Type} {enc : TypeId × Value → H} {W : World} {base : Nat} {v : Value} {d : DataW H} {p : List MemPlace} (hval : Value.okWide Tryz.prog W .any base 22 v) (h : DataW.Trod enc Tryz.prog W 0 (fun _ => true) true 22 v d p) (hk : Rows.uptoBulk d ≤ 1048576) :
    ∃ A ca l, v = .slice A (List.length l) ca ∧ Go.Aw.RdSl (Go.Aw.all W) Go.Aw.encB 1 (.slice A (List.length l) ca) l ∧ List.length l ≤ ca ∧ List.length l ≤ 1048576 := by
  obtain ⟨A, len, cap, rfl⟩ := okWide_slice Tryz.underlying22 hval
  obtain ⟨fuel, hf⟩ := h
  rcases open_ints Tryz.underlying22 Tryz.underlying5 cells5 hf with ⟨hcs, hx⟩ | ⟨a, len', cap', zs, hcs, _, hl, hm, hz, hx, hcell, hwz⟩
  · simp [Value.cells] at hcs
    obtain ⟨rfl, rfl, rfl⟩ := hcs
    exact ⟨none, 0, [], rfl, ⟨none, 0, 0, rfl, rfl, .inl rfl⟩, Nat.le_refl _, Nat.zero_le _⟩
  · simp [Value.cells] at hcs
    obtain ⟨rfl, rfl, rfl⟩ := hcs
    simp only [Prod.mk.injEq] at hx
    obtain ⟨rfl, -⟩ := hx
    simp only [if_true] at hz
    have hlen : ((zs.take len).map fun n => UInt8.ofNat n.toNat).length = len := by rw [List.length_map, List.length_take, hz]; omega
    have hbl : len ≤ 1048576 := by
      have h1 := bulk_len (H := H) (lits .u8 (zs.take len))
      simp only [Rows.uptoBulk] at hk
      have h2 : (lits (H := H) .u8 (zs.take len)).length = len := by simp [lits, hz]; omega
      omega
    refine ⟨some a, cap, (zs.take len).map fun n => UInt8.ofNat n.toNat, by rw [hlen], ?_, by omega, by omega⟩
    rw [hlen]
    refine ⟨some a, len, cap, rfl, by rw [rows_encB]; simp [hz]; omega, ?_⟩
    by_cases h0 : len = 0
    · exact .inl h0
    · have hs : a.spot = none := cell_spot (v := .int .u8 (zs.getD 0 0)) (by have := hcell 0 (by omega); simpa [Addr.add] using this)
      obtain ⟨b, off, spot⟩ := a
      simp only at hs
      subst hs
      refine .inr ⟨b, off, rfl, Go.Aw.CellsAt.of_get fun j v hj => ?_⟩
      rw [rows_encB, List.getElem?_map, List.getElem?_map] at hj
      have hjl : j < len := by
        cases hq : (zs.take len)[j]? with
        | none => simp [hq] at hj
        | some q => have := (List.getElem?_eq_some_iff.1 hq).1; rw [List.length_take] at this; omega
      rw [List.getElem?_take_of_lt hjl, List.getElem?_eq_getElem (by omega)] at hj
      simp only [Option.map_some, Option.some.injEq] at hj
      have hc := hcell j (by omega)
      rw [Addr.add_lit, List.getD_eq_getElem?_getD, List.getElem?_eq_getElem (by omega), Option.getD_some] at hc
      have hw := hwz zs[j] (List.getElem_mem ..)
      have hb2 : 0 ≤ zs[j] ∧ zs[j] ≤ 255 := by simpa [Lit.wf, IntKind.min, IntKind.max, IntKind.signed, IntKind.bits] using hw
      have he : ((UInt8.ofNat zs[j].toNat).toNat : Int) = zs[j] := by
        rw [UInt8.toNat_ofNat']; omega
      rw [he] at hj
      rw [← hj]
      exact cell_all hc
end Go.Proofs.YtmofaabndjnhjaaGreat
/- Arguments []string, []api.Template, string, opened. -/
set_option linter.unusedVariables false
namespace Go.Proofs.YtmofaabndjnhjaaGreat
open Go.ChangeShapes Go.WideShapes Go.ChangeAt Go.RowKit
theorem cells9 : Tryz.prog.cellsOf 9 = 1 := by kernel_rfl
theorem cells32 : Tryz.prog.cellsOf 32 = 2 := by kernel_rfl
theorem cells27 : Tryz.prog.cellsOf 27 = 1 := by kernel_rfl
theorem cells3 : Tryz.prog.cellsOf 3 = 1 := by kernel_rfl
/-- A row of strings, read down. -/
theorem strs_down {H : Type} {enc : TypeId × Value → H} {W : World} {fuel : Nat} {cs : List Value} {x : DataW H × List MemPlace} (h : DataW.trod enc Tryz.prog W 0 (fun _ => true) true fuel 27 cs = some x) (hk : Rows.uptoBulk x.1 ≤ 1048576) :
    ∃ A ca ss, cs = [.slice A (List.length ss) ca] ∧ Go.Aw.Strs (Go.Aw.all W) (.slice A ss.length ca) ss ∧ (∀ s ∈ ss, s.size ≤ 1048576) ∧ List.length ss ≤ 1048576 ∧ List.length ss ≤ ca := by
  rcases Go.Deep.open_strs Tryz.underlying27 Tryz.underlying9 cells9 h with ⟨rfl, rfl⟩ | ⟨a, len, cap, m, Sx, rfl, _, hl, hm, hmm, rfl, hx⟩
  · exact ⟨none, 0, [], rfl, ⟨none, 0, 0, rfl, rfl, .inl rfl⟩, by simp, Nat.zero_le _, Nat.zero_le _⟩
  · simp only [if_true] at hmm
    subst hmm
    simp only [Rows.uptoBulk] at hk
    have hlen : ((List.range len).map Sx).length = len := by simp
    have hbl : len ≤ 1048576 := by
      have h1 := bulk_len (H := H) ((List.range len).map fun i => (.lit (.string (Sx i).data.toList) : DataW H))
      simp only [List.length_map, List.length_range] at h1
      omega
    refine ⟨some a, m, (List.range len).map Sx, by rw [hlen], ?_, fun s hs => ?_, by omega, by omega⟩
    · rw [hlen]
      refine ⟨some a, len, m, rfl, by rw [Go.Aw.rows_encS]; simp, ?_⟩
      by_cases h0 : len = 0
      · exact .inl h0
      · have hsp : a.spot = none := cell_spot (v := .string (Sx 0)) (by have := (hx 0 (by omega)).1; simpa [Addr.add] using this)
        obtain ⟨b, off, spot⟩ := a
        simp only at hsp
        subst hsp
        refine .inr ⟨b, off, rfl, Go.Aw.CellsAt.of_get fun j v hj => ?_⟩
        rw [Go.Aw.rows_encS, List.getElem?_map, List.getElem?_map] at hj
        have hjl : j < len := by
          cases hq : (List.range len)[j]? with
          | none => simp [hq] at hj
          | some q => have := (List.getElem?_eq_some_iff.1 hq).1; rwa [List.length_range] at this
        rw [List.getElem?_range hjl] at hj
        simp only [Option.map_some, Option.some.injEq] at hj
        have hc := (hx j (by omega)).1
        rw [Addr.add_lit] at hc
        rw [← hj]
        exact cell_all hc
    · obtain ⟨i, hi, rfl⟩ := List.mem_map.1 hs
      have h1 := bulk_mem (H := H) (d := .lit (.string (Sx i).data.toList)) (l := (List.range len).map fun i => (.lit (.string (Sx i).data.toList) : DataW H)) (List.mem_map.2 ⟨i, hi, rfl⟩)
      simp only [Rows.uptoBulk, Array.length_toList] at h1
      have h2 : (Sx i).size = (Sx i).data.size := rfl
      omega
set_option maxRecDepth 100000 in
/-- An argument []string. -/
theorem open_lines {H : Type} {enc : TypeId × Value → H} {W : World} {base : Nat} {v : Value} {d : DataW H} {p : List MemPlace} (hval : Value.okWide Tryz.prog W .any base 27 v) (h : DataW.Trod enc Tryz.prog W 0 (fun _ => true) true 27 v d p) (hk : Rows.uptoBulk d ≤ 1048576) :
    ∃ A ca ss, v = .slice A (List.length ss) ca ∧ Go.Aw.Strs (Go.Aw.all W) (.slice A (List.length ss) ca) ss ∧ (∀ s ∈ ss, s.size ≤ 1048576) ∧ List.length ss ≤ 1048576 ∧ List.length ss ≤ ca := by
  obtain ⟨A, len, cap, rfl⟩ := okWide_slice Tryz.underlying27 hval
  obtain ⟨fuel, hf⟩ := h
  obtain ⟨A', ca, ss, he, h1, h2, h3, h4⟩ := strs_down (x := (d, p)) hf hk
  simp [Value.cells] at he
  obtain ⟨rfl, rfl, rfl⟩ := he
  exact ⟨_, _, ss, rfl, h1, h2, h3, h4⟩
theorem int_range {n : Int} (h : (Lit.int .i64 n).wf = true) : -9223372036854775808 ≤ n ∧ n ≤ 9223372036854775807 := by
  simpa [Lit.wf, IntKind.min, IntKind.max, IntKind.signed, IntKind.bits] using h
set_option maxRecDepth 100000 in
/-- An argument []api.Template. -/
theorem open_tms {H : Type} {enc : TypeId × Value → H} {W : World} {base : Nat} {v : Value} {d : DataW H} {p : List MemPlace} (hval : Value.okWide Tryz.prog W .any base 23 v) (h : DataW.Trod enc Tryz.prog W 0 (fun _ => true) true 23 v d p) (hk : Rows.uptoBulk d ≤ 1048576) :
    ∃ A ca l, v = .slice A (List.length l) ca ∧ Go.Aw.Tms (Go.Aw.all W) (.slice A (List.length l) ca) l ∧ (∀ t ∈ l, t.Ok (Go.Aw.all W) ∧ t.toks.length ≤ 1048576 ∧ (∀ s ∈ t.toks, s.size ≤ 1048576) ∧ -9223372036854775808 ≤ t.cnt ∧ t.cnt ≤ 9223372036854775807) ∧ List.length l ≤ 1048576 ∧ List.length l ≤ ca := by
  obtain ⟨A, len0, cap0, rfl⟩ := okWide_slice Tryz.underlying23 hval
  obtain ⟨fuel, hf⟩ := h
  have hf' : DataW.trod enc Tryz.prog W 0 (fun _ => true) true fuel 23 [.slice A len0 cap0] = some (d, p) := hf
  rcases Go.Deep.open_slice_pairs Tryz.underlying23 Tryz.underlying32 cells32 rfl rfl cells27 cells3 hf' with ⟨hcs, hx⟩ | ⟨a, len, cap, m, n, V0, V1, D0, D1, P0, P1, hcs, _, hl, hm, hmm, hx, hcell⟩
  · simp only [List.cons.injEq, Value.slice.injEq, and_true] at hcs
    obtain ⟨rfl, rfl, rfl⟩ := hcs
    exact ⟨none, 0, [], rfl, ⟨none, 0, 0, rfl, rfl, .inl rfl⟩, by simp, Nat.zero_le _, Nat.zero_le _⟩
  · simp only [List.cons.injEq, Value.slice.injEq, and_true] at hcs
    obtain ⟨rfl, rfl, rfl⟩ := hcs
    simp only [if_true] at hmm
    subst hmm
    simp only [Prod.mk.injEq] at hx
    obtain ⟨rfl, -⟩ := hx
    simp only [Rows.uptoBulk] at hk
    have hbl : len0 ≤ 1048576 := by
      have h1 := bulk_len (H := H) ((List.range len0).map fun i => (.agg [D0 i, D1 i] : DataW H))
      simp only [List.length_map, List.length_range] at h1
      omega
    have each : ∀ i, i < len0 → ∃ t : Go.Aw.Tm, V0 i = .slice t.A t.n t.cap ∧ V1 i = .int .i64 t.cnt ∧ t.Ok (Go.Aw.all W) ∧ t.toks.length ≤ 1048576 ∧ (∀ s ∈ t.toks, s.size ≤ 1048576) ∧ -9223372036854775808 ≤ t.cnt ∧ t.cnt ≤ 9223372036854775807 := fun i hi => by
      obtain ⟨_, _, h0, h1⟩ := hcell i (by omega)
      have hb := bulk_mem (H := H) (d := .agg [D0 i, D1 i]) (l := (List.range len0).map fun i => (.agg [D0 i, D1 i] : DataW H)) (List.mem_map.2 ⟨i, List.mem_range.2 hi, rfl⟩)
      simp only [Rows.uptoBulk, Rows.uptoBulkAll] at hb
      obtain ⟨A', ca, ss, he, k1, k2, k3, k4⟩ := strs_down h0 (by show Rows.uptoBulk (D0 i) ≤ _; omega)
      obtain ⟨z, he2, _, hwf⟩ := DataW.trod_int Tryz.underlying3 h1
      simp only [List.cons.injEq, and_true] at he he2
      have hr := int_range hwf
      exact ⟨⟨A', ss.length, ca, ss, z⟩, he, he2, k1, k3, k2, hr.1, hr.2⟩
    letI : Inhabited Go.Aw.Tm := ⟨⟨none, 0, 0, [], 0⟩⟩
    obtain ⟨T, hT⟩ := Go.Deep.choose_lt each
    have hlen : ((List.range len0).map T).length = len0 := by simp
    refine ⟨some a, m, (List.range len0).map T, by rw [hlen], ?_, fun t ht => ?_, by omega, by omega⟩
    · rw [hlen]
      refine ⟨some a, len0, m, rfl, by rw [Go.Aw.rows_length Go.Aw.encT_len, hlen], ?_⟩
      by_cases h0 : len0 = 0
      · exact .inl h0
      · have hsp : a.spot = none := cell_spot (v := V0 0) (by have := (hcell 0 (by omega)).1; simpa [Addr.add] using this)
        obtain ⟨b, off, spot⟩ := a
        simp only at hsp
        subst hsp
        refine .inr ⟨b, off, rfl, ?_⟩
        have key : ∀ k, k ≤ len0 → Go.Aw.CellsAt (Go.Aw.all W) b off (Go.Aw.rows Go.Aw.encT ((List.range k).map T)) := by
          intro k
          induction k with
          | zero => intro _; exact trivial
          | succ k ih =>
            intro hk'
            have h1 := ih (by omega)
            obtain ⟨hc0, hc1, _, _⟩ := hcell k (by omega)
            obtain ⟨e0, e1, _⟩ := hT k (by omega)
            rw [Addr.add_lit] at hc0 hc1
            rw [e0] at hc0
            rw [e1] at hc1
            have hl2 : (Go.Aw.rows Go.Aw.encT ((List.range k).map T)).length = k * 2 := by rw [Go.Aw.rows_length Go.Aw.encT_len]; simp
            rw [List.range_succ, List.map_append, Go.Aw.rows_append]
            refine Go.Aw.CellsAt.of_get fun j v hj => ?_
            by_cases hjk : j < k * 2
            · rw [List.getElem?_append_left (by omega)] at hj
              exact h1.get j v hj
            · rw [List.getElem?_append_right (by omega), hl2] at hj
              have hj2 : j - k * 2 = 0 ∨ j - k * 2 = 1 := by
                have := (List.getElem?_eq_some_iff.1 hj).1
                have h5 : (Go.Aw.rows Go.Aw.encT ([k].map T)).length = 2 := rfl
                omega
              rcases hj2 with e | e
              · rw [e] at hj
                have : v = .slice (T k).A (T k).n (T k).cap := by simpa [Go.Aw.rows, Go.Aw.encT] using hj.symm
                rw [this, show off + j = off + k * 2 by omega]
                exact cell_all hc0
              · rw [e] at hj
                have : v = .int .i64 (T k).cnt := by simpa [Go.Aw.rows, Go.Aw.encT] using hj.symm
                rw [this, show off + j = off + (k * 2 + 1) by omega]
                exact cell_all hc1
        exact key len0 (Nat.le_refl _)
    · obtain ⟨i, hi, rfl⟩ := List.mem_map.1 ht
      exact (hT i (List.mem_range.1 hi)).2.2
set_option maxRecDepth 100000 in
/-- An argument string. -/
theorem open_str {H : Type} {enc : TypeId × Value → H} {W : World} {base : Nat} {v : Value} {d : DataW H} {p : List MemPlace} (hval : Value.okWide Tryz.prog W .any base 9 v) (h : DataW.Trod enc Tryz.prog W 0 (fun _ => true) true 9 v d p) (hk : Rows.uptoBulk d ≤ 1048576) :
    ∃ s : ByteArray, v = .string s ∧ s.size ≤ 1048576 := by
  obtain ⟨s, rfl, rfl, _, _⟩ := Go.ChangeMaps.open_string Tryz.underlying9 hval h
  refine ⟨s, rfl, ?_⟩
  simp only [Rows.uptoBulk, Array.length_toList] at hk
  have h2 : s.size = s.data.size := rfl
  omega
end Go.Proofs.YtmofaabndjnhjaaGreat
