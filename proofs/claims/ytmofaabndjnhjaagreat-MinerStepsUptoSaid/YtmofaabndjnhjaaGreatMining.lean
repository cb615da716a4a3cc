/- The program's side: fields, variables. -/
import Derived.Test.YtmofaabndjnhjaaGreatReference
import Derived.Test.YtmofaabndjnhjaaGreatHeap
import Derived.Test.YtmofaabndjnhjaaGreatPlain
import Derived.Test.YtmofaabndjnhjaaGreatLaid
set_option linter.unusedVariables false
namespace Go.Proofs.YtmofaabndjnhjaaGreat
open Go Go.Aw Go.RowKit
theorem ez68 : Enters Tryz.prog 68 := enters_of Tryz.func68 (by kernel_rfl) rfl
set_option maxRecDepth 100000 in
theorem Fz68 (m : Hp) (c : Int) : RC Tryz.prog 68 #[.int .i32 c] m (.bool (decide (c = 32) || decide (c = 9))) := by
  refine rc_of_gc fun m1 hm => gc_intro (vs := [_]) Tryz.func68 rfl Tryz.ntmps68 (by simp) ?_
  refine awp_rs (ao_r (rig_assign rfl rfl) rfl (ao_nil ?_))
  refine awp_rs ?_
  refine ao_r (rig_move rfl rfl) rfl (ao_r (rig_eql rfl rfl rfl) rfl (ao_r (rig_move rfl rfl) rfl ?_))
  by_cases h : c = 32
  · rw [decide_eq_true h]
    refine ao_no rfl rfl rfl rfl (ao_no rfl rfl rfl rfl (ao_r (rig_pickT rfl rfl rfl) rfl (ao_r (rig_assign rfl rfl) rfl (ao_nil ?_))))
    exact awp_ret ⟨_, res1 Tryz.results68 rfl, by simp, HpLe.refl _⟩
  · rw [decide_eq_false h]
    refine ao_on rfl rfl (ao_r (rig_move rfl rfl) rfl (ao_on rfl rfl (ao_r (rig_eql rfl rfl rfl) rfl (ao_r (rig_pickF rfl rfl rfl) rfl (ao_r (rig_assign rfl rfl) rfl (ao_nil ?_))))))
    exact awp_ret ⟨_, res1 Tryz.results68 rfl, by simp, HpLe.refl _⟩
theorem ez69 : Enters Tryz.prog 69 := enters_of Tryz.func69 (by kernel_rfl) rfl
set_option maxRecDepth 100000 in
theorem Fz69 (m : Hp) (c : Int) : RC Tryz.prog 69 #[.int .i32 c] m (.bool (decide (48 ≤ c) && decide (c ≤ 57))) := by
  refine rc_of_gc fun m1 hm => gc_intro (vs := [_]) Tryz.func69 rfl Tryz.ntmps69 (by simp) ?_
  refine awp_rs (ao_r (rig_assign rfl rfl) rfl (ao_nil ?_))
  refine awp_rs ?_
  refine ao_r (rig_move rfl rfl) rfl (ao_r (rig_leq rfl rfl rfl) rfl (ao_r (rig_move rfl rfl) rfl ?_))
  by_cases h : 48 ≤ c
  · rw [decide_eq_true h]
    refine ao_on rfl rfl (ao_r (rig_move rfl rfl) rfl (ao_on rfl rfl (ao_r (rig_leq rfl rfl rfl) rfl (ao_r (rig_pickT rfl rfl rfl) rfl (ao_r (rig_assign rfl rfl) rfl (ao_nil ?_))))))
    exact awp_ret ⟨_, res1 Tryz.results69 rfl, by simp, HpLe.refl _⟩
  · rw [decide_eq_false h]
    refine ao_no rfl rfl rfl rfl (ao_no rfl rfl rfl rfl (ao_r (rig_pickF rfl rfl rfl) rfl (ao_r (rig_assign rfl rfl) rfl (ao_nil ?_))))
    exact awp_ret ⟨_, res1 Tryz.results69 rfl, by simp, HpLe.refl _⟩
theorem ez67 : Enters Tryz.prog 67 := enters_of Tryz.func67 (by kernel_rfl) rfl
theorem Fz67 (m : Hp) (s : ByteArray) (hs : s.size ≤ 16777216) : GC Tryz.prog 67 #[.string s, .func (.func 68) #[] #[]] m (Fresh m fun u c F => Own 9 1 c u (rows encS (fieldsB s))) := by
  rw [rows_encS]
  refine gc_own (by decide) fun sg w hsat => ?_
  have hp : PredGrows Tryz.prog 68 #[] spR w := fun W x hx hb => by
    have := (Fz68 hp0 (x : Int)).at W
    have e : (decide ((x : Int) = 32) || decide ((x : Int) = 9)) = spR x := by
      rw [Bool.eq_iff_iff]; simp [spR]; omega
    rw [e] at this
    exact this
  have c := Any.strings_FieldsFunc_grows Tryz.laysFF 68 #[] ez68 spR s w (by omega) hp (by kernel_rfl) (by kernel_rfl)
  refine Calls.mono c fun e w' ⟨A, he, hA, ho, hb⟩ => ⟨_, (Lib.goFieldsP spR s).length, he, by rw [← goFields_eq]; exact ho, hb⟩
theorem ez46 : Enters Tryz.prog 46 := enters_of Tryz.func46 (by kernel_rfl) rfl
set_option maxRecDepth 100000 in
theorem Fz46 (m : Hp) (s : ByteArray) (hs : s.size ≤ 16777216) : GC Tryz.prog 46 #[.string s] m (Fresh m fun u c F => Own 9 1 c u (rows encS (fieldsB s))) := by
  refine gc_intro (vs := [_]) Tryz.func46 rfl Tryz.ntmps46 (by simp) ?_
  refine awp_rs (ao_r (rig_assign rfl rfl) rfl (ao_nil ?_))
  refine awp_rs ?_
  refine ao_r (rig_move rfl rfl) rfl (ao_x (ex_call rfl rfl ez67 (Fz67 _ s hs)) rfl fun v m1 h => ao_r (rig_assign rfl rfl) rfl (ao_nil ?_))
  exact awp_ret ⟨_, res1 Tryz.results46 rfl, h⟩
theorem ez61 : Enters Tryz.prog 61 := enters_of Tryz.func61 (by kernel_rfl) rfl
theorem Fz61 (m : Hp) (s : ByteArray) : RC Tryz.prog 61 #[.string s, .func (.func 69) #[] #[]] m (.int .i64 (Lib.idxFunc digR true s)) := by
  refine rc_of_below fun sg w hsat => ?_
  have hp : PredGrows Tryz.prog 69 #[] digR w := fun W x hx hb => by
    have := (Fz69 hp0 (x : Int)).at W
    have e : (decide (48 ≤ (x : Int)) && decide ((x : Int) ≤ 57)) = digR x := by
      rw [Bool.eq_iff_iff]; simp [digR]; omega
    rw [e] at this
    exact this
  exact Any.strings_IndexFunc_grows Tryz.laysIF 69 #[] ez69 digR s w hp
theorem ez47 : Enters Tryz.prog 47 := enters_of Tryz.func47 (by kernel_rfl) rfl
set_option maxRecDepth 100000 in
theorem Fz47 (m : Hp) (s : ByteArray) : RC Tryz.prog 47 #[.string s] m (.string (varB s)) := by
  refine rc_of_gc fun m1 hm => gc_intro (vs := [_]) Tryz.func47 rfl Tryz.ntmps47 (by simp) ?_
  refine awp_rs (ao_r (rig_assign rfl rfl) rfl (ao_nil ?_))
  refine awp_sk fun K1 hK1 => awp_rs ?_
  refine ao_r (rig_move rfl rfl) rfl (ao_r (rig_call rfl rfl ez61 (Fz61 _ s)) rfl (ao_r (rig_geq rfl rfl rfl) rfl (ao_nil ?_)))
  have hd := idxFunc_dig s
  refine awp_if rfl (fun h => ?_) (fun h => ?_)
  · refine awp_rs (ao_r (rig_assign rfl rfl) rfl (ao_nil ?_))
    refine awp_ret ⟨_, res1 Tryz.results47 rfl, ?_, HpLe.refl _⟩
    rw [decide_eq_true h] at hd
    rw [varB, if_pos hd.symm]; rfl
  · refine awp_skip (hK1 _ _ (awp_rs (ao_r (rig_move rfl rfl) rfl (ao_r (rig_assign rfl rfl) rfl (ao_nil ?_)))))
    refine awp_ret ⟨_, res1 Tryz.results47 rfl, ?_, HpLe.refl _⟩
    rw [decide_eq_false h] at hd
    rw [varB, if_neg (by simp [← hd])]
theorem ez26 : Enters Tryz.prog 26 := enters_of Tryz.func26 (by kernel_rfl) rfl
set_option maxRecDepth 100000 in
theorem Fz26 (m : Hp) (s : ByteArray) (hs : s.size ≤ 16777216) : GC Tryz.prog 26 #[.string s] m (Fresh m fun u c F => RTok s u c) := by
  refine gc_intro (vs := [_]) Tryz.func26 rfl Tryz.ntmps26 (by simp) ?_
  refine awp_rs (ao_r (rig_assign rfl rfl) rfl (ao_r (rig_assign rfl rfl) rfl (ao_nil ?_)))
  refine awp_rs ?_
  refine ao_r (rig_move rfl rfl) rfl (ao_x (ex_call rfl rfl ez46 (Fz46 _ s hs)) rfl fun v m1 ⟨c, F, hD, hm, hO⟩ => ao_r (rig_assign rfl rfl) rfl (ao_nil ?_))
  subst hm
  have hfl := fieldsB_length s
  obtain ⟨A, cap, rfl⟩ := hO.len encS_len (by decide)
  refine awp_sk fun K1 hK1 => ?_
  refine awp_mid (fun r mm => r = [(4, .slice A (fieldsB s).length cap), (16, .bool (decide ((fieldsB s).length = 0 ∨ 60 < (fieldsB s).length)))] ∧ mm = U [c, F, m]) (awp_region ?_) ?_
  · refine ao_r (rig_move rfl rfl) rfl (ao_r (rig_lenSl rfl rfl Tryz.underlying27) rfl (ao_r (rig_eql rfl rfl rfl) rfl (ao_r (rig_move rfl rfl) rfl (?_))))
    by_cases h0 : (fieldsB s).length = 0
    · rw [decide_eq_true (by omega)]
      refine ao_no rfl rfl rfl rfl (ao_no rfl rfl rfl rfl (ao_no rfl rfl rfl rfl (ao_r (rig_pickT rfl rfl rfl) rfl (ao_nil ?_))))
      exact ⟨[(4, .slice A (fieldsB s).length cap), (16, .bool _)], ⟨rfl, rfl, trivial⟩, by rw [decide_eq_true (.inl h0)], rfl⟩
    · rw [decide_eq_false (by omega)]
      refine ao_on rfl rfl (ao_r (rig_move rfl rfl) rfl (ao_on rfl rfl (ao_r (rig_lenSl rfl rfl Tryz.underlying27) rfl (ao_on rfl rfl (ao_r (rig_gtr rfl rfl rfl) rfl (ao_r (rig_pickF rfl rfl rfl) rfl (ao_nil ?_)))))))
      exact ⟨[(4, .slice A (fieldsB s).length cap), (16, .bool _)], ⟨rfl, rfl, trivial⟩, by rw [show decide ((fieldsB s).length = 0 ∨ 60 < (fieldsB s).length) = decide (((fieldsB s).length : Int) > 60) by rw [decide_eq_decide]; omega], rfl⟩
  rintro r mm ⟨rfl, rfl⟩
  refine awp_if rfl (fun h => ?_) (fun h => ?_)
  · refine awp_rs ?_
    refine ao_r (rig_assign rfl rfl) rfl (ao_r (rig_assign rfl rfl) rfl (ao_nil ?_))
    exact awp_ret ⟨_, res2 Tryz.results26 rfl rfl, c, F, hD, rfl, .inl ⟨by rw [toksOf, if_pos h], rfl⟩⟩
  · refine awp_skip (hK1 _ _ (awp_sk fun K2 hK2 => awp_rs ?_))
    have htok : toksOf s = some ((fieldsB s).map varB) := by rw [toksOf, if_neg h]
    obtain ⟨g, cap', sp, hv, rfl, hsp, hn, hcm⟩ := hO.some_ encS_len (by decide) (by omega)
    simp only [Value.slice.injEq] at hv
    obtain ⟨rfl, _, rfl⟩ := hv
    refine ao_r (rig_move rfl rfl) rfl (ao_r (rig_lenSl rfl rfl Tryz.underlying27) rfl (ao_r (rig_move rfl rfl) rfl (ao_nil ?_)))
    refine awp_block ?_
    refine awp_le [(4, .slice (some ⟨g, 0, none⟩) (fieldsB s).length cap), (17, .slice (some ⟨g, 0, none⟩) (fieldsB s).length cap), (18, .int .i64 (fieldsB s).length), (19, .int .i64 (0 : Nat))] ⟨rfl, rfl, rfl, rfl, trivial⟩ ?_
    refine awp_loop (fun k r mm => ∃ i : Nat, i ≤ (fieldsB s).length ∧ k = (fieldsB s).length - i ∧ r = [(4, .slice (some ⟨g, 0, none⟩) (fieldsB s).length cap), (17, .slice (some ⟨g, 0, none⟩) (fieldsB s).length cap), (18, .int .i64 (fieldsB s).length), (19, .int .i64 i)] ∧ mm = U [Go.Aw.one g (.cells (rows encS (half (fieldsB s) i) ++ sp).toArray 9 (0, 0)), F, m] ∧ Dj [Go.Aw.one g (.cells (rows encS (half (fieldsB s) i) ++ sp).toArray 9 (0, 0)), F, m]) _ ⟨0, by omega, rfl, rfl, by rw [half_zero], by rw [half_zero]; exact hD⟩ ?_
    rintro k r mm ⟨i, hi, rfl, rfl, rfl, hd⟩
    refine awp_rs ?_
    refine ao_r (rig_lss rfl rfl rfl) rfl (ao_nil ?_)
    refine awp_sk fun K3 hK3 => ?_
    refine awp_if rfl (fun h1 => ?_) (fun h1 => ?_)
    · refine awp_skip (hK3 _ _ (awp_sk fun K4 hK4 => awp_block (awp_rs ?_)))
      obtain ⟨x, hx⟩ := get_lt (l := fieldsB s) (i := i) (by omega)
      have hx2 := half_get hx
      have hxs : x.size ≤ s.size := fieldsB_size (List.mem_of_getElem? hx)
      have hc : cell (U [Go.Aw.one g (.cells (rows encS (half (fieldsB s) i) ++ sp).toArray 9 (0, 0)), F, m]) g (0 + i * 1) = some (.string x) := by
        refine cell_at 0 hd rfl ?_
        have := rows_get encS_len _ i x hx2 0 (.string x) rfl
        simp only [List.getElem?_toArray]
        rw [List.getElem?_append_left (by simpa using (List.getElem?_eq_some_iff.1 this).1)]
        simpa using this
      refine ao_r (rig_move rfl rfl) rfl (ao_r (rig_ix i rfl rfl rfl Tryz.underlying27 Tryz.sizeOf9 rfl rfl (by omega)) rfl (ao_r (rig_load1 rfl rfl Tryz.isAgg9 hc) rfl (ao_r (rig_assign rfl rfl) rfl (ao_r (rig_assign rfl rfl) rfl (ao_nil ?_)))))
      refine awp_region ?_
      refine ao_r (rig_move rfl rfl) rfl (ao_r (rig_move rfl rfl) rfl (ao_r (rig_move rfl rfl) rfl (ao_r (rig_call rfl rfl ez47 (Fz47 _ x)) rfl (ao_r (rig_ix i rfl rfl rfl Tryz.underlying27 Tryz.sizeOf9 rfl rfl (by omega)) rfl ?_))))
      refine ao_x0 (ex_store (i := 0) rfl hd rfl rfl Tryz.sizeOf9 (by simp [Value.cells, Value.oneCell']) rfl (by simp [Value.cells, rows_length encS_len, half_length]; omega)) fun v m1 ⟨_, hm, hd2⟩ => ?_
      subst hm
      have e : putR (rows encS (half (fieldsB s) i) ++ sp).toArray (0 + i * 1) (Value.string (varB x)).cells.toList = (rows encS (half (fieldsB s) (i + 1)) ++ sp).toArray := by
        rw [Nat.zero_add, show (Value.string (varB x)).cells.toList = encS (varB x) from rfl, putR_rows encS_len _ i _ sp (by rw [half_length]; omega), half_succ hx]
      rw [List.set_cons_zero, e] at hd2 ⊢
      refine ao_nil (hK4 _ _ (awp_region ?_))
      refine ao_r (rig_add rfl rfl rfl (w64 _ (by omega) (by omega))) rfl (ao_r (rig_move rfl rfl) rfl (ao_nil ?_))
      exact ⟨[(4, .slice (some ⟨g, 0, none⟩) (fieldsB s).length cap), (17, .slice (some ⟨g, 0, none⟩) (fieldsB s).length cap), (18, .int .i64 (fieldsB s).length), (19, .int .i64 (i + 1 : Nat))], _, ⟨rfl, rfl, rfl, rfl, trivial⟩, by omega, i + 1, by omega, rfl, rfl, rfl, hd2⟩
    · refine awp_exit (hK2 _ _ (awp_rs ?_))
      refine ao_r (rig_move rfl rfl) rfl (ao_r (rig_assign rfl rfl) rfl (ao_r (rig_assign rfl rfl) rfl (ao_nil ?_)))
      rw [half_all (by omega)] at hd ⊢
      refine awp_ret ⟨_, res2 Tryz.results26 rfl rfl, _, F, hd, rfl, .inr ⟨_, _, htok, rfl, ?_⟩⟩
      have hl : (fieldsB s).length = ((fieldsB s).map varB).length := by simp
      rw [hl]
      refine Own.mk_ encS_len ?_ (by simpa using hn) hcm
      simp only [List.length_append, rows_length encS_len, List.length_map] at hsp ⊢
      exact hsp
end Go.Proofs.YtmofaabndjnhjaaGreat
/- The program's side: sums, search, the test of a split. -/
set_option linter.unusedVariables false
namespace Go.Proofs.YtmofaabndjnhjaaGreat
open Go Go.Aw Go.Pl Go.RowKit
theorem ez82 : Enters Tryz.prog 82 := enters_of Tryz.func82 (by kernel_rfl) rfl
set_option maxRecDepth 100000 in
theorem Fz82 (m : Hp) (a b : Int) (ha : -9223372036854775808 ≤ a) (hb0 : 0 ≤ b) (hb : b ≤ 9223372036854775807) : RC Tryz.prog 82 #[.int .i64 a, .int .i64 b] m (.int .i64 (sumS a b)) := by
  refine rc_of_gc fun m1 hm => gc_intro (vs := [_, _]) Tryz.func82 rfl Tryz.ntmps82 (by simp) ?_
  refine awp_rs (ao_r (rig_assign rfl rfl) rfl (ao_nil ?_))
  refine awp_sk fun K1 hK1 => awp_rs ?_
  refine ao_r (rig_move rfl rfl) rfl (ao_r (rig_move rfl rfl) rfl (ao_r (rig_sub rfl rfl rfl (w64 _ (by omega) (by omega))) rfl (ao_r (rig_gtr rfl rfl rfl) rfl (ao_nil ?_))))
  refine awp_if rfl (fun h => ?_) (fun h => ?_)
  · refine awp_rs (ao_r (rig_assign rfl rfl) rfl (ao_nil ?_))
    refine awp_ret ⟨_, res1 Tryz.results82 rfl, ?_, HpLe.refl _⟩
    simp [sumS, h]
  · refine awp_skip (hK1 _ _ (awp_rs ?_))
    refine ao_r (rig_move rfl rfl) rfl (ao_r (rig_move rfl rfl) rfl (ao_r (rig_add rfl rfl rfl (w64 _ (by omega) (by omega))) rfl (ao_r (rig_assign rfl rfl) rfl (ao_nil ?_))))
    refine awp_ret ⟨_, res1 Tryz.results82 rfl, ?_, HpLe.refl _⟩
    rw [sumS, if_neg (by omega)]
theorem sumS_range {a b : Int} (ha : 0 ≤ a) (ha2 : a ≤ 9223372036854775807) (hb : 0 ≤ b) : 0 ≤ sumS a b ∧ sumS a b ≤ 9223372036854775807 := by
  unfold sumS; split <;> omega
/-- The counts of some templates, as an int can hold them. -/
def totS (n : Int) : List Tm → Int
  | [] => n
  | t :: l => totS (sumS n t.cnt) l
theorem totS_snoc (l : List Tm) (t : Tm) : ∀ n, totS n (l ++ [t]) = sumS (totS n l) t.cnt := by
  induction l with
  | nil => intro n; rfl
  | cons x l ih => intro n; exact ih _
def Cnt (t : Tm) : Prop := 0 ≤ t.cnt ∧ t.cnt ≤ 9223372036854775807
theorem totS_range : ∀ (l : List Tm) (n : Int), 0 ≤ n → n ≤ 9223372036854775807 → (∀ t ∈ l, Cnt t) → 0 ≤ totS n l ∧ totS n l ≤ 9223372036854775807
  | [], n, h0, h1, _ => ⟨h0, h1⟩
  | t :: l, n, h0, h1, h => by
    have ht := h t (List.mem_cons_self ..)
    have := sumS_range h0 h1 ht.1
    exact totS_range l _ this.1 this.2 fun x hx => h x (List.mem_cons_of_mem _ hx)
theorem ez73 : Enters Tryz.prog 73 := enters_of Tryz.func73 (by kernel_rfl) rfl
set_option maxRecDepth 100000 in
theorem Fz73 (m : Hp) (va : Value) (l : List Tm) (ha : Tms m va l) (hl : l.length ≤ 1099511627776) (hc : ∀ t ∈ l, Cnt t) : RC Tryz.prog 73 #[va] m (.int .i64 (totS 0 l)) := by
  obtain ⟨A, ca, rfl, _⟩ := RdSl.form encT_len (by decide) ha
  refine rc_of_gc fun m1 hm => gc_intro (vs := [_]) Tryz.func73 rfl Tryz.ntmps73 (by simp) ?_
  refine awp_rs (ao_r (rig_assign rfl rfl) rfl (ao_nil ?_))
  refine awp_rs (ao_r (rig_assign rfl rfl) rfl (ao_nil ?_))
  refine awp_sk fun K1 hK1 => awp_rs ?_
  refine ao_r (rig_move rfl rfl) rfl (ao_r (rig_lenSl rfl rfl Tryz.underlying23) rfl (ao_r (rig_move rfl rfl) rfl (ao_nil ?_)))
  refine awp_block ?_
  refine awp_le [(3, .int .i64 (totS 0 (l.take 0))), (6, .slice A l.length ca), (7, .int .i64 l.length), (8, .int .i64 (0 : Nat))] ⟨rfl, rfl, rfl, rfl, trivial⟩ ?_
  refine awp_loop (fun k r mm => ∃ i : Nat, i ≤ l.length ∧ k = l.length - i ∧ r = [(3, .int .i64 (totS 0 (l.take i))), (6, .slice A l.length ca), (7, .int .i64 l.length), (8, .int .i64 i)] ∧ HpLe m1 mm) _ ⟨0, by omega, rfl, rfl, HpLe.refl _⟩ ?_
  rintro k r mm ⟨i, hi, rfl, rfl, hle⟩
  refine awp_rs (ao_r (rig_lss rfl rfl rfl) rfl (ao_nil ?_))
  refine awp_sk fun K2 hK2 => ?_
  refine awp_if rfl (fun h => ?_) (fun h => ?_)
  · refine awp_skip (hK2 _ _ (awp_sk fun K3 hK3 => awp_block (awp_rs ?_)))
    obtain ⟨x, hx⟩ := get_lt (l := l) (i := i) (by omega)
    obtain ⟨b, off, cap', e, hxc⟩ := Tms.get (RdSl.le ha (hm.trans hle)) hx
    simp only [Value.slice.injEq] at e
    obtain ⟨rfl, _, rfl⟩ := e
    refine ao_r (rig_ix i rfl rfl rfl Tryz.underlying23 Tryz.sizeOf32 rfl rfl (by omega)) rfl (ao_r (rig_loadN (vs := encT x) rfl rfl Tryz.isAgg32 Tryz.sizeOf32 hxc) rfl ?_)
    refine ao_var Tryz.zeroValue32 rfl rfl (fun t h => by cases h; rfl) Tryz.sizeOf32 rfl (encT_one x) fun b5 m5 hl5 hc5 => ao_nil ?_
    obtain ⟨x0, x1, _⟩ := id hc5
    refine awp_region ?_
    have hcx := hc x (List.mem_of_getElem? hx)
    have hr := totS_range (l.take i) 0 (by omega) (by omega) fun t ht => hc t (List.mem_of_mem_take ht)
    refine ao_r (rig_move rfl rfl) rfl (ao_r (rig_fieldAddr rfl rfl Tryz.underlying32 rfl Tryz.sizeOf3 rfl) rfl (ao_r (rig_load1 rfl rfl Tryz.isAgg3 x1) rfl (ao_r (rig_call rfl rfl ez82 (Fz82 _ (totS 0 (l.take i)) x.cnt (by omega) hcx.1 hcx.2)) rfl (ao_r (rig_assign rfl rfl) rfl (ao_nil ?_)))))
    refine hK3 _ _ (awp_region ?_)
    refine ao_r (rig_add rfl rfl rfl (w64 _ (by omega) (by omega))) rfl (ao_r (rig_move rfl rfl) rfl (ao_nil ?_))
    have htk : l.take (i + 1) = l.take i ++ [x] := by
      rw [List.take_succ_eq_append_getElem (by omega), (List.getElem?_eq_some_iff.1 hx).2]
    exact ⟨[(3, .int .i64 (totS 0 (l.take (i + 1)))), (6, .slice _ l.length _), (7, .int .i64 l.length), (8, .int .i64 (i + 1 : Nat))], _, ⟨by rw [htk, totS_snoc]; rfl, rfl, rfl, rfl, trivial⟩, by omega, i + 1, by omega, rfl, rfl, hle.trans hl5⟩
  · refine awp_exit (hK1 _ _ (awp_rs (ao_r (rig_move rfl rfl) rfl (ao_r (rig_assign rfl rfl) rfl (ao_nil ?_)))))
    refine awp_ret ⟨_, res1 Tryz.results73 rfl, ?_, hle⟩
    rw [List.take_of_length_le (by omega)]
theorem ez85 : Enters Tryz.prog 85 := enters_of Tryz.func85 (by kernel_rfl) rfl
theorem Fz85 (m : Hp) (s t : ByteArray) : RC Tryz.prog 85 #[.string s, .string t] m (.int .i64 (cmpS s t)) := by
  refine rc_of_below fun sg w hsat => ?_
  rw [cmpS_cb]
  exact (Any.strings_Compare Tryz.laysSC s t w).mono fun e w' ⟨he, hw⟩ => ⟨he, hw ▸ Below.refl _ _⟩
theorem ez84 : Enters Tryz.prog 84 := enters_of Tryz.func84 (by kernel_rfl) rfl
set_option maxRecDepth 100000 in
theorem Fz84 (m : Hp) (x : Tm) (s k : ByteArray) (hx : x.Ok m) (hk : x.toks[0]? = some k) : RC Tryz.prog 84 #[x.val, .string s] m (.int .i64 (cmpS k s)) := by
  refine rc_of_gc fun m1 hm => gc_intro (vs := [_, _]) Tryz.func84 rfl Tryz.ntmps84 (by simp) ?_
  refine awp_rs ?_
  refine ao_x (ex_boxR rfl rfl) rfl fun v m2 ⟨p2, hv, hl2, hc2⟩ => ?_
  subst hv
  obtain ⟨a0, a1, _⟩ := hc2
  have hx' := hx.le (hm.trans hl2)
  have hn := hx.len
  have hlt : 0 < x.toks.length := (List.getElem?_eq_some_iff.1 hk).1
  obtain ⟨b, off, hA, hc⟩ := hx'.get hk
  refine ao_r (rig_assign rfl rfl) rfl (ao_nil ?_)
  refine awp_rs ?_
  refine ao_r (rig_fieldAddr rfl rfl Tryz.underlying32 rfl Tryz.sizeOf27 rfl) rfl (ao_r (rig_load1 rfl rfl Tryz.isAgg27 a0) rfl (ao_r (rig_ix 0 rfl rfl rfl Tryz.underlying27 Tryz.sizeOf9 hA rfl (by omega)) rfl (ao_r (rig_load1 rfl rfl Tryz.isAgg9 hc) rfl (ao_r (rig_move rfl rfl) rfl (ao_r (rig_call rfl rfl ez85 (Fz85 _ k s)) rfl (ao_r (rig_assign rfl rfl) rfl (ao_nil ?_)))))))
  exact awp_ret ⟨_, res1 Tryz.results84 rfl, rfl, hl2⟩
end Go.Proofs.YtmofaabndjnhjaaGreat
/- The program's side: binary search, the test of a split. -/
set_option linter.unusedVariables false
namespace Go.Proofs.YtmofaabndjnhjaaGreat
open Go Go.Aw Go.Pl Go.RowKit
theorem countP_cut {α : Type} (p : α → Bool) (l : List α) (i : Nat) (hi : i ≤ l.length) (h1 : ∀ q x, l[q]? = some x → q < i → p x = true) (h2 : ∀ q x, l[q]? = some x → i ≤ q → p x = false) : l.countP p = i := by
  have e1 : (l.take i).countP p = i := by
    have : (l.take i).countP p = (l.take i).length := by
      rw [List.countP_eq_length]
      intro x hx
      obtain ⟨q, hq⟩ := List.mem_iff_getElem?.1 hx
      have hlt := (List.getElem?_eq_some_iff.1 hq).1
      rw [List.length_take] at hlt
      have hq2 : q < i := by omega
      rw [List.getElem?_take_of_lt hq2] at hq
      exact h1 q x hq hq2
    rw [this]; simp [hi]
  have e2 : (l.drop i).countP p = 0 := by
    rw [List.countP_eq_zero]
    intro x hx
    obtain ⟨q, hq⟩ := List.mem_iff_getElem?.1 hx
    rw [List.getElem?_drop] at hq
    rw [h2 (i + q) x hq (by omega)]
    simp
  rw [← List.take_append_drop i l, List.countP_append, e1, e2, Nat.add_zero]
def fnd (l : List Tm) (cv : Tm → Int) (i : Nat) : Bool := match l[i]? with | some x => decide (cv x = 0) | none => false
def plc (l : List Tm) (cv : Tm → Int) : Nat := l.countP fun x => decide (cv x < 0)
theorem ez83 : Enters Tryz.prog 83 := enters_of Tryz.func83 (by kernel_rfl) rfl
set_option maxRecDepth 100000 in
theorem Fz83 (m : Hp) (va tv : Value) (g : FuncId) (l : List Tm) (cv : Tm → Int) (ha : Tms m va l) (hl : l.length ≤ 1099511627776) (eg : Enters Tryz.prog g) (hp : ∀ x ∈ l, RC Tryz.prog g #[x.val, tv] m (.int .i64 (cv x)))
    (hmono : ∀ (a b : Nat) (x y : Tm), l[a]? = some x → l[b]? = some y → a ≤ b → cv y < 0 → cv x < 0) : RC Tryz.prog 83 #[va, tv, .func (.func g) #[] #[]] m (.tuple #[.int .i64 (plc l cv), .bool (fnd l cv (plc l cv))]) := by
  obtain ⟨A, ca, rfl, _⟩ := RdSl.form encT_len (by decide) ha
  refine rc_of_gc fun m1 hm => gc_intro (vs := [_, _, _]) Tryz.func83 rfl Tryz.ntmps83 (by simp) ?_
  have ha' := RdSl.le ha hm
  have row : ∀ q x, l[q]? = some x → ∃ b off, A = some ⟨b, off, none⟩ ∧ CellsAt m1 b (off + q * 2) (encT x) := fun q x hx => by
    obtain ⟨b, off, cap', e, hxc⟩ := Tms.get ha' hx
    simp only [Value.slice.injEq] at e
    exact ⟨b, off, e.1, hxc⟩
  refine awp_rs (ao_r (rig_assign rfl rfl) rfl (ao_r (rig_assign rfl rfl) rfl (ao_nil ?_)))
  refine awp_rs (ao_r (rig_move rfl rfl) rfl (ao_r (rig_lenSl rfl rfl Tryz.underlying23) rfl (ao_r (rig_assign rfl rfl) rfl (ao_nil ?_))))
  refine awp_rs (ao_r (rig_move rfl rfl) rfl (ao_r (rig_assign rfl rfl) rfl (ao_r (rig_assign rfl rfl) rfl (ao_nil ?_))))
  refine awp_sk fun K1 hK1 => ?_
  refine awp_block ?_
  refine awp_le [(0, .slice A l.length ca), (1, tv), (2, .func (.func g) #[] #[]), (8, .int .i64 l.length), (9, .int .i64 (0 : Nat)), (10, .int .i64 l.length)] ⟨rfl, rfl, rfl, rfl, rfl, rfl, trivial⟩ ?_
  refine awp_loop (fun k r mm => ∃ i j : Nat, i ≤ j ∧ j ≤ l.length ∧ k = j - i ∧ r = [(0, .slice A l.length ca), (1, tv), (2, .func (.func g) #[] #[]), (8, .int .i64 l.length), (9, .int .i64 i), (10, .int .i64 j)] ∧ mm = m1 ∧ (∀ q x, l[q]? = some x → q < i → cv x < 0) ∧ (∀ q x, l[q]? = some x → j ≤ q → 0 ≤ cv x)) _ ⟨0, l.length, by omega, by omega, rfl, rfl, rfl, fun q x _ h => by omega, fun q x hx h => by have := (List.getElem?_eq_some_iff.1 hx).1; omega⟩ ?_
  rintro k r mm ⟨i, j, hij, hj, rfl, rfl, rfl, hlo, hhi⟩
  refine awp_sk fun K2 hK2 => awp_rs ?_
  refine ao_r (rig_move rfl rfl) rfl (ao_r (rig_move rfl rfl) rfl (ao_r (rig_lss rfl rfl rfl) rfl (ao_nil ?_)))
  refine awp_if rfl (fun h => ?_) (fun h => ?_)
  · refine awp_skip (hK2 _ _ (awp_block (awp_rs ?_)))
    have hh : (i + j) / 2 < l.length := by omega
    obtain ⟨x, hx⟩ := get_lt hh
    obtain ⟨b, off, rfl, hxc⟩ := row _ x hx
    refine ao_r (rig_move rfl rfl) rfl (ao_r (rig_move rfl rfl) rfl (ao_r (rig_add (c := ((i + j : Nat) : Int)) rfl rfl rfl (by rw [show ((i : Int) + (j : Int)) = ((i + j : Nat) : Int) by omega]; exact w64 _ (by omega) (by omega))) rfl (ao_r (rig_convInt (c := ((i + j : Nat) : Int)) rfl rfl Tryz.underlying3 Tryz.underlying79 (by rw [IntKind.wrap_u64]; omega)) rfl (ao_r (rig_shr (c := (((i + j) / 2 : Nat) : Int)) rfl rfl rfl (by decide) (by rw [Int.fdiv_eq_ediv_of_nonneg _ (by omega)]; omega)) rfl (ao_r (rig_convInt (c := (((i + j) / 2 : Nat) : Int)) rfl rfl Tryz.underlying79 Tryz.underlying3 (w64 _ (by omega) (by omega))) rfl (ao_r (rig_assign rfl rfl) rfl (ao_nil ?_)))))))
    refine awp_rs ?_
    refine ao_r (rig_move rfl rfl) rfl (ao_r (rig_move rfl rfl) rfl (ao_r (rig_move rfl rfl) rfl (ao_r (rig_ix ((i + j) / 2) rfl rfl rfl Tryz.underlying23 Tryz.sizeOf32 rfl rfl hh) rfl (ao_r (rig_loadN (vs := encT x) rfl rfl Tryz.isAgg32 Tryz.sizeOf32 hxc) rfl (ao_r (rig_move rfl rfl) rfl ?_)))))
    refine ao_r (rig_callv (vs := [x.val, tv]) rfl rfl rfl eg (by simpa using (hp x (List.mem_of_getElem? hx)).le hm)) rfl (ao_r (rig_lss rfl rfl rfl) rfl (ao_nil ?_))
    refine awp_if rfl (fun h2 => ?_) (fun h2 => ?_)
    · refine awp_region ?_
      refine ao_r (rig_move rfl rfl) rfl (ao_r (rig_add (c := (((i + j) / 2 + 1 : Nat) : Int)) rfl rfl rfl (w64 _ (by omega) (by omega))) rfl (ao_r (rig_assign rfl rfl) rfl (ao_nil ?_)))
      refine ⟨[(0, .slice _ l.length _), (1, tv), (2, .func (.func g) #[] #[]), (8, .int .i64 l.length), (9, .int .i64 ((i + j) / 2 + 1 : Nat)), (10, .int .i64 j)], _, ⟨rfl, rfl, rfl, rfl, rfl, rfl, trivial⟩, by omega, (i + j) / 2 + 1, j, by omega, hj, rfl, rfl, rfl, fun q y hy hq => ?_, hhi⟩
      exact hmono q _ y x hy hx (by omega) h2
    · refine awp_region ?_
      refine ao_r (rig_move rfl rfl) rfl (ao_r (rig_assign rfl rfl) rfl (ao_nil ?_))
      refine ⟨[(0, .slice _ l.length _), (1, tv), (2, .func (.func g) #[] #[]), (8, .int .i64 l.length), (9, .int .i64 i), (10, .int .i64 ((i + j) / 2 : Nat))], _, ⟨rfl, rfl, rfl, rfl, rfl, rfl, trivial⟩, by omega, i, (i + j) / 2, by omega, by omega, rfl, rfl, rfl, hlo, fun q y hy hq => ?_⟩
      by_cases h3 : cv y < 0
      · exact absurd (hmono _ q x y hx hy hq h3) h2
      · omega
  · obtain rfl : i = j := by omega
    have hpl : plc l cv = i := countP_cut _ l i hj (fun q x hx hq => decide_eq_true (hlo q x hx hq)) (fun q x hx hq => decide_eq_false (by have := hhi q x hx hq; omega))
    refine awp_exit (hK1 _ _ (awp_rs ?_))
    refine ao_r (rig_move rfl rfl) rfl (ao_r (rig_move rfl rfl) rfl (ao_r (rig_move rfl rfl) rfl (ao_r (rig_lss rfl rfl rfl) rfl (ao_r (rig_move rfl rfl) rfl (?_)))))
    by_cases hi : i < l.length
    · obtain ⟨x, hx⟩ := get_lt hi
      obtain ⟨b, off, rfl, hxc⟩ := row _ x hx
      rw [decide_eq_true (show (i : Int) < l.length by omega)]
      refine ao_on rfl rfl (ao_r (rig_move rfl rfl) rfl (ao_on rfl rfl (ao_r (rig_move rfl rfl) rfl (ao_on rfl rfl (ao_r (rig_move rfl rfl) rfl (ao_on rfl rfl (ao_r (rig_ix i rfl rfl rfl Tryz.underlying23 Tryz.sizeOf32 rfl rfl hi) rfl (ao_on rfl rfl (ao_r (rig_loadN (vs := encT x) rfl rfl Tryz.isAgg32 Tryz.sizeOf32 hxc) rfl (ao_on rfl rfl (ao_r (rig_move rfl rfl) rfl ?_)))))))))))
      refine ao_on rfl rfl (ao_r (rig_callv (vs := [x.val, tv]) rfl rfl rfl eg (by simpa using (hp x (List.mem_of_getElem? hx)).le hm)) rfl (ao_on rfl rfl (ao_r (rig_eql rfl rfl rfl) rfl (ao_r (rig_pickT rfl rfl rfl) rfl (ao_r (rig_assign rfl rfl) rfl (ao_r (rig_assign rfl rfl) rfl (ao_nil ?_)))))))
      refine awp_ret ⟨_, res2 Tryz.results83 rfl rfl, ?_, HpLe.refl _⟩
      rw [hpl, fnd, hx]
    · rw [decide_eq_false (show ¬ (i : Int) < l.length by omega)]
      refine ao_no rfl rfl rfl rfl (ao_no rfl rfl rfl rfl (ao_no rfl rfl rfl rfl (ao_no rfl rfl rfl rfl (ao_no rfl rfl rfl rfl (ao_no rfl rfl rfl rfl (ao_no rfl rfl rfl rfl (ao_no rfl rfl rfl rfl (ao_r (rig_pickF rfl rfl rfl) rfl (ao_r (rig_assign rfl rfl) rfl (ao_r (rig_assign rfl rfl) rfl (ao_nil ?_)))))))))))
      refine awp_ret ⟨_, res2 Tryz.results83 rfl rfl, ?_, HpLe.refl _⟩
      rw [hpl, fnd, List.getElem?_eq_none (by omega)]
end Go.Proofs.YtmofaabndjnhjaaGreat
/- The program's side: IndexFunc, ContainsFunc, the test of a split. -/
set_option linter.unusedVariables false
namespace Go.Proofs.YtmofaabndjnhjaaGreat
open Go Go.Aw Go.Pl Go.RowKit
def idxT (p : Tm → Bool) (l : List Tm) : Int := if l.any p then (l.findIdx p : Nat) else -1
theorem any_take_none {p : Tm → Bool} {l : List Tm} {i : Nat} {x : Tm} (hx : l[i]? = some x) (h : (l.take i).any p = false) : (l.take (i + 1)).any p = p x := by
  obtain ⟨h1, h2⟩ := List.getElem?_eq_some_iff.1 hx
  rw [List.take_succ_eq_append_getElem h1, h2, List.any_append, h]
  simp
theorem idxT_hit {p : Tm → Bool} {l : List Tm} {i : Nat} {x : Tm} (hx : l[i]? = some x) (h : (l.take i).any p = false) (hp : p x = true) : idxT p l = i := by
  obtain ⟨h1, h2⟩ := List.getElem?_eq_some_iff.1 hx
  have ha : l.any p = true := List.any_eq_true.2 ⟨x, List.mem_of_getElem? hx, hp⟩
  rw [idxT, if_pos ha]
  congr 1
  rw [List.findIdx_eq h1]
  refine ⟨by rw [h2]; exact hp, fun j hj => ?_⟩
  rw [Bool.eq_false_iff]
  intro hpj
  rw [Bool.eq_false_iff] at h
  refine h (List.any_eq_true.2 ⟨l[j], ?_, hpj⟩)
  exact List.mem_of_getElem? (i := j) (by rw [List.getElem?_take_of_lt hj, List.getElem?_eq_getElem (by omega)])
theorem ez101 : Enters Tryz.prog 101 := enters_of Tryz.func101 (by kernel_rfl) rfl
set_option maxRecDepth 100000 in
theorem Fz101 (m : Hp) (va : Value) (g : FuncId) (cb : Array Value) (l : List Tm) (p : Tm → Bool) (ha : Tms m va l) (hl : l.length ≤ 1099511627776) (eg : Enters Tryz.prog g) (hp : ∀ x ∈ l, RC Tryz.prog g (#[x.val] ++ cb) m (.bool (p x))) : RC Tryz.prog 101 #[va, .func (.func g) #[] cb] m (.int .i64 (idxT p l)) := by
  obtain ⟨A, ca, rfl, _⟩ := RdSl.form encT_len (by decide) ha
  refine rc_of_gc fun m1 hm => gc_intro (vs := [_, _]) Tryz.func101 rfl Tryz.ntmps101 (by simp) ?_
  have ha' := RdSl.le ha hm
  refine awp_rs (ao_r (rig_assign rfl rfl) rfl (ao_nil ?_))
  refine awp_sk fun K1 hK1 => awp_rs ?_
  refine ao_r (rig_move rfl rfl) rfl (ao_r (rig_lenSl rfl rfl Tryz.underlying23) rfl (ao_r (rig_move rfl rfl) rfl (ao_nil ?_)))
  refine awp_block ?_
  refine awp_le [(0, .slice A l.length ca), (1, .func (.func g) #[] cb), (7, .int .i64 l.length), (8, .int .i64 (0 : Nat))] ⟨rfl, rfl, rfl, rfl, trivial⟩ ?_
  refine awp_loop (fun k r mm => ∃ i : Nat, i ≤ l.length ∧ k = l.length - i ∧ r = [(0, .slice A l.length ca), (1, .func (.func g) #[] cb), (7, .int .i64 l.length), (8, .int .i64 i)] ∧ mm = m1 ∧ (l.take i).any p = false) _ ⟨0, by omega, rfl, rfl, rfl, rfl⟩ ?_
  rintro k r mm ⟨i, hi, rfl, rfl, rfl, hj⟩
  refine awp_rs (ao_r (rig_lss rfl rfl rfl) rfl (ao_nil ?_))
  refine awp_sk fun K2 hK2 => ?_
  refine awp_if rfl (fun h => ?_) (fun h => ?_)
  · refine awp_skip (hK2 _ _ (awp_sk fun K3 hK3 => awp_block (awp_rs ?_)))
    obtain ⟨x, hx⟩ := get_lt (l := l) (i := i) (by omega)
    obtain ⟨b, off, cap', e, hxc⟩ := Tms.get ha' hx
    simp only [Value.slice.injEq] at e
    obtain ⟨rfl, _, rfl⟩ := e
    refine ao_r (rig_move rfl rfl) rfl (ao_r (rig_assign rfl rfl) rfl (ao_nil ?_))
    refine awp_rs ?_
    refine ao_r (rig_move rfl rfl) rfl (ao_r (rig_move rfl rfl) rfl (ao_r (rig_move rfl rfl) rfl (ao_r (rig_ix i rfl rfl rfl Tryz.underlying23 Tryz.sizeOf32 rfl rfl (by omega)) rfl (ao_r (rig_loadN (vs := encT x) rfl rfl Tryz.isAgg32 Tryz.sizeOf32 hxc) rfl ?_))))
    refine ao_r (rig_callv (vs := [x.val]) rfl rfl rfl eg (by simpa using (hp x (List.mem_of_getElem? hx)).le hm)) rfl (ao_nil ?_)
    refine awp_cond rfl (fun h2 => ?_) (fun h2 => ?_)
    · refine awp_rs (ao_r (rig_move rfl rfl) rfl (ao_r (rig_assign rfl rfl) rfl (ao_nil ?_)))
      refine awp_ret ⟨_, res1 Tryz.results101 rfl, ?_, HpLe.refl _⟩
      rw [idxT_hit hx hj h2]
    · refine awp_skip (hK3 _ _ (awp_region ?_))
      refine ao_r (rig_add rfl rfl rfl (w64 _ (by omega) (by omega))) rfl (ao_r (rig_move rfl rfl) rfl (ao_nil ?_))
      exact ⟨[(0, .slice _ l.length _), (1, .func (.func g) #[] cb), (7, .int .i64 l.length), (8, .int .i64 (i + 1 : Nat))], _, ⟨rfl, rfl, rfl, rfl, trivial⟩, by omega, i + 1, by omega, rfl, rfl, rfl, by rw [any_take_none hx hj, h2]⟩
  · refine awp_exit (hK1 _ _ (awp_rs (ao_r (rig_assign rfl rfl) rfl (ao_nil ?_))))
    refine awp_ret ⟨_, res1 Tryz.results101 rfl, ?_, HpLe.refl _⟩
    rw [List.take_of_length_le (by omega)] at hj
    rw [idxT, if_neg (by simp [hj])]
theorem ez86 : Enters Tryz.prog 86 := enters_of Tryz.func86 (by kernel_rfl) rfl
set_option maxRecDepth 100000 in
theorem Fz86 (m : Hp) (va : Value) (g : FuncId) (cb : Array Value) (l : List Tm) (p : Tm → Bool) (ha : Tms m va l) (hl : l.length ≤ 1099511627776) (eg : Enters Tryz.prog g) (hp : ∀ x ∈ l, RC Tryz.prog g (#[x.val] ++ cb) m (.bool (p x))) : RC Tryz.prog 86 #[va, .func (.func g) #[] cb] m (.bool (l.any p)) := by
  refine rc_of_gc fun m1 hm => gc_intro (vs := [_, _]) Tryz.func86 rfl Tryz.ntmps86 (by simp) ?_
  refine awp_rs (ao_r (rig_assign rfl rfl) rfl (ao_nil ?_))
  refine awp_rs ?_
  refine ao_r (rig_move rfl rfl) rfl (ao_r (rig_move rfl rfl) rfl (ao_r (rig_call rfl rfl ez101 (Fz101 _ _ g cb l p (RdSl.le ha hm) hl eg fun x hx => (hp x hx).le hm)) rfl (ao_r (rig_geq rfl rfl rfl) rfl (ao_r (rig_assign rfl rfl) rfl (ao_nil ?_)))))
  refine awp_ret ⟨_, res1 Tryz.results86 rfl, ?_, HpLe.refl _⟩
  congr 1
  unfold idxT
  split
  · rename_i h; rw [h]; exact decide_eq_true (by omega)
  · rename_i h; rw [Bool.eq_false_iff.2 h]; rfl
def p99 (t : Tm) : Bool := decide (t.toks.headD (B []) = B []) || decide (t.cnt < 2)
theorem ez87 : Enters Tryz.prog 87 := enters_of Tryz.func87 (by kernel_rfl) rfl
set_option maxRecDepth 100000 in
theorem Fz87 (m : Hp) (x : Tm) (hx : x.Ok m) (hlt : 0 < x.toks.length) : RC Tryz.prog 87 #[x.val] m (.bool (p99 x)) := by
  refine rc_of_gc fun m1 hm => gc_intro (vs := [_]) Tryz.func87 rfl Tryz.ntmps87 (by simp) ?_
  obtain ⟨k, hk⟩ := get_lt hlt
  refine awp_rs ?_
  refine ao_x (ex_boxR rfl rfl) rfl fun v m2 ⟨p2, hv, hl2, hc2⟩ => ?_
  subst hv
  obtain ⟨a0, a1, _⟩ := hc2
  have hx' := hx.le (hm.trans hl2)
  have hn := hx.len
  obtain ⟨b, off, hA, hc⟩ := hx'.get hk
  have hhd : x.toks.headD (B []) = k := by
    cases hq : x.toks with
    | nil => simp [hq] at hlt
    | cons y l => rw [hq] at hk; simpa using hk
  refine ao_r (rig_assign rfl rfl) rfl (ao_nil ?_)
  refine awp_rs ?_
  refine ao_r (rig_fieldAddr rfl rfl Tryz.underlying32 rfl Tryz.sizeOf27 rfl) rfl (ao_r (rig_load1 rfl rfl Tryz.isAgg27 a0) rfl (ao_r (rig_ix 0 rfl rfl rfl Tryz.underlying27 Tryz.sizeOf9 hA rfl (by omega)) rfl (ao_r (rig_load1 rfl rfl Tryz.isAgg9 hc) rfl (ao_r (rig_seql rfl rfl rfl) rfl (ao_r (rig_move rfl rfl) rfl ?_)))))
  by_cases h : k = ⟨#[]⟩
  · rw [decide_eq_true h]
    refine ao_no rfl rfl rfl rfl (ao_no rfl rfl rfl rfl (ao_no rfl rfl rfl rfl (ao_r (rig_pickT rfl rfl rfl) rfl (ao_r (rig_assign rfl rfl) rfl (ao_nil ?_)))))
    refine awp_ret ⟨_, res1 Tryz.results87 rfl, ?_, hl2⟩
    rw [p99, hhd, h, decide_eq_true (show (⟨#[]⟩ : ByteArray) = B [] from rfl)]; rfl
  · rw [decide_eq_false h]
    refine ao_on rfl rfl (ao_r (rig_fieldAddr rfl rfl Tryz.underlying32 rfl Tryz.sizeOf3 rfl) rfl (ao_on rfl rfl (ao_r (rig_load1 rfl rfl Tryz.isAgg3 a1) rfl (ao_on rfl rfl (ao_r (rig_lss rfl rfl rfl) rfl (ao_r (rig_pickF rfl rfl rfl) rfl (ao_r (rig_assign rfl rfl) rfl (ao_nil ?_))))))))
    refine awp_ret ⟨_, res1 Tryz.results87 rfl, ?_, hl2⟩
    rw [p99, hhd, decide_eq_false (show ¬ k = B [] from h)]; rfl
def splitsB (l : List Tm) : Bool := decide (2 ≤ l.length) && decide (l.length ≤ 4) && !l.any p99
theorem ez75 : Enters Tryz.prog 75 := enters_of Tryz.func75 (by kernel_rfl) rfl
set_option maxRecDepth 100000 in
theorem Fz75 (m : Hp) (va : Value) (l : List Tm) (ha : Tms m va l) (hok : ∀ t ∈ l, t.Ok m) (hl : l.length ≤ 1099511627776) (h1 : ∀ t ∈ l, 0 < t.toks.length) : RC Tryz.prog 75 #[va] m (.bool (splitsB l)) := by
  obtain ⟨A, ca, rfl, _⟩ := RdSl.form encT_len (by decide) ha
  refine rc_of_gc fun m1 hm => gc_intro (vs := [_]) Tryz.func75 rfl Tryz.ntmps75 (by simp) ?_
  refine awp_rs (ao_r (rig_assign rfl rfl) rfl (ao_nil ?_))
  refine awp_sk fun K1 hK1 => ?_
  refine awp_mid (fun r mm => r = [(0, .slice A l.length ca), (10, .bool (decide (l.length < 2 ∨ 4 < l.length)))] ∧ mm = m1) (awp_region ?_) ?_
  · refine ao_r (rig_move rfl rfl) rfl (ao_r (rig_lenSl rfl rfl Tryz.underlying23) rfl (ao_r (rig_lss rfl rfl rfl) rfl (ao_r (rig_move rfl rfl) rfl ?_)))
    by_cases h : l.length < 2
    · rw [decide_eq_true (show (l.length : Int) < 2 by omega)]
      refine ao_no rfl rfl rfl rfl (ao_no rfl rfl rfl rfl (ao_no rfl rfl rfl rfl (ao_r (rig_pickT rfl rfl rfl) rfl (ao_nil ?_))))
      exact ⟨[(0, .slice A l.length ca), (10, .bool _)], ⟨rfl, rfl, trivial⟩, by rw [decide_eq_true (.inl h)], rfl⟩
    · rw [decide_eq_false (show ¬ (l.length : Int) < 2 by omega)]
      refine ao_on rfl rfl (ao_r (rig_move rfl rfl) rfl (ao_on rfl rfl (ao_r (rig_lenSl rfl rfl Tryz.underlying23) rfl (ao_on rfl rfl (ao_r (rig_gtr rfl rfl rfl) rfl (ao_r (rig_pickF rfl rfl rfl) rfl (ao_nil ?_)))))))
      exact ⟨[(0, .slice A l.length ca), (10, .bool _)], ⟨rfl, rfl, trivial⟩, by rw [show decide (l.length < 2 ∨ 4 < l.length) = decide ((4 : Int) < l.length) by rw [decide_eq_decide]; omega], rfl⟩
  rintro r mm ⟨rfl, rfl⟩
  refine awp_if rfl (fun h => ?_) (fun h => ?_)
  · refine awp_rs (ao_r (rig_assign rfl rfl) rfl (ao_nil ?_))
    refine awp_ret ⟨_, res1 Tryz.results75 rfl, ?_, HpLe.refl _⟩
    congr 1
    rw [eq_comm, Bool.eq_false_iff]
    intro hs
    simp only [splitsB, Bool.and_eq_true, decide_eq_true_eq] at hs
    omega
  · refine awp_skip (hK1 _ _ (awp_rs ?_))
    refine ao_r (rig_move rfl rfl) rfl (ao_r (rig_call rfl rfl ez86 (Fz86 _ _ 87 #[] l p99 (RdSl.le ha hm) hl ez87 fun x hx => by simpa using Fz87 _ x ((hok x hx).le hm) (h1 x hx))) rfl (ao_r (rig_not rfl rfl) rfl (ao_r (rig_assign rfl rfl) rfl (ao_nil ?_))))
    refine awp_ret ⟨_, res1 Tryz.results75 rfl, ?_, HpLe.refl _⟩
    rw [splitsB, decide_eq_true (show 2 ≤ l.length by omega), decide_eq_true (show l.length ≤ 4 by omega)]; rfl
end Go.Proofs.YtmofaabndjnhjaaGreat
/- The program's side: slices.Insert of templates. -/
set_option linter.unusedVariables false
namespace Go.Proofs.YtmofaabndjnhjaaGreat
open Go Go.Aw Go.Pl Go.RowKit
theorem rows_ins (l : List Tm) (t : Tm) (i : Nat) : rows encT (l.take i ++ t :: l.drop i) = rows encT (l.take i) ++ encT t ++ rows encT (l.drop i) := by
  rw [rows_append, rows_cons, List.append_assoc]
theorem rows_cut (l : List Tm) (i : Nat) : rows encT l = rows encT (l.take i) ++ rows encT (l.drop i) := by
  rw [← rows_append, List.take_append_drop]
theorem x111a : (Tryz.f70.name == "runtime.NumGoroutine") = false := by kernel_rfl
theorem x111b : Tryz.f70.body.isNone = true := by kernel_rfl
theorem x111c : Extern.findNext Tryz.f70 = none := by kernel_rfl
theorem x111d : Extern.find Tryz.f70 = some (Extern.SlicesOverlaps.overlaps #[23, 23] #[4]) := by kernel_rfl
theorem ez53 : Enters Tryz.prog 53 := enters_of Tryz.func53 (by kernel_rfl) rfl
set_option maxHeartbeats 4000000 in
set_option maxRecDepth 100000 in
theorem Fz53 (c F : Hp) (v : Value) (l : List Tm) (t : Tm) (i b2 : Nat) (hO : Own 32 2 c v (rows encT l)) (hD : Dj [c, F]) (hi : i ≤ l.length) (hl : l.length ≤ 16777216) (hb2 : F b2 = some (.cells (encT t).toArray 32 (0, 0))) :
    GC Tryz.prog 53 #[v, .int .i64 i, .slice (some ⟨b2, 0, none⟩) 1 1] (U [c, F]) (fun u m' => ∃ c' F', Own 32 2 c' u (rows encT (l.take i ++ t :: l.drop i)) ∧ m' = U [c', F'] ∧ Dj [c', F'] ∧ HpLe F F') := by
  obtain ⟨A, cap, rfl⟩ := hO.len encT_len (by decide)
  refine gc_intro (vs := [_, _, _]) Tryz.func53 rfl Tryz.ntmps53 (by simp) ?_
  have hct : ∀ m, HpLe F m → CellsAt m b2 0 (encT t) := fun m hm => (CellsAt_row F b2 (encT t).toArray 32 (0, 0) hb2).le hm
  refine awp_rs (ao_r (rig_assign rfl rfl) rfl (ao_nil ?_))
  refine awp_rs (ao_r (rig_move rfl rfl) rfl (ao_r (rig_move rfl rfl) rfl (ao_r (rig_slL i rfl rfl rfl Tryz.underlying23 Tryz.sizeOf32 rfl hi) rfl (ao_nil ?_))))
  refine awp_rs (ao_r (rig_move rfl rfl) rfl (ao_r (rig_lenSl rfl rfl Tryz.underlying23) rfl (ao_r (rig_assign rfl rfl) rfl (ao_nil ?_))))
  refine awp_sk fun K1 hK1 => awp_rs (ao_r (rig_move rfl rfl) rfl (ao_r (rig_eql rfl rfl rfl) rfl (ao_nil ?_)))
  refine awp_if rfl (fun h => absurd h (by omega)) (fun _ => ?_)
  refine awp_skip (hK1 _ _ (awp_rs ?_))
  refine ao_r (rig_move rfl rfl) rfl (ao_r (rig_lenSl rfl rfl Tryz.underlying23) rfl (ao_r (rig_assign rfl rfl) rfl (ao_nil ?_)))
  refine awp_sk fun K2 hK2 => awp_rs (ao_r (rig_move rfl rfl) rfl (ao_r (rig_move rfl rfl) rfl (ao_r (rig_eql rfl rfl rfl) rfl (ao_nil ?_))))
  refine awp_if rfl (fun h => ?_) (fun h => ?_)
  · refine awp_rs ?_
    refine ao_r (rig_move rfl rfl) rfl (ao_r (rig_move rfl rfl) rfl ?_)
    have hsrc : Go.Aw.Src (U [c, F]) 2 (.slice (some ⟨b2, 0, none⟩) 1 1) (encT t) := ⟨_, 1, 1, rfl, rfl, .inr ⟨b2, 0, rfl, hct _ (le_at 1 hD rfl)⟩⟩
    refine ao_x (ex_append 0 (by_ := 32) rfl hD rfl rfl Tryz.underlying23 inf32 rfl (by decide) (by decide) hO rfl hsrc (encT_one t) (by rw [rows_length encT_len]; simp [encT]; omega)) rfl fun u m1 ⟨c', hO', hm, hD'⟩ => ?_
    subst hm
    refine ao_r (rig_assign rfl rfl) rfl (ao_nil ?_)
    refine awp_ret ⟨_, res1 Tryz.results53 rfl, c', F, ?_, rfl, hD', HpLe.refl _⟩
    have hil : i = l.length := by omega
    rw [rows_ins, List.take_of_length_le (by omega), List.drop_of_length_le (by omega), rows_nil, List.append_nil]
    exact hO'
  · obtain ⟨g, cap', sp, hv, rfl, hsp, hn, hcm⟩ := hO.some_ encT_len (by decide) (by omega)
    simp only [Value.slice.injEq] at hv
    obtain ⟨rfl, _, rfl⟩ := hv
    have hilt : i < l.length := by omega
    have hlt : (l.take i).length = i := by simp; omega
    have hld : (l.drop i).length = l.length - i := by simp
    have hone : ∀ (l : List Tm), ∀ q ∈ rows encT l, q.oneCell' = true := fun l => one_rows encT_one l
    refine awp_skip (hK2 _ _ (awp_sk fun K3 hK3 => awp_rs ?_))
    refine ao_r (rig_move rfl rfl) rfl (ao_r (rig_move rfl rfl) rfl (ao_r (rig_add rfl rfl rfl (w64 _ (by omega) (by omega))) rfl (ao_r (rig_move rfl rfl) rfl (ao_r (rig_capSl rfl rfl Tryz.underlying23) rfl (ao_r (rig_gtr rfl rfl rfl) rfl (ao_nil ?_))))))
    refine awp_if rfl (fun h2 => ?_) (fun h2 => ?_)
    · -- no room
      obtain rfl : cap = l.length := by omega
      refine awp_rs ?_
      refine ao_r (rig_move rfl rfl) rfl (ao_r (rig_move rfl rfl) rfl (ao_r (rig_slH i rfl rfl rfl Tryz.underlying23 Tryz.sizeOf32 rfl (by omega)) rfl (ao_r (rig_move rfl rfl) rfl (ao_r (rig_move rfl rfl) rfl (ao_r (rig_add (c := ((l.length + 1 : Nat) : Int)) rfl rfl rfl (w64 _ (by omega) (by omega))) rfl (ao_r (rig_move rfl rfl) rfl (ao_r (rig_sub (c := ((l.length + 1 - i : Nat) : Int)) rfl rfl rfl (by rw [show ((l.length + 1 : Nat) : Int) - (i : Int) = ((l.length + 1 - i : Nat) : Int) by omega]; exact w64 _ (by omega) (by omega))) rfl ?_)))))))
      have hc0 : CellsAt (U [Go.Aw.one g (.cells (rows encT l ++ sp).toArray 32 (0, 0)), F]) g 0 (rows encT l ++ sp) := (cellsAt_one g (rows encT l ++ sp).toArray 32).le U_le_head
      have hpre : CellsAt (U [Go.Aw.one g (.cells (rows encT l ++ sp).toArray 32 (0, 0)), F]) g 0 (rows encT (l.take i)) := CellsAt.of_get fun j q hj => hc0.get j q (by
        rw [rows_cut l i, List.append_assoc, List.getElem?_append_left (List.getElem?_eq_some_iff.1 hj).1]; exact hj)
      have hsuf : CellsAt (U [Go.Aw.one g (.cells (rows encT l ++ sp).toArray 32 (0, 0)), F]) g (0 + i * 2) (rows encT (l.drop i)) := CellsAt.of_get fun j q hj => by
        have := hc0.get (i * 2 + j) q (by
          rw [rows_cut l i, List.append_assoc, List.getElem?_append_right (by rw [rows_length encT_len, hlt]; omega), rows_length encT_len, hlt, show i * 2 + j - i * 2 = j by omega, List.getElem?_append_left (List.getElem?_eq_some_iff.1 hj).1]; exact hj)
        rwa [← Nat.add_assoc] at this
      refine ao_x (ex_appendZeros rfl hD rfl rfl Tryz.underlying23 Tryz.underlying3 inf32 rfl (by decide) (by decide) (by rw [rows_length encT_len, hlt]) (.inr ⟨g, 0, rfl, hpre⟩) (by omega) (by omega) (by omega)) rfl fun u m1 ⟨g2, cap2, sp2, hu, hm, hD2, hs2, hcc, hcm2⟩ => ?_
      subst hu hm
      rw [show i + (l.length + 1 - i) = l.length + 1 by omega] at hcc ⊢
      refine ao_r (rig_assign rfl rfl) rfl (ao_nil ?_)
      have hs2l : sp2.length = cap2 * 2 - i * 2 := by rw [List.length_append, rows_length encT_len, hlt] at hs2; omega
      obtain ⟨Y, Z, hYZ, hY⟩ : ∃ Y Z, sp2 = Y ++ Z ∧ Y.length = 2 := ⟨sp2.take 2, sp2.drop 2, by rw [List.take_append_drop], by rw [List.length_take]; omega⟩
      subst hYZ
      obtain ⟨Y2, Z2, hYZ, hY2⟩ : ∃ Y2 Z2, Z = Y2 ++ Z2 ∧ Y2.length = (l.length - i) * 2 := ⟨Z.take ((l.length - i) * 2), Z.drop ((l.length - i) * 2), by rw [List.take_append_drop], by rw [List.length_append] at hs2l; rw [List.length_take]; omega⟩
      subst hYZ
      refine awp_rs ?_
      refine ao_r (rig_move rfl rfl) rfl (ao_r (rig_move rfl rfl) rfl (ao_r (rig_slLs i rfl rfl rfl Tryz.underlying23 Tryz.sizeOf32 rfl (by omega) (by omega)) rfl (ao_r (rig_move rfl rfl) rfl ?_)))
      refine ao_x (ex_copy (cs := encT t) 0 rfl hD2 rfl rfl Tryz.underlying23 Tryz.sizeOf32 (by rw [show Nat.min 1 (l.length + 1 - i) = 1 from Nat.min_eq_left (by omega)]; rfl) (.inr ⟨b2, 0, rfl, hct _ (le_at 2 hD2 rfl)⟩) rfl (by simp [encT, rows_length encT_len, hlt]; omega) (encT_one t)) rfl fun u m1 ⟨hu, hm, hD3⟩ => ?_
      subst hu hm
      have e1 : putR (rows encT (l.take i) ++ (Y ++ (Y2 ++ Z2))).toArray (0 + i * 2) (encT t) = (rows encT (l.take i) ++ encT t ++ (Y2 ++ Z2)).toArray := by
        have := putR_app (rows encT (l.take i)) Y (Y2 ++ Z2) (encT t) (by rw [hY]; rfl)
        rw [rows_length encT_len, hlt] at this
        rw [Nat.zero_add, ← List.append_assoc]; exact this
      rw [List.set_cons_zero, e1] at hD3 ⊢
      refine ao_nil ?_
      refine awp_ds (.q 0 (.q 1 (.q 2 (.q 3 (.q 4 (.q 5 (.q 6 (.q 7 (.s 8 .fin))))))))) [8] (by kernel_rfl) (by kernel_rfl) ?_
      refine oq rfl (rig_move rfl rfl) rfl (oq rfl (rig_move rfl rfl) rfl (oq rfl (rig_move rfl rfl) rfl (oq rfl (rig_add (c := ((i + 1 : Nat) : Int)) rfl rfl rfl (w64 _ (by omega) (by omega))) rfl (oq rfl (rig_slLs (i + 1) rfl rfl rfl Tryz.underlying23 Tryz.sizeOf32 rfl (by omega) (by omega)) rfl (oq rfl (rig_move rfl rfl) rfl (oq rfl (rig_move rfl rfl) rfl (oq rfl (rig_slLs i rfl rfl rfl Tryz.underlying23 Tryz.sizeOf32 rfl (by omega) (by omega)) rfl ?_)))))))
      refine os rfl (ex_copy (cs := rows encT (l.drop i)) 0 rfl hD3 rfl rfl Tryz.underlying23 Tryz.sizeOf32 (by rw [rows_length encT_len, hld, show Nat.min (l.length - i) (l.length + 1 - (i + 1)) = l.length - i from Nat.min_eq_left (by omega)]) (.inr ⟨g, 0 + i * 2, rfl, ?_⟩) rfl ?_ (hone _)) rfl fun u m1 ⟨hu, hm, hD4⟩ => ⟨fun h => by simp at h, ?_⟩
      · refine CellsAt.of_get fun j q hj => ?_
        have hg : CellsAt (Go.Aw.one g (.cells (rows encT l ++ sp).toArray 32 (0, 0))) g 0 (rows encT l ++ sp) := cellsAt_one g (rows encT l ++ sp).toArray 32
        have := (hg.le (le_at 1 hD3 rfl)).get (i * 2 + j) q (by
          rw [rows_cut l i, List.append_assoc, List.getElem?_append_right (by rw [rows_length encT_len, hlt]; omega), rows_length encT_len, hlt, show i * 2 + j - i * 2 = j by omega, List.getElem?_append_left (List.getElem?_eq_some_iff.1 hj).1]; exact hj)
        rwa [← Nat.add_assoc] at this
      · rw [rows_length encT_len, hld, List.size_toArray, List.length_append, List.length_append, rows_length encT_len, hlt, List.length_append, hY2]
        simp only [encT, List.length_cons, List.length_nil]
        omega
      subst hu hm
      have e2 : putR (rows encT (l.take i) ++ encT t ++ (Y2 ++ Z2)).toArray (0 + (i + 1) * 2) (rows encT (l.drop i)) = (rows encT (l.take i) ++ encT t ++ rows encT (l.drop i) ++ Z2).toArray := by
        have := putR_app (rows encT (l.take i) ++ encT t) Y2 Z2 (rows encT (l.drop i)) (by rw [hY2, rows_length encT_len, hld])
        rw [show (rows encT (l.take i) ++ encT t).length = 0 + (i + 1) * 2 by rw [List.length_append, rows_length encT_len, hlt]; simp [encT]; omega] at this
        rw [← List.append_assoc]; exact this
      rw [List.set_cons_zero, e2] at hD4 ⊢
      refine od_fin ?_
      refine awp_rs (ao_r (rig_move rfl rfl) rfl (ao_r (rig_assign rfl rfl) rfl (ao_nil ?_)))
      obtain ⟨e3, hD5⟩ := U_merge 1 hD4
      refine awp_ret ⟨_, res1 Tryz.results53 rfl, _, _, ?_, e3, hD5, le_at 1 (Dj_tail (A := [Go.Aw.one g2 _]) hD4) rfl⟩
      have hln : (l.take i ++ t :: l.drop i).length = l.length + 1 := by simp; omega
      rw [← rows_ins, ← hln]
      refine Own.mk_ encT_len ?_ (by rw [hln]; exact hcc) hcm2
      rw [List.length_append, rows_length encT_len, hln]
      rw [List.length_append, rows_length encT_len, hlt, List.length_append, List.length_append, hY, hY2] at hs2
      omega
    · -- room
      have hspl : sp.length = cap * 2 - l.length * 2 := by rw [List.length_append, rows_length encT_len] at hsp; omega
      refine awp_skip (hK3 _ _ (awp_rs ?_))
      refine ao_r (rig_move rfl rfl) rfl (ao_r (rig_move rfl rfl) rfl (ao_r (rig_move rfl rfl) rfl (ao_r (rig_add (c := ((l.length + 1 : Nat) : Int)) rfl rfl rfl (w64 _ (by omega) (by omega))) rfl (ao_r (rig_slH (l.length + 1) rfl rfl rfl Tryz.underlying23 Tryz.sizeOf32 rfl (by omega)) rfl (ao_r (rig_assign rfl rfl) rfl (ao_nil ?_))))))
      have hgb : U [Go.Aw.one g (.cells (rows encT l ++ sp).toArray 32 (0, 0)), F] g = some (.cells (rows encT l ++ sp).toArray 32 (0, 0)) := U_le_head _ _ (Go.Aw.one_self g _)
      have hbb : U [Go.Aw.one g (.cells (rows encT l ++ sp).toArray 32 (0, 0)), F] b2 = some (.cells (encT t).toArray 32 (0, 0)) := le_at 1 hD rfl _ _ hb2
      have hne : b2 ≠ g := fun e => by
        subst e
        have := hD.1 b2 (by rw [Go.Aw.one_self]; simp)
        rw [U_single, hb2] at this
        cases this
      refine awp_sk fun K4 hK4 => awp_rs ?_
      refine ao_r (rig_move rfl rfl) rfl (ao_r (rig_move rfl rfl) rfl (ao_r (rig_move rfl rfl) rfl (ao_r (rig_move rfl rfl) rfl (ao_r (rig_add (c := ((i + 1 : Nat) : Int)) rfl rfl rfl (w64 _ (by omega) (by omega))) rfl ?_))))
      refine ao_r (rig_slLs (i + 1) rfl rfl rfl Tryz.underlying23 Tryz.sizeOf32 rfl (by omega) (by omega)) rfl ?_
      have hsz : (rows encT l ++ sp).toArray.size ≠ 0 := by rw [List.size_toArray, List.length_append, rows_length encT_len]; omega
      refine ao_r (rig_overlaps (f := 70) (fn := Tryz.f70) (T := 23) (R := 4) (E := 32) (k := 2) (a := b2) (b := g) (E1 := 32) (E2 := 32) (c1 := (encT t).toArray) (c2 := (rows encT l ++ sp).toArray) rfl rfl rfl Tryz.underlying23 Tryz.sizeOf32 Tryz.func70 x111a x111b x111c x111d hne hbb hgb hsz) rfl ?_
      refine ao_r (rig_not rfl rfl) rfl (ao_nil ?_)
      refine awp_cond rfl (fun _ => ?_) (fun h => by cases h)
      obtain ⟨S2, Z, hYZ, hS2⟩ : ∃ S2 Z, sp = S2 ++ Z ∧ S2.length = 2 := ⟨sp.take 2, sp.drop 2, by rw [List.take_append_drop], by rw [List.length_take]; omega⟩
      subst hYZ
      obtain ⟨H, T, hHT, hH⟩ : ∃ H T, rows encT (l.drop i) ++ S2 = H ++ T ∧ H.length = 2 := ⟨(rows encT (l.drop i) ++ S2).take 2, (rows encT (l.drop i) ++ S2).drop 2, by rw [List.take_append_drop], by rw [List.length_take, List.length_append, hS2]; omega⟩
      have hT : T.length = (l.length - i) * 2 := by
        have := congrArg List.length hHT
        rw [List.length_append, List.length_append, rows_length encT_len, hld, hS2, hH] at this
        omega
      have hrow : rows encT l ++ (S2 ++ Z) = rows encT (l.take i) ++ H ++ T ++ Z := by
        rw [rows_cut l i, List.append_assoc, ← List.append_assoc (rows encT (l.drop i)), hHT]; simp
      have hc0 : CellsAt (U [Go.Aw.one g (.cells (rows encT l ++ (S2 ++ Z)).toArray 32 (0, 0)), F]) g 0 (rows encT l ++ (S2 ++ Z)) := (cellsAt_one g (rows encT l ++ (S2 ++ Z)).toArray 32).le U_le_head
      refine awp_ds (.q 0 (.q 1 (.q 2 (.q 3 (.q 4 (.q 5 (.q 6 (.q 7 (.s 8 .fin))))))))) [8] (by kernel_rfl) (by kernel_rfl) ?_
      refine oq rfl (rig_move rfl rfl) rfl (oq rfl (rig_move rfl rfl) rfl (oq rfl (rig_move rfl rfl) rfl (oq rfl (rig_add (c := ((i + 1 : Nat) : Int)) rfl rfl rfl (w64 _ (by omega) (by omega))) rfl (oq rfl (rig_slLs (i + 1) rfl rfl rfl Tryz.underlying23 Tryz.sizeOf32 rfl (by omega) (by omega)) rfl (oq rfl (rig_move rfl rfl) rfl (oq rfl (rig_move rfl rfl) rfl (oq rfl (rig_slLs i rfl rfl rfl Tryz.underlying23 Tryz.sizeOf32 rfl (by omega) (by omega)) rfl ?_)))))))
      refine os rfl (ex_copy (cs := rows encT (l.drop i)) 0 rfl hD rfl rfl Tryz.underlying23 Tryz.sizeOf32 (by rw [rows_length encT_len, hld, show Nat.min (l.length + 1 - i) (l.length + 1 - (i + 1)) = l.length - i from (Nat.min_eq_right (by omega)).trans (by omega)]) (.inr ⟨g, 0 + i * 2, rfl, ?_⟩) rfl ?_ (hone _)) rfl fun u m1 ⟨hu, hm, hD4⟩ => ⟨fun h => by simp at h, ?_⟩
      · refine CellsAt.of_get fun j q hj => ?_
        have := hc0.get (i * 2 + j) q (by
          rw [rows_cut l i, List.append_assoc, List.getElem?_append_right (by rw [rows_length encT_len, hlt]; omega), rows_length encT_len, hlt, show i * 2 + j - i * 2 = j by omega, List.getElem?_append_left (List.getElem?_eq_some_iff.1 hj).1]; exact hj)
        rwa [← Nat.add_assoc] at this
      · rw [rows_length encT_len, hld, List.size_toArray, List.length_append, rows_length encT_len, List.length_append, hS2]
        omega
      subst hu hm
      have e2 : putR (rows encT l ++ (S2 ++ Z)).toArray (0 + (i + 1) * 2) (rows encT (l.drop i)) = (rows encT (l.take i) ++ H ++ rows encT (l.drop i) ++ Z).toArray := by
        have := putR_app (rows encT (l.take i) ++ H) T Z (rows encT (l.drop i)) (by rw [hT, rows_length encT_len, hld])
        rw [show (rows encT (l.take i) ++ H).length = 0 + (i + 1) * 2 by rw [List.length_append, rows_length encT_len, hlt, hH]; omega] at this
        rw [hrow]; exact this
      rw [List.set_cons_zero, e2] at hD4 ⊢
      refine od_fin ?_
      refine awp_rs ?_
      refine ao_r (rig_move rfl rfl) rfl (ao_r (rig_move rfl rfl) rfl (ao_r (rig_slLs i rfl rfl rfl Tryz.underlying23 Tryz.sizeOf32 rfl (by omega) (by omega)) rfl (ao_r (rig_move rfl rfl) rfl ?_)))
      refine ao_x (ex_copy (cs := encT t) 0 rfl hD4 rfl rfl Tryz.underlying23 Tryz.sizeOf32 (by rw [show Nat.min 1 (l.length + 1 - i) = 1 from Nat.min_eq_left (by omega)]; rfl) (.inr ⟨b2, 0, rfl, hct _ (le_at 1 hD4 rfl)⟩) rfl (by simp [encT, rows_length encT_len, hlt]; omega) (encT_one t)) rfl fun u m1 ⟨hu, hm, hD3⟩ => ?_
      subst hu hm
      have e1 : putR (rows encT (l.take i) ++ H ++ rows encT (l.drop i) ++ Z).toArray (0 + i * 2) (encT t) = (rows encT (l.take i) ++ encT t ++ rows encT (l.drop i) ++ Z).toArray := by
        have := putR_app (rows encT (l.take i)) H (rows encT (l.drop i) ++ Z) (encT t) (by rw [hH]; rfl)
        rw [rows_length encT_len, hlt] at this
        rw [Nat.zero_add, List.append_assoc _ _ Z, this, List.append_assoc _ _ Z]
      rw [List.set_cons_zero, e1] at hD3 ⊢
      refine ao_nil (awp_rs (ao_r (rig_move rfl rfl) rfl (ao_r (rig_assign rfl rfl) rfl (ao_nil ?_))))
      refine awp_ret ⟨_, res1 Tryz.results53 rfl, _, F, ?_, rfl, hD3, HpLe.refl _⟩
      have hln : (l.take i ++ t :: l.drop i).length = l.length + 1 := by simp; omega
      rw [← rows_ins, ← hln]
      refine Own.mk_ encT_len ?_ (by rw [hln]; omega) hcm
      rw [List.length_append, rows_length encT_len, hln]
      rw [List.length_append, hS2] at hspl
      omega
end Go.Proofs.YtmofaabndjnhjaaGreat
/- The program's side: the tokens at a position. -/
set_option linter.unusedVariables false
namespace Go.Proofs.YtmofaabndjnhjaaGreat
open Go Go.Aw Go.Pl Go.RowKit
theorem sumK_S (a b : Int) : sumK a b = sumS a b := rfl
def hdk (x : Tm) : ByteArray := x.toks.headD (B [])
def kv (l : List Tm) : KV := l.map fun x => (hdk x, x.cnt)
def atK (l : List Tm) (p : Nat) : KV := l.foldl (fun acc t => insK acc (t.toks.getD p (B [])) t.cnt) []
/-- An element of the answer: one token in a block of its own, made by the call. -/
def Tk (F0 F : Hp) (x : Tm) : Prop := ∃ b k, x.A = some ⟨b, 0, none⟩ ∧ x.n = 1 ∧ x.toks = [k] ∧ F b = some (.cells #[.string k] 9 (0, 0)) ∧ F0 b = none
theorem Tk.ok {F0 F : Hp} {x : Tm} (h : Tk F0 F x) : x.Ok F ∧ x.toks[0]? = some (hdk x) := by
  obtain ⟨b, k, hA, hn, ht, hF, _⟩ := h
  refine ⟨⟨x.A, x.n, x.cap, rfl, by rw [ht, hn]; rfl, .inr ⟨b, 0, hA, ?_⟩⟩, by rw [hdk, ht]; rfl⟩
  rw [ht]
  exact CellsAt_row F b #[.string k] 9 (0, 0) hF
theorem Tk.le {F0 F F' : Hp} {x : Tm} (h : Tk F0 F x) (hl : HpLe F F') : Tk F0 F' x := by
  obtain ⟨b, k, hA, hn, ht, hF, h0⟩ := h
  exact ⟨b, k, hA, hn, ht, hl _ _ hF, h0⟩
theorem plc_kv (l : List Tm) (k : ByteArray) : plc l (fun y => cmpS (hdk y) k) = plK (kv l) k := by
  rw [plc, plK, kv, List.countP_map]; rfl
theorem fnd_kv (l : List Tm) (k : ByteArray) : fnd l (fun y => cmpS (hdk y) k) (plK (kv l) k) = fdK (kv l) k := by
  unfold fnd fdK
  rw [kv, List.getElem?_map]
  cases l[plK (List.map (fun x => (hdk x, x.cnt)) l) k]? with
  | none => rfl
  | some y =>
    show decide (cmpS (hdk y) k = 0) = decide (hdk y = k)
    rw [decide_eq_decide]; exact cmpS_zero
theorem asc_mono {l : List Tm} {k : ByteArray} (h : Asc (kv l)) : ∀ (a b : Nat) (x y : Tm), l[a]? = some x → l[b]? = some y → a ≤ b → cmpS (hdk y) k < 0 → cmpS (hdk x) k < 0 := by
  intro a b x y hx hy hab hk
  rcases Nat.eq_or_lt_of_le hab with rfl | hlt
  · rw [hx] at hy; cases hy; exact hk
  · obtain ⟨h1, e1⟩ := List.getElem?_eq_some_iff.1 hx
    obtain ⟨h2, e2⟩ := List.getElem?_eq_some_iff.1 hy
    have := List.pairwise_iff_getElem.1 h a b (by simpa [kv] using h1) (by simpa [kv] using h2) hlt
    simp only [kv, List.getElem_map, e1, e2] at this
    exact cmpS_trans this hk
theorem kv_set (l : List Tm) (i : Nat) (y : Tm) : kv (l.set i y) = (kv l).set i (hdk y, y.cnt) := by rw [kv, kv, List.map_set]
/-- One step of the answer. -/
theorem kv_step {out out2 : List Tm} {k : ByteArray} {n : Int} {y : Tm} (hA : Asc (kv out)) (h2 : (fdK (kv out) k = true ∧ out2 = out) ∨ (fdK (kv out) k = false ∧ ∃ t : Tm, hdk t = k ∧ t.cnt = 0 ∧ out2 = out.take (plK (kv out) k) ++ t :: out.drop (plK (kv out) k))) (hy : out2[plK (kv out) k]? = some y) :
    kv (out2.set (plK (kv out) k) { y with cnt := sumS y.cnt n }) = insK (kv out) k n ∧ hdk y = k := by
  rcases h2 with ⟨hf, rfl⟩ | ⟨hf, t, ht, h0, rfl⟩
  · have hk : (kv out2)[plK (kv out2) k]? = some (hdk y, y.cnt) := by
      rw [show (kv out2)[plK (kv out2) k]? = (out2[plK (kv out2) k]?).map _ from List.getElem?_map, hy]; rfl
    have hyk : hdk y = k := by
      unfold fdK at hf
      rw [hk] at hf
      simpa using hf
    rw [hyk] at hk
    refine ⟨?_, hyk⟩
    rw [kv_set, insK_found hA hk]
    show _ = (kv out2).set _ (k, sumS y.cnt n)
    rw [← hyk]; rfl
  · have hpl : plK (kv out) k ≤ out.length := by have := plK_le (kv out) k; rwa [kv, List.length_map] at this
    have hlt : (out.take (plK (kv out) k)).length = plK (kv out) k := by simp; omega
    have hy2 : y = t := by
      rw [List.getElem?_append_right (by omega), hlt, Nat.sub_self] at hy
      simpa using hy.symm
    subst hy2
    refine ⟨?_, ht⟩
    rw [insK_new hA hf, List.set_append_right _ _ (by omega), hlt, Nat.sub_self, List.set_cons_zero]
    simp only [kv, List.map_append, List.map_cons, List.map_take, List.map_drop]
    rw [show hdk { y with cnt := sumS y.cnt n } = k from ht, h0]
    rfl
theorem putR_second {c : Array Value} {o : Nat} {a b : Value} (h : c[o]? = some a) : putR c (o + 1) [b] = putR c o [a, b] := by
  have e : c.setIfInBounds o a = c := by
    obtain ⟨h1, h2⟩ := Array.getElem?_eq_some_iff.1 h
    apply Array.ext_getElem?
    intro j
    rw [Array.getElem?_setIfInBounds]
    split
    · rename_i hj; subst hj; simp [h]
    · rfl
  simp only [putR, e]
theorem putR_cnt (l : List Tm) (i : Nat) (y : Tm) (n : Int) (sp : List Value) (hy : l[i]? = some y) : putR (rows encT l ++ sp).toArray (i * 2 + 1) [.int .i64 n] = (rows encT (l.set i { y with cnt := n }) ++ sp).toArray := by
  have h0 : (rows encT l ++ sp).toArray[i * 2]? = some (.slice y.A y.n y.cap) := by
    have := rows_get encT_len l i y hy 0 (.slice y.A y.n y.cap) rfl
    simp only [List.getElem?_toArray]
    rw [Nat.add_zero] at this
    rw [List.getElem?_append_left (List.getElem?_eq_some_iff.1 this).1, this]
  rw [putR_second h0]
  exact putR_rows encT_len l i { y with cnt := n } sp (List.getElem?_eq_some_iff.1 hy).1
end Go.Proofs.YtmofaabndjnhjaaGreat
/- The program's side: the walk of at. -/
set_option linter.unusedVariables false
namespace Go.Proofs.YtmofaabndjnhjaaGreat
open Go Go.Aw Go.Pl Go.RowKit
theorem ez74 : Enters Tryz.prog 74 := enters_of Tryz.func74 (by kernel_rfl) rfl
set_option maxHeartbeats 4000000 in
set_option maxRecDepth 100000 in
theorem Fz74 (F : Hp) (va : Value) (l : List Tm) (p : Nat) (ha : Tms F va l) (hok : ∀ t ∈ l, t.Ok F) (hp : ∀ t ∈ l, p < t.toks.length) (hc : ∀ t ∈ l, Cnt t) (hl : l.length ≤ 1048576) (hp2 : p ≤ 1048576) :
    GC Tryz.prog 74 #[va, .int .i64 p] F (fun u m' => ∃ out c F', Own 32 2 c u (rows encT out) ∧ m' = U [c, F'] ∧ Dj [c, F'] ∧ HpLe F F' ∧ (∀ x ∈ out, Tk F F' x) ∧ kv out = atK l p) := by
  obtain ⟨A, ca, rfl, _⟩ := RdSl.form encT_len (by decide) ha
  refine gc_intro (vs := [_, _]) Tryz.func74 rfl Tryz.ntmps74 (by simp) ?_
  refine awp_rs (ao_r (rig_assign rfl rfl) rfl (ao_nil ?_))
  refine awp_rs (ao_r (rig_assign rfl rfl) rfl (ao_nil ?_))
  refine awp_sk fun K1 hK1 => awp_rs ?_
  refine ao_r (rig_move rfl rfl) rfl (ao_r (rig_lenSl rfl rfl Tryz.underlying23) rfl (ao_r (rig_move rfl rfl) rfl (ao_nil ?_)))
  refine awp_block ?_
  refine awp_le [(1, .int .i64 p), (5, .slice none 0 0), (11, .slice A l.length ca), (12, .int .i64 l.length), (13, .int .i64 (0 : Nat))] ⟨rfl, rfl, rfl, rfl, rfl, trivial⟩ ?_
  refine awp_loop (fun kk r mm => ∃ (i : Nat) (v : Value) (out : List Tm) (c F1 : Hp), i ≤ l.length ∧ kk = l.length - i ∧ r = [(1, .int .i64 p), (5, v), (11, .slice A l.length ca), (12, .int .i64 l.length), (13, .int .i64 i)] ∧ mm = U [c, F1] ∧ Dj [c, F1] ∧ HpLe F F1 ∧ Own 32 2 c v (rows encT out) ∧ (∀ x ∈ out, Tk F F1 x) ∧ kv out = atK (l.take i) p ∧ Asc (kv out) ∧ out.length ≤ i ∧ (∀ x ∈ out, Cnt x)) _
    ⟨0, _, [], hp0, F, by omega, rfl, rfl, by rw [U_hp0, U_single], Dj_hp0 (Dj_single F), HpLe.refl _, Own.nil 32 2, by simp, rfl, List.Pairwise.nil, by simp, by simp⟩ ?_
  rintro kk r mm ⟨i, v, out, c, F1, hi, rfl, rfl, rfl, hD, hF, hO, hT, hkv, hA, hol, hcn⟩
  refine awp_rs (ao_r (rig_lss rfl rfl rfl) rfl (ao_nil ?_))
  refine awp_sk fun K2 hK2 => ?_
  refine awp_if rfl (fun h => ?_) (fun h => ?_)
  · refine awp_skip (hK2 _ _ (awp_sk fun K3 hK3 => awp_block (awp_rs ?_)))
    obtain ⟨x, hx⟩ := get_lt (l := l) (i := i) (by omega)
    have hxm := List.mem_of_getElem? hx
    obtain ⟨b, off, cap', e, hxc⟩ := Tms.get (RdSl.le ha (hF.trans (le_at 1 hD rfl))) hx
    simp only [Value.slice.injEq] at e
    obtain ⟨rfl, _, rfl⟩ := e
    refine ao_r (rig_ix i rfl rfl rfl Tryz.underlying23 Tryz.sizeOf32 rfl rfl (by omega)) rfl (ao_r (rig_loadN (vs := encT x) rfl rfl Tryz.isAgg32 Tryz.sizeOf32 hxc) rfl ?_)
    refine ao_x (ex_alloc rfl hD Tryz.zeroValue32) rfl fun u m7 ⟨b7, hu, hm7, hD7⟩ => ?_
    subst hu hm7
    refine ao_x0 (ex_store (i := 0) rfl hD7 rfl rfl Tryz.sizeOf32 (encT_one x) rfl (by simp [Value.cells, encT])) fun u m8 ⟨_, hm8, hD8⟩ => ?_
    subst hm8
    rw [List.set_cons_zero, putR_all _ _ (by rfl)] at hD8 ⊢
    refine ao_nil ?_
    obtain ⟨e1, hD9⟩ := U_swap 0 hD8
    obtain ⟨e2, hD10⟩ := U_merge 1 hD9
    have key : ∃ F2, U (mergeAt (swapAt [Go.Aw.one b7 (.cells (Value.agg (encT x).toArray).cells 32 (0, 0)), c, F1] 0) 1) = U [c, F2] ∧ Dj [c, F2] ∧ HpLe F1 F2 ∧ CellsAt F2 b7 0 (encT x) :=
      ⟨_, rfl, hD10, le_at 1 (Dj_tail (A := [c]) hD9) rfl, (cellsAt_one b7 (encT x).toArray 32).le U_le_head⟩
    obtain ⟨F2, e3, hD2, hF12, hb7⟩ := key
    rw [e1, e2, e3]
    clear e1 e2 e3 hD7 hD8 hD9 hD10
    have hF2 : HpLe F F2 := hF.trans hF12
    have hox := (hok x hxm).le (hF2.trans (le_at 1 hD2 rfl))
    have hn := hox.len
    have hpx := hp x hxm
    obtain ⟨k, hk⟩ := get_lt hpx
    obtain ⟨bt, ot, hAt, hct⟩ := hox.get hk
    obtain ⟨x0, x1, _⟩ := hb7.le (le_at 1 hD2 rfl)
    refine awp_rs ?_
    refine ao_r (rig_fieldAddr rfl rfl Tryz.underlying32 rfl Tryz.sizeOf27 rfl) rfl (ao_r (rig_load1 rfl rfl Tryz.isAgg27 x0) rfl (ao_r (rig_move rfl rfl) rfl (ao_r (rig_ix p rfl rfl rfl Tryz.underlying27 Tryz.sizeOf9 hAt rfl (by omega)) rfl (ao_r (rig_load1 rfl rfl Tryz.isAgg9 hct) rfl (ao_r (rig_assign rfl rfl) rfl (ao_nil ?_))))))
    obtain ⟨A5, cap5, rfl⟩ := hO.len encT_len (by decide)
    have hT2 : ∀ y ∈ out, Tk F F2 y := fun y hy => (hT y hy).le hF12
    have hrd : Tms (U [c, F2]) (.slice A5 out.length cap5) out := RdSl.le hO.rd (le_at 0 hD2 rfl)
    have hsearch := Fz83 (U [c, F2]) (.slice A5 out.length cap5) (.string k) 84 out (fun y => cmpS (hdk y) k) hrd (by omega) ez84 (fun y hy => Fz84 _ y k (hdk y) ((hT2 y hy).ok.1.le (le_at 1 hD2 rfl)) (hT2 y hy).ok.2) (asc_mono hA)
    rw [plc_kv, fnd_kv] at hsearch
    have hpl : plK (kv out) k ≤ out.length := by have := plK_le (kv out) k; rwa [kv, List.length_map] at this
    refine awp_rs ?_
    refine ao_r (rig_move rfl rfl) rfl (ao_r (rig_move rfl rfl) rfl (ao_r (rig_call rfl rfl ez83 hsearch) rfl (ao_r (rig_move rfl rfl) rfl (ao_r (rig_extract rfl rfl rfl) rfl (ao_r (rig_extract rfl rfl rfl) rfl (ao_r (rig_assign rfl rfl) rfl (ao_r (rig_assign rfl rfl) rfl (ao_nil ?_))))))))
    -- behind the insertion
    refine awp_mid (fun r mm => ∃ (v2 : Value) (out2 : List Tm) (c2 F3 : Hp), r = [(1, .int .i64 p), (5, v2), (7, .pointer (some ⟨b7, 0, none⟩)), (9, .int .i64 (plK (kv out) k)), (11, .slice (some ⟨b, off, none⟩) l.length ca), (12, .int .i64 l.length), (13, .int .i64 i)] ∧ mm = U [c2, F3] ∧ Dj [c2, F3] ∧ HpLe F2 F3 ∧ Own 32 2 c2 v2 (rows encT out2) ∧ (∀ y ∈ out2, Tk F F3 y) ∧ out2.length ≤ out.length + 1 ∧ (∀ y ∈ out2, Cnt y) ∧ plK (kv out) k < out2.length ∧
      ((fdK (kv out) k = true ∧ out2 = out) ∨ (fdK (kv out) k = false ∧ ∃ t : Tm, hdk t = k ∧ t.cnt = 0 ∧ out2 = out.take (plK (kv out) k) ++ t :: out.drop (plK (kv out) k)))) (awp_rs ?_) ?_
    · refine ao_r (rig_move rfl rfl) rfl (ao_r (rig_not rfl rfl) rfl (ao_nil ?_))
      refine awp_cond rfl (fun h1 => ?_) (fun h1 => ?_)
      · have hfd : fdK (kv out) k = false := by simpa using h1
        refine awp_region ?_
        refine ao_r (rig_move rfl rfl) rfl (ao_r (rig_move rfl rfl) rfl (ao_r (rig_move rfl rfl) rfl ?_))
        refine ao_x (ex_buildSlice rfl hD2 rfl Tryz.underlying27 Tryz.sizeOf9 Tryz.zeroValue9 (by decide) (by decide) (fill_one rfl (rangeMap_size _ _))) rfl fun w2 m2 ⟨b3, hw2, hm2, hD3⟩ => ?_
        subst hw2 hm2
        refine ao_r (rig_build (pl := #[(0, 1), (1, 1)]) (cs := #[.slice (some ⟨b3, 0, none⟩) 1 1, .int .i64 0]) rfl rfl Tryz.underlying32 Tryz.zeroValue32 (fun w => by kernel_rfl) (by kernel_rfl)) rfl ?_
        refine ao_x (ex_buildSlice rfl hD3 rfl Tryz.underlying23 Tryz.sizeOf32 Tryz.zeroValue32 (by decide) (by decide) (fill_one rfl (rangeMap_size _ _))) rfl fun w3 m3 ⟨b4, hw3, hm3, hD4⟩ => ?_
        subst hw3 hm3
        obtain ⟨e1, hD5⟩ := U_swap 1 hD4
        obtain ⟨e2, hD6⟩ := U_swap 0 hD5
        have key : ∃ Fx, U (swapAt (swapAt [Go.Aw.one b4 (.cells #[.slice (some ⟨b3, 0, none⟩) 1 1, .int .i64 0] 32 (0, 0)), Go.Aw.one b3 (.cells #[.string k] 9 (0, 0)), c, F2] 1) 0) = U [c, Fx] ∧ Dj [c, Fx] ∧ HpLe F2 Fx ∧ Fx b4 = some (.cells #[.slice (some ⟨b3, 0, none⟩) 1 1, .int .i64 0] 32 (0, 0)) ∧ Fx b3 = some (.cells #[.string k] 9 (0, 0)) :=
          ⟨U [Go.Aw.one b4 (.cells #[.slice (some ⟨b3, 0, none⟩) 1 1, .int .i64 0] 32 (0, 0)), Go.Aw.one b3 (.cells #[.string k] 9 (0, 0)), F2], (U_flat [c] _).symm, Dj_unflat (A := [c]) hD6, le_at 2 (Dj_tail (A := [c]) hD6) rfl, le_at 0 (Dj_tail (A := [c]) hD6) rfl _ _ (Go.Aw.one_self _ _), le_at 1 (Dj_tail (A := [c]) hD6) rfl _ _ (Go.Aw.one_self _ _)⟩
        obtain ⟨Fx, e3, hDx, hFx, hb4, hb3⟩ := key
        have e4 := e1.trans (e2.trans e3)
        have hFb3 : F b3 = none := by
          have h0 := hD3.1 b3 (by rw [Go.Aw.one_self]; simp)
          cases hq : F b3 with
          | none => rfl
          | some o =>
            have := le_at (L := [c, F2]) 1 hD2 rfl b3 o (hF2 b3 o hq)
            rw [h0] at this
            cases this
        have hins := Fz53 c Fx (.slice A5 out.length cap5) out ⟨some ⟨b3, 0, none⟩, 1, 1, [k], 0⟩ (plK (kv out) k) b4 hO hDx hpl (by omega) hb4
        rw [← e4] at hins
        refine ao_x (ex_call rfl rfl ez53 hins) rfl fun u m4 ⟨c', F', hO', hm4, hD', hF'⟩ => ?_
        subst hm4
        refine ao_r (rig_assign rfl rfl) rfl (ao_nil ?_)
        have hlen : (out.take (plK (kv out) k) ++ (⟨some ⟨b3, 0, none⟩, 1, 1, [k], 0⟩ : Tm) :: out.drop (plK (kv out) k)).length = out.length + 1 := by simp; omega
        have hmem : ∀ y ∈ out.take (plK (kv out) k) ++ (⟨some ⟨b3, 0, none⟩, 1, 1, [k], 0⟩ : Tm) :: out.drop (plK (kv out) k), y ∈ out ∨ y = ⟨some ⟨b3, 0, none⟩, 1, 1, [k], 0⟩ := fun y hy => by
          rcases List.mem_append.1 hy with h | h
          · exact .inl (List.mem_of_mem_take h)
          · rcases List.mem_cons.1 h with h | h
            · exact .inr h
            · exact .inl (List.mem_of_mem_drop h)
        refine ⟨[(1, .int .i64 p), (5, u), (7, .pointer (some ⟨b7, 0, none⟩)), (9, .int .i64 (plK (kv out) k)), (11, .slice (some ⟨b, off, none⟩) l.length ca), (12, .int .i64 l.length), (13, .int .i64 i)], ⟨rfl, rfl, rfl, rfl, rfl, rfl, rfl, trivial⟩, _, _, c', F', rfl, rfl, hD', hFx.trans hF', hO', fun y hy => ?_, by omega, fun y hy => ?_, by omega, .inr ⟨hfd, _, rfl, rfl, rfl⟩⟩
        · rcases hmem y hy with h | h
          · exact (hT2 y h).le (hFx.trans hF')
          · rw [h]; exact ⟨b3, k, rfl, rfl, rfl, hF' _ _ hb3, hFb3⟩
        · rcases hmem y hy with h | h
          · exact hcn y h
          · rw [h]; exact ⟨by simp, by simp⟩
      · have hfd : fdK (kv out) k = true := by simpa using h1
        refine awp_skip ⟨[(1, .int .i64 p), (5, .slice A5 out.length cap5), (7, .pointer (some ⟨b7, 0, none⟩)), (9, .int .i64 (plK (kv out) k)), (11, .slice (some ⟨b, off, none⟩) l.length ca), (12, .int .i64 l.length), (13, .int .i64 i)], ⟨rfl, rfl, rfl, rfl, rfl, rfl, rfl, trivial⟩, _, out, c, F2, rfl, rfl, hD2, HpLe.refl _, hO, hT2, by omega, hcn, ?_, .inl ⟨hfd, rfl⟩⟩
        unfold fdK at hfd
        cases hq : (kv out)[plK (kv out) k]? with
        | none => rw [hq] at hfd; cases hfd
        | some a => have := (List.getElem?_eq_some_iff.1 hq).1; rwa [kv, List.length_map] at this
    · rintro r mm ⟨v2, out2, c2, F3, rfl, rfl, hD3, hF3, hO3, hT3, hl3, hcn3, hlt3, hcase⟩
      obtain ⟨y, hy⟩ := get_lt hlt3
      have hym := List.mem_of_getElem? hy
      obtain ⟨g, cap3, sp, rfl, rfl, hsp, hnc, hcm⟩ := hO3.some_ encT_len (by decide) (by omega)
      have hrow : Tms (U [Go.Aw.one g (.cells (rows encT out2 ++ sp).toArray 32 (0, 0)), F3]) (.slice (some ⟨g, 0, none⟩) out2.length cap3) out2 := RdSl.le hO3.rd (le_at 0 hD3 rfl)
      obtain ⟨b8, o8, cap8, e8, hyc⟩ := Tms.get hrow hy
      simp only [Value.slice.injEq, Option.some.injEq, Addr.mk.injEq] at e8
      obtain ⟨⟨rfl, rfl, _⟩, _, rfl⟩ := e8
      obtain ⟨y0, y1, _⟩ := id hyc
      obtain ⟨z0, z1, _⟩ := hb7.le (hF3.trans (le_at 1 hD3 rfl))
      have hcy := hcn3 y hym
      have hcx := hc x hxm
      have hsr := sumS_range hcy.1 hcy.2 hcx.1
      refine awp_draw (.q 0 (.q 1 (.q 2 (.q 3 (.q 4 (.q 5 (.q 6 (.q 7 (.q 8 (.q 9 (.q 10 (.q 11 (.s 12 .fin))))))))))))) [12] (by kernel_rfl) (by kernel_rfl) ?_
      refine oq rfl (rig_move rfl rfl) rfl (oq rfl (rig_move rfl rfl) rfl (oq rfl (rig_move rfl rfl) rfl (oq rfl (rig_move rfl rfl) rfl (oq rfl (rig_ix (plK (kv out) k) rfl rfl rfl Tryz.underlying23 Tryz.sizeOf32 rfl rfl hlt3) rfl (oq rfl (rig_fieldAddr rfl rfl Tryz.underlying32 rfl Tryz.sizeOf3 rfl) rfl (oq rfl (rig_load1 rfl rfl Tryz.isAgg3 y1) rfl ?_))))))
      refine oq rfl (rig_fieldAddr rfl rfl Tryz.underlying32 rfl Tryz.sizeOf3 rfl) rfl (oq rfl (rig_load1 rfl rfl Tryz.isAgg3 z1) rfl (oq rfl (rig_call rfl rfl ez82 (Fz82 _ y.cnt x.cnt (by have h0 : 0 ≤ y.cnt := hcy.1; omega) hcx.1 hcx.2)) rfl (oq rfl (rig_ix (plK (kv out) k) rfl rfl rfl Tryz.underlying23 Tryz.sizeOf32 rfl rfl hlt3) rfl (oq rfl (rig_fieldAddr rfl rfl Tryz.underlying32 rfl Tryz.sizeOf3 rfl) rfl ?_))))
      refine os0 rfl (ex_store (i := 0) rfl hD3 rfl rfl Tryz.sizeOf3 (by simp [Value.cells, Value.oneCell']) rfl (by simp [Value.cells, rows_length encT_len]; omega)) fun u m1 ⟨_, hm, hD4⟩ => ⟨fun h => by simp at h, ?_⟩
      subst hm
      have erow : putR (rows encT out2 ++ sp).toArray (0 + plK (kv out) k * 2 + 1) [.int .i64 (sumS y.cnt x.cnt)] = (rows encT (out2.set (plK (kv out) k) { y with cnt := sumS y.cnt x.cnt }) ++ sp).toArray := by
        rw [Nat.zero_add]; exact putR_cnt out2 _ y _ sp hy
      obtain ⟨hkv3, hyk⟩ := kv_step (n := x.cnt) hA hcase hy
      have hkx : x.toks.getD p (B []) = k := by rw [List.getD_eq_getElem?_getD, hk]; rfl
      have key : ∃ mm, mm = U [Go.Aw.one g (.cells (rows encT (out2.set (plK (kv out) k) { y with cnt := sumS y.cnt x.cnt }) ++ sp).toArray 32 (0, 0)), F3] ∧ Dj [Go.Aw.one g (.cells (rows encT (out2.set (plK (kv out) k) { y with cnt := sumS y.cnt x.cnt }) ++ sp).toArray 32 (0, 0)), F3] ∧ mm = U ([Go.Aw.one g (.cells (rows encT out2 ++ sp).toArray 32 (0, 0)), F3].set 0 (Go.Aw.one g (.cells (putR (rows encT out2 ++ sp).toArray (0 + plK (kv out) k * 2 + 1) [.int .i64 (sumS y.cnt x.cnt)]) 32 (0, 0)))) :=
        ⟨_, rfl, by have := hD4; rw [List.set_cons_zero] at this; rw [← erow]; exact this, by rw [erow]; rfl⟩
      obtain ⟨mm, hmm, hD5, hmm2⟩ := key
      refine od_fin (hK3 _ _ (awp_region ?_))
      refine ao_r (rig_add rfl rfl rfl (w64 _ (by omega) (by omega))) rfl (ao_r (rig_move rfl rfl) rfl (ao_nil ?_))
      have hln : (out2.set (plK (kv out) k) { y with cnt := sumS y.cnt x.cnt }).length = out2.length := by simp
      have hmem : ∀ z ∈ out2.set (plK (kv out) k) { y with cnt := sumS y.cnt x.cnt }, z ∈ out2 ∨ z = { y with cnt := sumS y.cnt x.cnt } := fun z hz => List.mem_or_eq_of_mem_set hz
      refine ⟨[(1, .int .i64 p), (5, .slice (some ⟨g, 0, none⟩) out2.length cap3), (11, .slice _ l.length ca), (12, .int .i64 l.length), (13, .int .i64 (i + 1 : Nat))], _, ⟨rfl, rfl, rfl, rfl, rfl, trivial⟩, by omega, i + 1, _, out2.set (plK (kv out) k) { y with cnt := sumS y.cnt x.cnt }, _, F3, by omega, rfl, rfl, hmm2.symm.trans hmm, hD5, hF2.trans hF3, ?_, fun z hz => ?_, ?_, ?_, by omega, fun z hz => ?_⟩
      · rw [← hln]
        refine Own.mk_ encT_len ?_ (by rw [hln]; exact hnc) hcm
        rw [List.length_append, rows_length encT_len] at hsp ⊢
        rw [hln]; exact hsp
      · rcases hmem z hz with h | h
        · exact hT3 z h
        · rw [h]; exact hT3 y hym
      · rw [hkv3, List.take_succ_eq_append_getElem (by omega), (List.getElem?_eq_some_iff.1 hx).2, atK, List.foldl_append]
        show _ = insK (atK (l.take i) p) _ _
        rw [← hkv, hkx]
      · rw [hkv3]; exact insK_asc hA
      · rcases hmem z hz with h | h
        · exact hcn3 z h
        · rw [h]; exact hsr
  · refine awp_exit (hK1 _ _ (awp_rs (ao_r (rig_move rfl rfl) rfl (ao_r (rig_assign rfl rfl) rfl (ao_nil ?_)))))
    rw [List.take_of_length_le (by omega)] at hkv
    exact awp_ret ⟨_, res1 Tryz.results74 rfl, out, c, F1, hO, rfl, hD, hF, hT, hkv⟩
end Go.Proofs.YtmofaabndjnhjaaGreat
/- The answers of at and total on keys. -/
set_option linter.unusedVariables false
namespace Go.Proofs.YtmofaabndjnhjaaGreat
open Go Go.Aw Go.Pl Go.RowKit
theorem em_B : B [] = em := rfl
theorem atK_keys (l : List Tm) (p : Nat) : atK l p = atQ (keys l) p := by
  rw [atK, atQ, keys, List.foldl_map]; rfl
theorem totS_keys : ∀ (l : List Tm) (n : Int), totS n l = (keys l).foldl (fun n t => sumK n t.2) n
  | [], _ => rfl
  | t :: l, n => totS_keys l _
theorem splitsB_kv {l : List Tm} : splitsB l = splQ (kv l) := by
  rw [splitsB, splQ, kv, List.length_map, List.any_map]; rfl
end Go.Proofs.YtmofaabndjnhjaaGreat
/- The program's side: elements with one token are brought to the front (the inner loop of mine). -/
set_option linter.unusedVariables false
namespace Go.Proofs.YtmofaabndjnhjaaGreat
open Go Go.Aw Go.Pl Go.RowKit
def tokIs (p : Nat) (k : ByteArray) (t : Tm) : Bool := decide (t.toks.getD p (B []) = k)
set_option maxHeartbeats 4000000 in
set_option maxRecDepth 100000 in
theorem L74_4 (gl b8 p : Nat) (X Y : List Value) (R : List Tm) (cap : Nat) (F : Hp) (x : Tm) (k : ByteArray) (V1 V27 V28 V29 : Value) (A : Option Addr)
    (hD : Dj [Go.Aw.one gl (.cells (X ++ rows encT R ++ Y).toArray 32 (0, 0)), F]) (hR : ∀ t ∈ R, t.Ok F ∧ p < t.toks.length) (hx : x.Ok F) (hk : x.toks[0]? = some k) (hb8 : CellsAt F b8 0 (encT x)) (hl : R.length ≤ 1048576) (hp : p ≤ 1048576) (hA : R ≠ [] → A = some ⟨gl, X.length, none⟩) :
    AWp Tryz.prog 101 (blkOf Tryz.f72 4) (fun e r mm => e = .normal ∧ EnvLe [(0, .slice A R.length cap), (1, V1), (5, .int .i64 p), (9, .int .i64 ((R.filter (tokIs p k)).length : Nat)), (27, V27), (28, V28), (29, V29)] r ∧ ∃ C, C.Perm (R.filter fun t => !tokIs p k t) ∧ mm = U [Go.Aw.one gl (.cells (X ++ rows encT (R.filter (tokIs p k) ++ C) ++ Y).toArray 32 (0, 0)), F] ∧ Dj [Go.Aw.one gl (.cells (X ++ rows encT (R.filter (tokIs p k) ++ C) ++ Y).toArray 32 (0, 0)), F])
      [(0, .slice A R.length cap), (1, V1), (5, .int .i64 p), (8, .pointer (some ⟨b8, 0, none⟩)), (9, .int .i64 (0 : Nat)), (27, V27), (28, V28), (29, V29), (34, .int .i64 R.length), (35, .int .i64 (0 : Nat))]
      (U [Go.Aw.one gl (.cells (X ++ rows encT R ++ Y).toArray 32 (0, 0)), F]) := by
  refine awp_block ?_
  refine awp_loop (fun kk r mm => ∃ (i n : Nat) (cur : List Tm), i ≤ R.length ∧ kk = R.length - i ∧ r = [(0, .slice A R.length cap), (1, V1), (5, .int .i64 p), (8, .pointer (some ⟨b8, 0, none⟩)), (9, .int .i64 n), (27, V27), (28, V28), (29, V29), (34, .int .i64 R.length), (35, .int .i64 i)] ∧ mm = U [Go.Aw.one gl (.cells (X ++ rows encT cur ++ Y).toArray 32 (0, 0)), F] ∧ Dj [Go.Aw.one gl (.cells (X ++ rows encT cur ++ Y).toArray 32 (0, 0)), F] ∧ Part (tokIs p k) R i n cur) _
    ⟨0, 0, R, by omega, rfl, rfl, rfl, hD, Part.start⟩ ?_
  rintro kk r mm ⟨i, n, cur, hi, rfl, rfl, rfl, hD, hP⟩
  obtain ⟨hni, hcl⟩ := hP.le hi
  refine awp_rs (ao_r (rig_lss rfl rfl rfl) rfl (ao_nil ?_))
  refine awp_sk fun K9 hK9 => ?_
  refine awp_if rfl (fun h => ?_) (fun h => ?_)
  · refine awp_skip (hK9 _ _ (awp_sk fun K10 hK10 => awp_block (awp_rs ?_)))
    have hiR : i < R.length := by omega
    obtain ⟨xi, hxi⟩ := get_lt hiR
    have hci := hP.get hxi
    obtain rfl := hA (fun e => by rw [e] at hiR; simp at hiR)
    obtain ⟨hox, hpx⟩ := hR xi (List.mem_of_getElem? hxi)
    obtain ⟨ti, hti⟩ := get_lt hpx
    have hF := le_at 1 hD rfl
    have hrow := (win_cells gl X (rows encT cur) Y 32).le (le_at 0 hD rfl)
    have hci2 := hrow.elem encT_len hci
    obtain ⟨x0, x1, _⟩ := id hci2
    obtain ⟨bt, ot, hAt, hct⟩ := (hox.le hF).get hti
    have hn := hox.len
    obtain ⟨z0, z1, _⟩ := hb8.le hF
    obtain ⟨bk, ok, hAk, hck⟩ := (hx.le hF).get hk
    have hnk := hx.len
    have hk0 : 0 < x.toks.length := (List.getElem?_eq_some_iff.1 hk).1
    refine ao_r (rig_move rfl rfl) rfl (ao_r (rig_assign rfl rfl) rfl (ao_nil ?_))
    refine awp_ds (.q 0 (.q 1 (.q 2 (.q 3 (.q 4 (.q 5 (.q 6 (.q 7 (.q 8 (.q 9 (.q 10 (.q 11 (.q 12 .fin))))))))))))) [] (by kernel_rfl) (by kernel_rfl) ?_
    refine oq rfl (rig_move rfl rfl) rfl (oq rfl (rig_move rfl rfl) rfl (oq rfl (rig_ix i rfl rfl rfl Tryz.underlying23 Tryz.sizeOf32 rfl rfl hiR) rfl (oq rfl (rig_fieldAddr rfl rfl Tryz.underlying32 rfl Tryz.sizeOf27 rfl) rfl (oq rfl (rig_load1 rfl rfl Tryz.isAgg27 x0) rfl (oq rfl (rig_move rfl rfl) rfl (oq rfl (rig_ix p rfl rfl rfl Tryz.underlying27 Tryz.sizeOf9 hAt rfl (by omega)) rfl (oq rfl (rig_load1 rfl rfl Tryz.isAgg9 hct) rfl ?_)))))))
    refine oq rfl (rig_fieldAddr rfl rfl Tryz.underlying32 rfl Tryz.sizeOf27 rfl) rfl (oq rfl (rig_load1 rfl rfl Tryz.isAgg27 z0) rfl (oq rfl (rig_ix 0 rfl rfl rfl Tryz.underlying27 Tryz.sizeOf9 hAk rfl (by omega)) rfl (oq rfl (rig_load1 rfl rfl Tryz.isAgg9 hck) rfl (oq rfl (rig_seql rfl rfl rfl) rfl (od_fin ?_)))))
    have htk : tokIs p k xi = decide (ti = k) := by
      unfold tokIs; rw [List.getD_eq_getElem?_getD, hti]; rfl
    refine awp_if rfl (fun h2 => ?_) (fun h2 => ?_)
    · have hnc : n < cur.length := by omega
      obtain ⟨y, hy⟩ := get_lt hnc
      have hcy := hrow.elem encT_len hy
      refine awp_ds (.q 0 (.q 1 (.p 2 (.p 3 (.q 4 (.q 5 (.q 6 (.q 7 (.q 8 (.q 9 (.q 10 (.q 11 (.q 12 (.s 13 (.q 14 (.s 15 .fin)))))))))))))))) [13, 15] (by kernel_rfl) (by kernel_rfl) ?_
      refine oq rfl (rig_move rfl rfl) rfl (oq rfl (rig_move rfl rfl) rfl (opu rfl (rig_move rfl rfl) rfl (opu rfl (rig_move rfl rfl) rfl (oq rfl (rig_move rfl rfl) rfl (oq rfl (rig_move rfl rfl) rfl (oq rfl (rig_ix n rfl rfl rfl Tryz.underlying23 Tryz.sizeOf32 rfl rfl (by omega)) rfl (oq rfl (rig_loadN (vs := encT y) rfl rfl Tryz.isAgg32 Tryz.sizeOf32 hcy) rfl ?_)))))))
      refine oq rfl (rig_move rfl rfl) rfl (oq rfl (rig_move rfl rfl) rfl (oq rfl (rig_ix i rfl rfl rfl Tryz.underlying23 Tryz.sizeOf32 rfl rfl hiR) rfl (oq rfl (rig_loadN (vs := encT xi) rfl rfl Tryz.isAgg32 Tryz.sizeOf32 hci2) rfl (oq rfl (rig_ix i rfl rfl rfl Tryz.underlying23 Tryz.sizeOf32 rfl rfl hiR) rfl ?_))))
      have hsz : ∀ (cu : List Tm) (q : Nat), cu.length = R.length → q < R.length → X.length + q * 2 + 2 ≤ (X ++ rows encT cu ++ Y).toArray.size := fun cu q h1 h2 => by
        simp only [List.size_toArray, List.length_append, rows_length encT_len, h1]; omega
      refine os0 rfl (ex_store (i := 0) rfl hD rfl rfl Tryz.sizeOf32 (encT_one y) rfl (hsz cur i hcl hiR)) fun u m1 ⟨_, hm, hD4⟩ => ⟨fun h => by simp at h, ?_⟩
      have er1 := putR_win encT_len X Y cur i y (by omega)
      have hm' : m1 = U [Go.Aw.one gl (.cells (X ++ rows encT (cur.set i y) ++ Y).toArray 32 (0, 0)), F] := by rw [hm, ← er1]; rfl
      have hD5 : Dj [Go.Aw.one gl (.cells (X ++ rows encT (cur.set i y) ++ Y).toArray 32 (0, 0)), F] := by rw [← er1]; exact hD4
      clear hm hD4 er1
      subst hm'
      refine oq rfl (rig_ix n rfl rfl rfl Tryz.underlying23 Tryz.sizeOf32 rfl rfl (by omega)) rfl ?_
      refine os0 rfl (ex_store (i := 0) rfl hD5 rfl rfl Tryz.sizeOf32 (encT_one xi) rfl (hsz (cur.set i y) n (by simpa using hcl) (by omega))) fun u m2 ⟨_, hm, hD4⟩ => ⟨fun h => by simp at h, ?_⟩
      have er1 := putR_win encT_len X Y (cur.set i y) n xi (by simpa using hnc)
      have hm' : m2 = U [Go.Aw.one gl (.cells (X ++ rows encT ((cur.set i y).set n xi) ++ Y).toArray 32 (0, 0)), F] := by rw [hm, ← er1]; rfl
      have hD6 : Dj [Go.Aw.one gl (.cells (X ++ rows encT ((cur.set i y).set n xi) ++ Y).toArray 32 (0, 0)), F] := by rw [← er1]; exact hD4
      clear hm hD4 er1
      subst hm'
      refine od_fin (awp_region ?_)
      refine ao_r (rig_move rfl rfl) rfl (ao_r (rig_add (c := ((n + 1 : Nat) : Int)) rfl rfl rfl (w64 _ (by omega) (by omega))) rfl (ao_r (rig_assign rfl rfl) rfl (ao_nil ?_)))
      refine hK10 _ _ (awp_region ?_)
      refine ao_r (rig_add (c := ((i + 1 : Nat) : Int)) rfl rfl rfl (w64 _ (by omega) (by omega))) rfl (ao_r (rig_move rfl rfl) rfl (ao_nil ?_))
      exact ⟨[(0, .slice _ R.length cap), (1, V1), (5, .int .i64 p), (8, .pointer (some ⟨b8, 0, none⟩)), (9, .int .i64 (n + 1 : Nat)), (27, V27), (28, V28), (29, V29), (34, .int .i64 R.length), (35, .int .i64 (i + 1 : Nat))], _, ⟨rfl, rfl, rfl, rfl, rfl, rfl, rfl, rfl, rfl, rfl, trivial⟩, by omega, i + 1, n + 1, _, by omega, rfl, rfl, rfl, hD6, hP.yes hxi (by rw [htk]; exact decide_eq_true h2) hy⟩
    · refine awp_skip (hK10 _ _ (awp_region ?_))
      refine ao_r (rig_add (c := ((i + 1 : Nat) : Int)) rfl rfl rfl (w64 _ (by omega) (by omega))) rfl (ao_r (rig_move rfl rfl) rfl (ao_nil ?_))
      exact ⟨[(0, .slice _ R.length cap), (1, V1), (5, .int .i64 p), (8, .pointer (some ⟨b8, 0, none⟩)), (9, .int .i64 n), (27, V27), (28, V28), (29, V29), (34, .int .i64 R.length), (35, .int .i64 (i + 1 : Nat))], _, ⟨rfl, rfl, rfl, rfl, rfl, rfl, rfl, rfl, rfl, rfl, trivial⟩, by omega, i + 1, n, cur, by omega, rfl, rfl, rfl, hD, hP.no hxi (by rw [htk]; exact decide_eq_false h2)⟩
  · obtain rfl : i = R.length := by omega
    obtain ⟨rfl, C, rfl, hC⟩ := hP.fin
    exact awp_exit ⟨rfl, ⟨rfl, rfl, rfl, rfl, rfl, rfl, rfl, trivial⟩, C, hC, rfl, hD⟩
end Go.Proofs.YtmofaabndjnhjaaGreat
/- The program's side: the parts of a group that is split (the middle loop of mine). -/
set_option linter.unusedVariables false
namespace Go.Proofs.YtmofaabndjnhjaaGreat
open Go Go.Aw Go.Pl Go.RowKit
abbrev oB (po : Nat) (v : Value) : Hp := Go.Aw.one po (.cells #[v] 23 (0, 0))
abbrev wB (gl : Nat) (X : List Value) (l : List Tm) (Y : List Value) : Hp := Go.Aw.one gl (.cells (X ++ rows encT l ++ Y).toArray 32 (0, 0))
/-- What the walk of a group leaves: the templates behind the old ones, the row in another order. -/
def Out74 (po gl : Nat) (X Y : List Value) (l outs : List Tm) (F : Hp) (S : List Tm → Prop) (m' : Hp) : Prop :=
  ∃ v' c' l' F' news, m' = U [oB po v', c', wB gl X l' Y, F'] ∧ Dj [oB po v', c', wB gl X l' Y, F'] ∧ HpLe F F' ∧ l'.Perm l ∧ Own 32 2 c' v' (rows encT (outs ++ news)) ∧ (∀ t ∈ news, t.Ok (diff F' F)) ∧ news.length ≤ l.length ∧ S news
def Grp (pg po : Nat) (l : List Tm) : Prop := ∀ (gl cap : Nat) (X Y : List Value) (v : Value) (c : Hp) (outs : List Tm) (F : Hp),
  Dj [oB po v, c, wB gl X l Y, F] → Own 32 2 c v (rows encT outs) → F pg = some (.cells #[.func (.func 72) #[] #[.pointer (some ⟨pg, 0, none⟩), .pointer (some ⟨po, 0, none⟩)]] 81 (0, 0)) → (∀ t ∈ l, t.Ok F) → outs.length + l.length ≤ 1048576 → l.length ≤ cap →
  GC Tryz.prog 72 #[.slice (some ⟨gl, X.length, none⟩) l.length cap, .pointer (some ⟨pg, 0, none⟩), .pointer (some ⟨po, 0, none⟩)] (U [oB po v, c, wB gl X l Y, F]) (fun u m' => u = .tuple #[] ∧ Out74 po gl X Y l outs F (fun news => ∀ f, l.length ≤ f → keys news = mineQ f (keys l)) m')
theorem ez72 : Enters Tryz.prog 72 := enters_of Tryz.func72 (by kernel_rfl) rfl
theorem focus3 {a b c d : Hp} (hD : Dj [a, b, c, d]) : U [a, b, c, d] = U [c, U [a, b, d]] ∧ Dj [c, U [a, b, d]] ∧ Dj [a, b, d] := by
  have h : U [a, b, c, d] = U [c, a, b, d] ∧ Dj [c, a, b, d] := U_pm [2, 0, 1, 3] rfl hD
  exact ⟨h.1.trans (U_flat [c] [a, b, d]).symm, Dj_unflat (A := [c]) h.2, h.2.2⟩
theorem unfocus3 {a b c d : Hp} (hD : Dj [c, U [a, b, d]]) (hD2 : Dj [a, b, d]) : U [c, U [a, b, d]] = U [a, b, c, d] ∧ Dj [a, b, c, d] := by
  have h1 : Dj [c, a, b, d] := Dj_flat (A := [c]) hD hD2
  have h : U [c, a, b, d] = U [a, b, c, d] ∧ Dj [a, b, c, d] := U_pm [1, 2, 0, 3] rfl h1
  exact ⟨(U_flat [c] [a, b, d]).trans h.1, h.2⟩
theorem keys_filter (l : List Tm) (p : Nat) (k : ByteArray) : keys (l.filter (tokIs p k)) = (keys l).filter fun t => decide (t.1.getD p em = k) := by
  rw [keys, keys, List.filter_map]; rfl
def partsQ (f : Nat) (q : List El) (p : Nat) (L : KV) : List El := L.flatMap fun a => mineQ f (q.filter fun t => decide (t.1.getD p em = a.1))
set_option maxHeartbeats 4000000 in
set_option maxRecDepth 100000 in
theorem L74_2 (pg po w gl cap p : Nat) (X Y : List Value) (l : List Tm) (v : Value) (c : Hp) (outs : List Tm) (F : Hp) (A27 : Option Addr) (cap27 : Nat) (out2 : List Tm)
    (IH : ∀ l' : List Tm, l'.length < l.length → l' ≠ [] → (∀ t ∈ l', t.toks.length = w ∧ Cnt t) → Grp pg po l')
    (hw : ∀ t ∈ l, t.toks.length = w ∧ Cnt t) (hp : p < w) (hw2 : w ≤ 1048576)
    (hD : Dj [oB po v, c, wB gl X l Y, F]) (hO : Own 32 2 c v (rows encT outs)) (hpg : F pg = some (.cells #[.func (.func 72) #[] #[.pointer (some ⟨pg, 0, none⟩), .pointer (some ⟨po, 0, none⟩)]] 81 (0, 0))) (hok : ∀ t ∈ l, t.Ok F) (hb : outs.length + l.length ≤ 1048576) (hcap : l.length ≤ cap)
    (h27 : Tms F (.slice A27 out2.length cap27) out2) (hT : ∀ x ∈ out2, x.Ok F ∧ x.toks[0]? = some (hdk x)) (hkv : kv out2 = atQ (keys l) p) (h2 : 2 ≤ out2.length) (hl2 : out2.length ≤ 1048576) :
    AWp Tryz.prog 101 (blkOf Tryz.f72 2) (fun e r mm => e = .normal ∧ EnvLe [] r ∧ Out74 po gl X Y l outs F (fun news => ∀ f, l.length ≤ f + 1 → keys news = partsQ f (keys l) p (atQ (keys l) p)) mm)
      [(0, .slice (some ⟨gl, X.length, none⟩) l.length cap), (1, .pointer (some ⟨pg, 0, none⟩)), (5, .int .i64 p), (27, .slice A27 out2.length cap27), (28, .int .i64 out2.length), (29, .int .i64 (0 : Nat))]
      (U [oB po v, c, wB gl X l Y, F]) := by
  refine awp_block ?_
  refine awp_loop (fun kk r mm => ∃ (j : Nat) (D R : List Tm) (v : Value) (c : Hp) (news : List Tm) (F1 : Hp) (A : Option Addr) (nR cap1 : Nat), j ≤ out2.length ∧ kk = out2.length - j ∧ r = [(0, .slice A nR cap1), (1, .pointer (some ⟨pg, 0, none⟩)), (5, .int .i64 p), (27, .slice A27 out2.length cap27), (28, .int .i64 out2.length), (29, .int .i64 j)] ∧
      mm = U [oB po v, c, wB gl X (D ++ R) Y, F1] ∧ Dj [oB po v, c, wB gl X (D ++ R) Y, F1] ∧ HpLe F F1 ∧ (D ++ R).Perm l ∧ R.Perm (l.filter fun t => !((kv out2).take j).any fun a => tokIs p a.1 t) ∧ Own 32 2 c v (rows encT (outs ++ news)) ∧ (∀ t ∈ news, t.Ok (diff F1 F)) ∧ news.length ≤ D.length ∧ (∀ f, l.length ≤ f + 1 → keys news = partsQ f (keys l) p ((kv out2).take j)) ∧ nR = R.length ∧ R.length ≤ cap1 ∧ (R ≠ [] → A = some ⟨gl, (X ++ rows encT D).length, none⟩)) _
    ⟨0, [], l, v, c, [], F, _, _, _, by omega, rfl, rfl, rfl, hD, HpLe.refl _, List.Perm.refl _, List.Perm.of_eq (List.filter_eq_self.2 fun t _ => by simp).symm, by simpa using hO, by simp, by simp, fun f _ => rfl, rfl, hcap, fun _ => by simp [rows]⟩ ?_
  clear hD hO v c
  rintro kk r mm ⟨j, D, R, v, c, news, F1, A, nR, cap1, hj, rfl, rfl, rfl, hD, hF, hDR, hR, hO, hnk, hnl, hnews, rfl, hcap1, hA⟩
  refine awp_rs (ao_r (rig_lss rfl rfl rfl) rfl (ao_nil ?_))
  refine awp_sk fun K6 hK6 => ?_
  refine awp_if rfl (fun h => ?_) (fun h => ?_)
  · refine awp_skip (hK6 _ _ (awp_sk fun K7 hK7 => awp_block (awp_rs ?_)))
    have hjl : j < out2.length := by omega
    obtain ⟨x, hx⟩ := get_lt hjl
    have hxm := List.mem_of_getElem? hx
    obtain ⟨b, off, cap', e, hxc⟩ := Tms.get (RdSl.le h27 (hF.trans (le_at 3 hD rfl))) hx
    simp only [Value.slice.injEq] at e
    obtain ⟨rfl, _, rfl⟩ := e
    refine ao_r (rig_ix j rfl rfl rfl Tryz.underlying23 Tryz.sizeOf32 rfl rfl hjl) rfl (ao_r (rig_loadN (vs := encT x) rfl rfl Tryz.isAgg32 Tryz.sizeOf32 hxc) rfl ?_)
    refine ao_x (ex_alloc rfl hD Tryz.zeroValue32) rfl fun u m7 ⟨b8, hu, hm7, hD7⟩ => ?_
    subst hu hm7
    refine ao_x0 (ex_store (i := 0) rfl hD7 rfl rfl Tryz.sizeOf32 (encT_one x) rfl (by simp [Value.cells, encT])) fun u m8 ⟨_, hm8, hD8⟩ => ?_
    subst hm8
    rw [List.set_cons_zero, putR_all _ _ (by rfl)] at hD8 ⊢
    obtain ⟨F2, e2, hD2, hF12, hb8⟩ : ∃ F2, U [Go.Aw.one b8 (.cells (Value.agg (encT x).toArray).cells 32 (0, 0)), oB po v, c, wB gl X (D ++ R) Y, F1] = U [oB po v, c, wB gl X (D ++ R) Y, F2] ∧ Dj [oB po v, c, wB gl X (D ++ R) Y, F2] ∧ HpLe F1 F2 ∧ CellsAt F2 b8 0 (encT x) := by
      have h : U [Go.Aw.one b8 (.cells (Value.agg (encT x).toArray).cells 32 (0, 0)), oB po v, c, wB gl X (D ++ R) Y, F1] = U [oB po v, c, wB gl X (D ++ R) Y, Go.Aw.one b8 (.cells (Value.agg (encT x).toArray).cells 32 (0, 0)), F1] ∧ Dj [oB po v, c, wB gl X (D ++ R) Y, Go.Aw.one b8 (.cells (Value.agg (encT x).toArray).cells 32 (0, 0)), F1] := U_pm [1, 2, 3, 0, 4] rfl hD8
      exact ⟨U [Go.Aw.one b8 (.cells (Value.agg (encT x).toArray).cells 32 (0, 0)), F1], h.1.trans (U_flat [oB po v, c, wB gl X (D ++ R) Y] _).symm, Dj_unflat (A := [oB po v, c, wB gl X (D ++ R) Y]) h.2, le_at 1 h.2.2.2.2 rfl, (cellsAt_one b8 (encT x).toArray 32).le U_le_head⟩
    rw [e2]
    clear e2 hD7 hD8
    refine ao_nil ?_
    refine awp_rs (ao_r (rig_assign rfl rfl) rfl (ao_nil ?_))
    refine awp_sk fun K8 hK8 => awp_rs ?_
    refine ao_r (rig_move rfl rfl) rfl (ao_r (rig_lenSl rfl rfl Tryz.underlying23) rfl (ao_r (rig_move rfl rfl) rfl (ao_nil ?_)))
    have eW : wB gl X (D ++ R) Y = wB gl (X ++ rows encT D) R Y := by
      show Go.Aw.one gl (.cells (X ++ rows encT (D ++ R) ++ Y).toArray 32 (0, 0)) = Go.Aw.one gl (.cells (X ++ rows encT D ++ rows encT R ++ Y).toArray 32 (0, 0))
      rw [rows_append]; simp only [List.append_assoc]
    rw [eW] at hD2 ⊢
    obtain ⟨hxok, hxk⟩ := hT x hxm
    have hF02 := hF.trans hF12
    have hRl : ∀ t ∈ R, t ∈ l := fun t ht => hDR.mem_iff.1 (List.mem_append_right _ ht)
    have hlen : D.length + R.length = l.length := by have := hDR.length_eq; rwa [List.length_append] at this
    obtain ⟨ef, hDf, hD3⟩ := focus3 hD2
    have hF2f : HpLe F2 (U [oB po v, c, F2]) := le_at 2 hD3 rfl
    refine awp_L ef ?_
    refine awp_lemma (s := [(0, .slice A R.length cap1), (1, .pointer (some ⟨pg, 0, none⟩)), (5, .int .i64 p), (8, .pointer (some ⟨b8, 0, none⟩)), (9, .int .i64 (0 : Nat)), (27, .slice (some ⟨b, off, none⟩) out2.length cap27), (28, .int .i64 out2.length), (29, .int .i64 j), (34, .int .i64 R.length), (35, .int .i64 (0 : Nat))]) ⟨rfl, rfl, rfl, rfl, rfl, rfl, rfl, rfl, rfl, rfl, trivial⟩
      (L74_4 gl b8 p (X ++ rows encT D) Y R cap1 (U [oB po v, c, F2]) x (hdk x) _ _ _ _ A hDf (fun t ht => ⟨((hok t (hRl t ht)).le hF02).le hF2f, by have := (hw t (hRl t ht)).1; omega⟩) ((hxok.le hF02).le hF2f) hxk (hb8.le hF2f) (by omega) (by omega) hA) fun r mm ⟨hE, C, hC, hmm, hDj⟩ => ?_
    subst hmm
    refine hK8 _ _ (awp_le _ hE ?_)
    obtain ⟨eu, hDu⟩ := unfocus3 hDj hD3
    refine awp_L eu ?_
    have hkj : (kv out2)[j]? = some (hdk x, x.cnt) := by rw [kv, List.getElem?_map, hx]; rfl
    have hAsc : Asc (kv out2) := by rw [hkv]; exact atQ_asc _ _
    have hd : ∀ t ∈ l, tokIs p (hdk x) t = true → (((kv out2).take j).any fun a => tokIs p a.1 t) = false := fun t _ ht => by
      rw [Bool.eq_false_iff]
      intro ha
      obtain ⟨a, ha1, ha2⟩ := List.any_eq_true.1 ha
      refine asc_take hAsc hkj ha1 ?_
      simp only [tokIs, decide_eq_true_eq] at ht ha2
      rw [← ha2, ht]
    have hfp : (R.filter (tokIs p (hdk x))).Perm (l.filter (tokIs p (hdk x))) := part_front hR hd
    have hCp := part_back hR hC
    have hmem : (hdk x, x.cnt) ∈ atQ (keys l) p := by rw [← hkv]; exact List.mem_of_getElem? hkj
    have hkl : (atQ (keys l) p).length = out2.length := by rw [← hkv, kv, List.length_map]
    have hfl : (R.filter (tokIs p (hdk x))).length < l.length := by
      have h1 : ((keys l).filter fun t => decide (t.1.getD p em = hdk x)).length < (keys l).length := part_short hmem (by omega)
      rw [hfp.length_eq]
      have h2 : (l.filter (tokIs p (hdk x))).length = (keys (l.filter (tokIs p (hdk x)))).length := by simp [keys]
      have h3 : (keys l).length = l.length := by simp [keys]
      rw [h2, keys_filter]; omega
    have hfne : R.filter (tokIs p (hdk x)) ≠ [] := by
      obtain ⟨t, ht, he⟩ := atQ_keys.1 ⟨_, hmem, rfl⟩
      obtain ⟨t', ht', rfl⟩ := List.mem_map.1 ht
      have : t' ∈ R.filter (tokIs p (hdk x)) := hfp.mem_iff.2 (List.mem_filter.2 ⟨ht', decide_eq_true he⟩)
      exact List.ne_nil_of_mem this
    have hfR : ∀ t ∈ R.filter (tokIs p (hdk x)), t ∈ l := fun t ht => hRl t (List.mem_filter.1 ht).1
    have hRne : R ≠ [] := fun e => hfne (by rw [e]; rfl)
    obtain rfl := hA hRne
    have hCl : (R.filter (tokIs p (hdk x))).length + C.length = R.length := by
      have h1 := (List.filter_append_perm (tokIs p (hdk x)) R).length_eq
      rw [List.length_append, ← hC.length_eq] at h1; exact h1
    generalize hfr : R.filter (tokIs p (hdk x)) = front at *
    have eW2 : Go.Aw.one gl (.cells (X ++ rows encT D ++ rows encT (front ++ C) ++ Y).toArray 32 (0, 0)) = wB gl (X ++ rows encT D) front (rows encT C ++ Y) := by
      show _ = Go.Aw.one gl (.cells (X ++ rows encT D ++ rows encT front ++ (rows encT C ++ Y)).toArray 32 (0, 0))
      rw [rows_append]; simp only [List.append_assoc]
    rw [eW2] at hDu ⊢
    have hpg2 := hF02 _ _ hpg
    have hg := IH front hfl hfne (fun t ht => hw t (hfR t ht)) gl cap1 (X ++ rows encT D) (rows encT C ++ Y) v c (outs ++ news) F2 hDu hO hpg2 (fun t ht => (hok t (hfR t ht)).le hF02) (by rw [List.length_append]; omega) (by omega)
    refine awp_ds (.q 0 (.q 1 (.q 2 (.q 3 (.s 4 .fin))))) [4] (by kernel_rfl) (by kernel_rfl) ?_
    refine oq rfl (rig_load1 rfl rfl Tryz.isAgg81 (cell_le (le_at 3 hDu rfl) (by simp [cell, hpg2]; rfl))) rfl (oq rfl (rig_move rfl rfl) rfl (oq rfl (rig_move rfl rfl) rfl (oq rfl (rig_slH front.length rfl rfl rfl Tryz.underlying23 Tryz.sizeOf32 rfl (by omega)) rfl ?_)))
    refine os rfl (ex_callv (R := fun u m' => u = .tuple #[] ∧ Out74 po gl (X ++ rows encT D) (rows encT C ++ Y) front (outs ++ news) F2 (fun news => ∀ f, front.length ≤ f → keys news = mineQ f (keys front)) m') (vs := [.slice (some ⟨gl, (X ++ rows encT D).length, none⟩) front.length cap1]) rfl rfl rfl ez72 (by simpa using hg)) rfl fun u m1 ⟨_, hout⟩ => ⟨fun h => by simp at h, ?_⟩
    obtain ⟨v3, c3, front', F3, news3, rfl, hD5, hF3, hperm, hO3, hnk3, hnl3, hS3⟩ := hout
    refine od_fin (awp_region ?_)
    refine ao_r (rig_move rfl rfl) rfl (ao_r (rig_move rfl rfl) rfl (ao_r (rig_slL front.length rfl rfl rfl Tryz.underlying23 Tryz.sizeOf32 rfl (by omega)) rfl (ao_r (rig_assign rfl rfl) rfl (ao_nil ?_))))
    refine hK7 _ _ (awp_region ?_)
    refine ao_r (rig_add (c := ((j + 1 : Nat) : Int)) rfl rfl rfl (w64 _ (by omega) (by omega))) rfl (ao_r (rig_move rfl rfl) rfl (ao_nil ?_))
    have eW3 : wB gl (X ++ rows encT D) front' (rows encT C ++ Y) = wB gl X (D ++ front' ++ C) Y := by
      show Go.Aw.one gl (.cells (X ++ rows encT D ++ rows encT front' ++ (rows encT C ++ Y)).toArray 32 (0, 0)) = Go.Aw.one gl (.cells (X ++ rows encT (D ++ front' ++ C) ++ Y).toArray 32 (0, 0))
      rw [rows_append, rows_append]; simp only [List.append_assoc]
    rw [eW3] at hD5 ⊢
    have hfc : (front' ++ C).Perm R := (hperm.append_right C).trans (by rw [← hfr]; exact (hC.append_left _).trans (List.filter_append_perm _ R))
    have hpl := hperm.length_eq
    refine ⟨[(0, .slice _ (R.length - front.length) (cap1 - front.length)), (1, .pointer (some ⟨pg, 0, none⟩)), (5, .int .i64 p), (27, .slice _ out2.length _), (28, .int .i64 out2.length), (29, .int .i64 (j + 1 : Nat))], _, ⟨rfl, rfl, rfl, rfl, rfl, rfl, trivial⟩, by omega, j + 1, D ++ front', C, v3, c3, news ++ news3, F3, _, _, _, by omega, rfl, rfl, rfl, hD5, hF02.trans hF3, ?_, ?_, by rw [← List.append_assoc]; exact hO3, fun t ht => ?_, by simp only [List.length_append]; omega, fun f hf => ?_, by omega, by omega, fun hCne => ?_⟩
    · rw [List.append_assoc]; exact (hfc.append_left D).trans hDR
    · rw [take_succ_get hkj]
      refine hCp.trans (List.Perm.of_eq (List.filter_congr fun t _ => ?_))
      rw [List.any_append, List.any_cons, List.any_nil, Bool.or_false]
    · rcases List.mem_append.1 ht with h | h
      · exact (hnk t h).le (diff_mono (hF12.trans hF3))
      · exact (hnk3 t h).le (diff_anti hF02)
    · rw [take_succ_get hkj, keys, List.map_append]
      show keys news ++ keys news3 = _
      rw [hnews f hf, hS3 f (by omega), partsQ, partsQ, List.flatMap_append]
      congr 1
      rw [List.flatMap_cons, List.flatMap_nil, List.append_nil]
      have hq : (keys front).Perm ((keys l).filter fun t => decide (t.1.getD p em = hdk x)) := by
        rw [← keys_filter]; exact hfp.map Tm.key
      refine mineQ_perm (w := w) f hq (fun t ht => ?_) fun t ht => ?_
      · obtain ⟨y, hy, rfl⟩ := List.mem_map.1 ht
        exact (hw y (hfR y hy)).2
      · obtain ⟨y, hy, rfl⟩ := List.mem_map.1 ht
        exact (hw y (hfR y hy)).1
    · have hc0 : 0 < C.length := List.length_pos_iff.2 hCne
      rw [if_neg (by omega), Option.map_some, Addr.add_lit]
      congr 2
      simp only [List.length_append, rows_append, rows_length encT_len]; omega
  · obtain rfl : j = out2.length := by omega
    rw [List.take_of_length_le (by simp [kv])] at hnews
    rw [hkv] at hnews
    exact awp_exit ⟨rfl, trivial, v, c, D ++ R, F1, news, rfl, hD, hF, hDR, hO, hnk, by have := hDR.length_eq; rw [List.length_append] at this; omega, hnews⟩
end Go.Proofs.YtmofaabndjnhjaaGreat
/- The program's side: the walk of a group (mine's closure), by the number of its elements. -/
set_option linter.unusedVariables false
namespace Go.Proofs.YtmofaabndjnhjaaGreat
open Go Go.Aw Go.Pl Go.RowKit
theorem walkQ_stop {q : List El} {n p : Nat} {acc : List ByteArray} (h : splQ (atQ q p) = true) : walkQ q (n + 1) p acc = .inr p := by rw [walkQ, if_pos h]
theorem walkQ_go {q : List El} {n p : Nat} {acc : List ByteArray} (h : splQ (atQ q p) = false) : walkQ q (n + 1) p acc = walkQ q n (p + 1) (acc ++ [tokQ (atQ q p)]) := by rw [walkQ, if_neg (by rw [h]; decide)]
set_option maxHeartbeats 8000000 in
set_option maxRecDepth 100000 in
theorem Fz72s (pg po w : Nat) (l : List Tm) (hne : l ≠ []) (hw : ∀ t ∈ l, t.toks.length = w ∧ Cnt t) (hw2 : w ≤ 1048576)
    (IH : ∀ l' : List Tm, l'.length < l.length → l' ≠ [] → (∀ t ∈ l', t.toks.length = w ∧ Cnt t) → Grp pg po l') : Grp pg po l := by
  intro gl cap X Y v c outs F hD hO hpg hok hb hcap
  have hl0 : 0 < l.length := List.length_pos_iff.2 hne
  refine gc_intro (vs := [_, _, _]) Tryz.func72 rfl Tryz.ntmps72 (by simp) ?_
  have hrd : ∀ m : Hp, HpLe (wB gl X l Y) m → Tms m (.slice (some ⟨gl, X.length, none⟩) l.length cap) l := fun m hm => RdSl.le (win_rd encT_len gl cap X Y l 32 _ fun _ => rfl) hm
  have htot := totS_range l 0 (by omega) (by omega) fun t ht => (hw t ht).2
  refine awp_rs ?_
  refine ao_r (rig_move rfl rfl) rfl (ao_r (rig_call rfl rfl ez73 (Fz73 _ _ l (hrd _ (le_at 2 hD rfl)) (by omega) fun t ht => (hw t ht).2)) rfl (ao_r (rig_build (pl := #[(0, 1), (1, 1)]) (cs := #[.slice none 0 0, .int .i64 (totS 0 l)]) rfl rfl Tryz.underlying32 Tryz.zeroValue32 (fun w => by kernel_rfl) rfl) rfl ?_))
  generalize hto : totS 0 l = tot at *
  refine ao_x (ex_alloc rfl hD Tryz.zeroValue32) rfl fun u m7 ⟨b4, hu, hm7, hD7⟩ => ?_
  subst hu hm7
  refine ao_x0 (ex_store (i := 0) rfl hD7 rfl rfl Tryz.sizeOf32 (by simp [Value.cells, Value.oneCell']) rfl (by simp [Value.cells])) fun u m8 ⟨_, hm8, hD8⟩ => ?_
  subst hm8
  rw [List.set_cons_zero, putR_all _ _ (by rfl)] at hD8 ⊢
  refine ao_nil ?_
  obtain ⟨t, hlt0⟩ := get_lt hl0
  have htm := List.mem_of_getElem? hlt0
  have hcl := ((win_cells gl X (rows encT l) Y 32).le (le_at 3 hD8 rfl)).elem encT_len hlt0
  obtain ⟨t0, t1, _⟩ := id hcl
  have htok := (hok t htm).len
  rw [(hw t htm).1] at htok
  refine awp_sk fun K1 hK1 => awp_rs ?_
  refine ao_r (rig_move rfl rfl) rfl (ao_r (rig_ix 0 rfl rfl rfl Tryz.underlying23 Tryz.sizeOf32 rfl rfl hl0) rfl (ao_r (rig_fieldAddr rfl rfl Tryz.underlying32 rfl Tryz.sizeOf27 rfl) rfl (ao_r (rig_load1 rfl rfl Tryz.isAgg27 t0) rfl (ao_r (rig_lenSl rfl rfl Tryz.underlying27) rfl (ao_r (rig_move rfl rfl) rfl (ao_nil ?_))))))
  rw [htok]
  refine awp_block ?_
  refine awp_le [(0, .slice (some ⟨gl, X.length, none⟩) l.length cap), (1, .pointer (some ⟨pg, 0, none⟩)), (2, .pointer (some ⟨po, 0, none⟩)), (4, .pointer (some ⟨b4, 0, none⟩)), (18, .int .i64 w), (19, .int .i64 (0 : Nat))] ⟨rfl, rfl, rfl, rfl, rfl, rfl, trivial⟩ ?_
  have hst : U [Go.Aw.one b4 (.cells (Value.agg #[.slice none 0 0, .int .i64 tot]).cells 32 (0, 0)), oB po v, c, wB gl X l Y, F] = U [Go.Aw.one b4 (.cells #[.slice none 0 0, .int .i64 tot] 32 (0, 0)), hp0, oB po v, c, wB gl X l Y, F] ∧ Dj [Go.Aw.one b4 (.cells #[.slice none 0 0, .int .i64 tot] 32 (0, 0)), hp0, oB po v, c, wB gl X l Y, F] := by
    have h : U [hp0, Go.Aw.one b4 (.cells #[.slice none 0 0, .int .i64 tot] 32 (0, 0)), oB po v, c, wB gl X l Y, F] = U [Go.Aw.one b4 (.cells #[.slice none 0 0, .int .i64 tot] 32 (0, 0)), hp0, oB po v, c, wB gl X l Y, F] ∧ Dj [Go.Aw.one b4 (.cells #[.slice none 0 0, .int .i64 tot] 32 (0, 0)), hp0, oB po v, c, wB gl X l Y, F] := U_pm [1, 0, 2, 3, 4, 5] rfl (Dj_hp0 hD8)
    exact ⟨(U_hp0 _).symm.trans h.1, h.2⟩
  refine awp_L hst.1 ?_
  have hDst := hst.2
  clear hst hD7 hD8 hcl t0 t1
  refine awp_loop (fun kk r mm => ∃ (p : Nat) (v4 : Value) (C4 : Hp) (acc : List ByteArray) (F1 : Hp), p ≤ w ∧ kk = w - p ∧ r = [(0, .slice (some ⟨gl, X.length, none⟩) l.length cap), (1, .pointer (some ⟨pg, 0, none⟩)), (2, .pointer (some ⟨po, 0, none⟩)), (4, .pointer (some ⟨b4, 0, none⟩)), (18, .int .i64 w), (19, .int .i64 p)] ∧
      mm = U [Go.Aw.one b4 (.cells #[v4, .int .i64 tot] 32 (0, 0)), C4, oB po v, c, wB gl X l Y, F1] ∧ Dj [Go.Aw.one b4 (.cells #[v4, .int .i64 tot] 32 (0, 0)), C4, oB po v, c, wB gl X l Y, F1] ∧ HpLe F F1 ∧ Own 9 1 C4 v4 (rows encS acc) ∧ acc.length = p ∧ walkQ (keys l) (w - p) p acc = walkQ (keys l) w 0 []) _
    ⟨0, _, hp0, [], F, by omega, rfl, rfl, rfl, hDst, HpLe.refl _, Own.nil 9 1, rfl, rfl⟩ ?_
  clear hDst
  rintro kk r mm ⟨p, v4, C4, acc, F1, hp, rfl, rfl, rfl, hD1, hF, hO4, hac, hwk⟩
  have hkl : (keys l).length = l.length := by simp [keys]
  have hkne : keys l ≠ [] := fun e => by rw [e] at hkl; simp at hkl; omega
  have hwid : widQ (keys l) = w := widQ_of (fun x hx => by obtain ⟨y, hy, rfl⟩ := List.mem_map.1 hx; exact (hw y hy).1) hkne
  refine awp_rs (ao_r (rig_lss rfl rfl rfl) rfl (ao_nil ?_))
  refine awp_sk fun K2 hK2 => ?_
  refine awp_if rfl (fun h => ?_) (fun h => ?_)
  · refine awp_skip (hK2 _ _ (awp_sk fun K3 hK3 => awp_block (awp_rs ?_)))
    have hpw : p < w := by omega
    refine ao_r (rig_move rfl rfl) rfl (ao_r (rig_assign rfl rfl) rfl (ao_nil ?_))
    have hF76 := Fz74 (U [Go.Aw.one b4 (.cells #[v4, .int .i64 tot] 32 (0, 0)), C4, oB po v, c, wB gl X l Y, F1]) (.slice (some ⟨gl, X.length, none⟩) l.length cap) l p (hrd _ (le_at 4 hD1 rfl)) (fun t ht => ((hok t ht).le hF).le (le_at 5 hD1 rfl)) (fun t ht => by have := (hw t ht).1; omega) (fun t ht => (hw t ht).2) (by omega) (by omega)
    refine awp_rs ?_
    refine ao_r (rig_move rfl rfl) rfl (ao_r (rig_move rfl rfl) rfl ?_)
    refine ao_x (ex_call rfl rfl ez74 hF76) rfl fun u m1 ⟨out2, c2, F2, hO2, hm1, hD2, hF2, hT2, hkv2⟩ => ?_
    subst hm1
    obtain ⟨A6, cap6, rfl⟩ := hO2.len encT_len (by decide)
    rw [atK_keys] at hkv2
    have hol : out2.length ≤ l.length := by
      have h1 := atQ_len (keys l) p
      rw [← hkv2, kv, List.length_map] at h1; omega
    have hone : out2 ≠ [] := fun e => by
      have := atQ_ne (p := p) hkne
      rw [← hkv2, e] at this; exact this rfl
    refine ao_r (rig_assign rfl rfl) rfl (ao_nil ?_)
    have hTok : ∀ x ∈ out2, x.Ok (U [c2, F2]) ∧ 0 < x.toks.length := fun x hx => ⟨(hT2 x hx).ok.1.le (le_at 1 hD2 rfl), (List.getElem?_eq_some_iff.1 (hT2 x hx).ok.2).1⟩
    refine awp_sk fun K4 hK4 => awp_rs ?_
    refine ao_r (rig_move rfl rfl) rfl (ao_r (rig_call rfl rfl ez75 (Fz75 _ _ out2 (RdSl.le hO2.rd (le_at 0 hD2 rfl)) (fun x hx => (hTok x hx).1) (by omega) fun x hx => (hTok x hx).2)) rfl (ao_nil ?_))
    obtain ⟨M, hM, hDM, hUM, hF2e⟩ := grow_by (cs := [Go.Aw.one b4 (.cells #[v4, .int .i64 tot] 32 (0, 0)), C4, oB po v, c, wB gl X l Y]) hD2 hD1 hF2
    have hsp : splitsB out2 = splQ (atQ (keys l) p) := by rw [splitsB_kv, hkv2]
    have hws : w - p = (w - (p + 1)) + 1 := by omega
    refine awp_cond rfl (fun h1 => ?_) (fun h1 => ?_)
    · -- the group is split
      rw [hsp] at h1
      refine awp_sk fun K5 hK5 => awp_rs ?_
      refine ao_r (rig_move rfl rfl) rfl (ao_r (rig_lenSl rfl rfl Tryz.underlying23) rfl (ao_r (rig_move rfl rfl) rfl (ao_nil ?_)))
      have hpm : U [c2, Go.Aw.one b4 (.cells #[v4, .int .i64 tot] 32 (0, 0)), C4, oB po v, c, wB gl X l Y, M] = U [oB po v, c, wB gl X l Y, c2, Go.Aw.one b4 (.cells #[v4, .int .i64 tot] 32 (0, 0)), C4, M] ∧ Dj [oB po v, c, wB gl X l Y, c2, Go.Aw.one b4 (.cells #[v4, .int .i64 tot] 32 (0, 0)), C4, M] := U_pm [3, 4, 5, 0, 1, 2, 6] rfl hDM
      obtain ⟨G, hG, hDG, hFG, hcG⟩ : ∃ G, U [c2, F2] = U [oB po v, c, wB gl X l Y, G] ∧ Dj [oB po v, c, wB gl X l Y, G] ∧ HpLe M G ∧ HpLe c2 G :=
        ⟨U [c2, Go.Aw.one b4 (.cells #[v4, .int .i64 tot] 32 (0, 0)), C4, M], hUM.trans (hpm.1.trans (U_flat [oB po v, c, wB gl X l Y] _).symm), Dj_unflat (A := [oB po v, c, wB gl X l Y]) hpm.2, le_at 3 hpm.2.2.2.2 rfl, le_at 0 hpm.2.2.2.2 rfl⟩
      refine awp_L hG ?_
      have hFG2 : HpLe F G := hF.trans (hM.trans hFG)
      have hs2 := h1
      simp only [splQ, Bool.and_eq_true, decide_eq_true_eq] at hs2
      have hol2 : (atQ (keys l) p).length = out2.length := by rw [← hkv2, kv, List.length_map]
      have hTk : ∀ x ∈ out2, x.Ok G ∧ x.toks[0]? = some (hdk x) := fun x hx => by
        obtain ⟨b, k, hA, hn, ht, hFb, h0⟩ := hT2 x hx
        rw [hF2e] at hFb
        obtain ⟨hMb, _⟩ := last_get (cs := [Go.Aw.one b4 (.cells #[v4, .int .i64 tot] 32 (0, 0)), C4, oB po v, c, wB gl X l Y]) h0 hFb
        have : Tk hp0 G x := ⟨b, k, hA, hn, ht, hFG _ _ hMb, rfl⟩
        exact this.ok
      refine awp_lemma (s := [(0, .slice (some ⟨gl, X.length, none⟩) l.length cap), (1, .pointer (some ⟨pg, 0, none⟩)), (5, .int .i64 p), (27, .slice A6 out2.length cap6), (28, .int .i64 out2.length), (29, .int .i64 (0 : Nat))]) ⟨rfl, rfl, rfl, rfl, rfl, rfl, trivial⟩
        (L74_2 pg po w gl cap p X Y l v c outs G A6 cap6 out2 IH hw hpw hw2 hDG hO (hFG2 _ _ hpg) (fun t ht => (hok t ht).le hFG2) hb hcap (RdSl.le hO2.rd hcG) hTk hkv2 (by omega) (by omega)) fun r mm ⟨_, hout⟩ => ?_
      refine hK5 _ _ (awp_ret ⟨_, res0 Tryz.results72, rfl, ?_⟩)
      obtain ⟨v3, c3, l3, F3, news3, rfl, hD5, hF3, hperm, hO3, hnk3, hnl3, hS3⟩ := hout
      refine ⟨v3, c3, l3, F3, news3, rfl, hD5, hFG2.trans hF3, hperm, hO3, fun t ht => (hnk3 t ht).le (diff_anti hFG2), hnl3, fun f hf => ?_⟩
      cases f with
      | zero => omega
      | succ f =>
        rw [hS3 f hf, mineQ, hwid, ← hwk, hws, walkQ_stop h1]
        rfl
    · -- one more token
      rw [hsp] at h1
      refine awp_skip (hK4 _ _ ?_)
      obtain ⟨x0, hx0⟩ := get_lt (List.length_pos_iff.2 hone)
      have hx0m := List.mem_of_getElem? hx0
      obtain ⟨b0, k0, hA0, hn0, ht0, hFb0, h00⟩ := hT2 x0 hx0m
      rw [hF2e] at hFb0
      obtain ⟨hMb0, hF1b⟩ := last_get (cs := [Go.Aw.one b4 (.cells #[v4, .int .i64 tot] 32 (0, 0)), C4, oB po v, c, wB gl X l Y]) h00 hFb0
      have hleb : HpLe (Go.Aw.one b0 (.cells #[.string k0] 9 (0, 0))) M := fun k o hk => by
        unfold Go.Aw.one at hk
        split at hk
        · rename_i e; rw [e, hMb0]; exact hk
        · cases hk
      obtain ⟨eM, hDc⟩ := carve hleb
      have hDb : Dj [Go.Aw.one b0 (.cells #[.string k0] 9 (0, 0)), F1] := Dj.one (Dj_single F1) (by rw [U_single]; exact hF1b)
      have hM2 : HpLe F1 (diff M (Go.Aw.one b0 (.cells #[.string k0] 9 (0, 0)))) := diff_le hM hDb
      generalize diff M (Go.Aw.one b0 (.cells #[.string k0] 9 (0, 0))) = M2 at *
      rw [eM] at hDM hUM
      have hDL : Dj [c2, Go.Aw.one b4 (.cells #[v4, .int .i64 tot] 32 (0, 0)), C4, oB po v, c, wB gl X l Y, Go.Aw.one b0 (.cells #[.string k0] 9 (0, 0)), M2] := Dj_flat (A := [c2, Go.Aw.one b4 (.cells #[v4, .int .i64 tot] 32 (0, 0)), C4, oB po v, c, wB gl X l Y]) hDM hDc
      have hUL : U [c2, F2] = U [c2, Go.Aw.one b4 (.cells #[v4, .int .i64 tot] 32 (0, 0)), C4, oB po v, c, wB gl X l Y, Go.Aw.one b0 (.cells #[.string k0] 9 (0, 0)), M2] := hUM.trans (U_flat [c2, Go.Aw.one b4 (.cells #[v4, .int .i64 tot] 32 (0, 0)), C4, oB po v, c, wB gl X l Y] _)
      refine awp_L hUL ?_
      have hk0 : hdk x0 = k0 := by rw [hdk, ht0]; rfl
      have hhd : (kv out2).head? = some (k0, x0.cnt) := by
        cases out2 with
        | nil => exact absurd rfl hone
        | cons y r => simp at hx0; subst hx0; rw [← hk0]; rfl
      have hx0c : ∀ m : Hp, HpLe c2 m → ∃ g, A6 = some ⟨g, 0, none⟩ ∧ CellsAt m g 0 (encT x0) := fun m hm => by
        obtain ⟨g, capg, sp, hv, hcc, _⟩ := hO2.some_ encT_len (by decide) (List.length_pos_iff.2 hone)
        simp only [Value.slice.injEq] at hv
        refine ⟨g, hv.1, ?_⟩
        have h3 : CellsAt c2 g 0 (rows encT out2) := by
          rw [hcc]
          exact CellsAt.of_get fun j q hj => Go.Aw.one_cell g _ 32 _ q (by rw [List.getElem?_toArray, Nat.zero_add, List.getElem?_append_left (List.getElem?_eq_some_iff.1 hj).1]; exact hj)
        have := (h3.le hm).elem encT_len hx0
        simpa using this
      refine awp_mid (fun r mm => ∃ k1, k1 = tokQ (kv out2) ∧ r = [(0, .slice (some ⟨gl, X.length, none⟩) l.length cap), (1, .pointer (some ⟨pg, 0, none⟩)), (2, .pointer (some ⟨po, 0, none⟩)), (4, .pointer (some ⟨b4, 0, none⟩)), (6, .slice A6 out2.length cap6), (18, .int .i64 w), (19, .int .i64 p)] ∧
        mm = U [c2, Go.Aw.one b4 (.cells #[v4, .int .i64 tot] 32 (0, 0)), C4, oB po v, c, wB gl X l Y, Go.Aw.one b0 (.cells #[.string k1] 9 (0, 0)), M2] ∧ Dj [c2, Go.Aw.one b4 (.cells #[v4, .int .i64 tot] 32 (0, 0)), C4, oB po v, c, wB gl X l Y, Go.Aw.one b0 (.cells #[.string k1] 9 (0, 0)), M2]) (awp_rs ?_) ?_
      · refine ao_r (rig_move rfl rfl) rfl (ao_r (rig_lenSl rfl rfl Tryz.underlying23) rfl (ao_r (rig_gtr rfl rfl rfl) rfl (ao_nil ?_)))
        refine awp_if rfl (fun h2 => ?_) (fun h2 => ?_)
        · obtain ⟨g, rfl, hgc⟩ := hx0c _ (le_at 0 hDL rfl)
          obtain ⟨y0, y1, _⟩ := id hgc
          refine awp_region ?_
          refine ao_r (rig_move rfl rfl) rfl (ao_r (rig_ix 0 rfl rfl rfl Tryz.underlying23 Tryz.sizeOf32 rfl rfl (by omega)) rfl (ao_r (rig_fieldAddr rfl rfl Tryz.underlying32 rfl Tryz.sizeOf27 rfl) rfl (ao_r (rig_load1 rfl rfl Tryz.isAgg27 y0) rfl (ao_r (rig_ix 0 rfl rfl rfl Tryz.underlying27 Tryz.sizeOf9 hA0 rfl (by omega)) rfl ?_))))
          refine ao_x0 (ex_store (i := 6) rfl hDL rfl rfl Tryz.sizeOf9 (by simp [Value.cells, Value.oneCell']) rfl (by simp [Value.cells])) fun u m8 ⟨_, hm8, hD8⟩ => ao_nil ?_
          subst hm8
          exact ⟨[(0, .slice (some ⟨gl, X.length, none⟩) l.length cap), (1, .pointer (some ⟨pg, 0, none⟩)), (2, .pointer (some ⟨po, 0, none⟩)), (4, .pointer (some ⟨b4, 0, none⟩)), (6, .slice (some ⟨g, 0, none⟩) out2.length cap6), (18, .int .i64 w), (19, .int .i64 p)], ⟨rfl, rfl, rfl, rfl, rfl, rfl, rfl, trivial⟩, em, by rw [tokQ, if_pos (by rw [kv, List.length_map]; omega)], rfl, rfl, hD8⟩
        · refine awp_skip ⟨[(0, .slice (some ⟨gl, X.length, none⟩) l.length cap), (1, .pointer (some ⟨pg, 0, none⟩)), (2, .pointer (some ⟨po, 0, none⟩)), (4, .pointer (some ⟨b4, 0, none⟩)), (6, .slice A6 out2.length cap6), (18, .int .i64 w), (19, .int .i64 p)], ⟨rfl, rfl, rfl, rfl, rfl, rfl, rfl, trivial⟩, k0, ?_, rfl, rfl, hDL⟩
          rw [tokQ, if_neg (by rw [kv, List.length_map]; omega), hhd]; rfl
      · rintro r mm ⟨k1, hk1, rfl, rfl, hDk⟩
        obtain ⟨g, rfl, hgc⟩ := hx0c _ (le_at 0 hDk rfl)
        obtain ⟨y0, y1, _⟩ := id hgc
        obtain ⟨A4, cap4, rfl⟩ := hO4.len encS_len (by decide)
        have z0 : cell (U [c2, Go.Aw.one b4 (.cells #[.slice A4 acc.length cap4, .int .i64 tot] 32 (0, 0)), C4, oB po v, c, wB gl X l Y, Go.Aw.one b0 (.cells #[.string k1] 9 (0, 0)), M2]) b4 (0 + 0) = some (.slice A4 acc.length cap4) := cell_at 1 hDk rfl rfl
        have s0 : cell (U [c2, Go.Aw.one b4 (.cells #[.slice A4 acc.length cap4, .int .i64 tot] 32 (0, 0)), C4, oB po v, c, wB gl X l Y, Go.Aw.one b0 (.cells #[.string k1] 9 (0, 0)), M2]) b0 (0 + 0 * 1) = some (.string k1) := cell_at 6 hDk rfl rfl
        refine awp_draw (.q 0 (.q 1 (.q 2 (.q 3 (.q 4 (.q 5 (.q 6 (.q 7 (.s 8 (.s 9 (.q 10 (.s 11 .fin)))))))))))) [9, 11] (by kernel_rfl) (by kernel_rfl) ?_
        refine oq rfl (rig_fieldAddr rfl rfl Tryz.underlying32 rfl Tryz.sizeOf27 rfl) rfl (oq rfl (rig_load1 rfl rfl Tryz.isAgg27 z0) rfl (oq rfl (rig_move rfl rfl) rfl (oq rfl (rig_ix 0 rfl rfl rfl Tryz.underlying23 Tryz.sizeOf32 rfl rfl (List.length_pos_iff.2 hone)) rfl (oq rfl (rig_fieldAddr rfl rfl Tryz.underlying32 rfl Tryz.sizeOf27 rfl) rfl (oq rfl (rig_load1 rfl rfl Tryz.isAgg27 y0) rfl (oq rfl (rig_ix 0 rfl rfl rfl Tryz.underlying27 Tryz.sizeOf9 hA0 rfl (by omega)) rfl (oq rfl (rig_load1 rfl rfl Tryz.isAgg9 s0) rfl ?_)))))))
        refine os rfl (ex_buildSlice rfl hDk rfl Tryz.underlying27 Tryz.sizeOf9 Tryz.zeroValue9 (by decide) (by decide) (fill_one rfl (rangeMap_size _ _))) rfl fun u m3 ⟨b3, hu3, hm3, hD3⟩ => ⟨fun _ => by rw [hm3]; exact U_le_tail hD3, ?_⟩
        subst hu3 hm3
        have hsrc : Go.Aw.Src (U (Go.Aw.one b3 (.cells (Value.string k1).cells 9 (0, 0)) :: [c2, Go.Aw.one b4 (.cells #[.slice A4 acc.length cap4, .int .i64 tot] 32 (0, 0)), C4, oB po v, c, wB gl X l Y, Go.Aw.one b0 (.cells #[.string k1] 9 (0, 0)), M2])) 1 (.slice (some ⟨b3, 0, none⟩) 1 1) (rows encS [k1]) := src_one encS_len ((cellsAt_one b3 #[.string k1] 9).le U_le_head)
        refine os rfl (ex_append 3 (by_ := 16) rfl hD3 rfl rfl Tryz.underlying27 inf9 rfl (by decide) (by decide) hO4 rfl hsrc (one_rows encS_one _) (by rw [rows_length encS_len, rows_length encS_len]; simp; omega)) rfl fun u m4 ⟨C5, hO5, hm4, hD4⟩ => ⟨fun h => by simp at h, ?_⟩
        subst hm4
        refine oq rfl (rig_fieldAddr rfl rfl Tryz.underlying32 rfl Tryz.sizeOf27 rfl) rfl ?_
        rw [← rows_append] at hO5
        obtain ⟨A5, cap5, rfl⟩ := hO5.len encS_len (by decide)
        refine os0 rfl (ex_store (i := 2) rfl hD4 rfl rfl Tryz.sizeOf27 (by simp [Value.cells, Value.oneCell']) rfl (by simp [Value.cells])) fun u m5 ⟨_, hm5, hD5⟩ => ⟨fun h => by simp at h, ?_⟩
        subst hm5
        refine od_fin (hK3 _ _ (awp_region ?_))
        refine ao_r (rig_add (c := ((p + 1 : Nat) : Int)) rfl rfl rfl (w64 _ (by omega) (by omega))) rfl (ao_r (rig_move rfl rfl) rfl (ao_nil ?_))
        have hfin : U [Go.Aw.one b3 (.cells #[.string k1] 9 (0, 0)), c2, Go.Aw.one b4 (.cells #[.slice A5 (acc ++ [k1]).length cap5, .int .i64 tot] 32 (0, 0)), C5, oB po v, c, wB gl X l Y, Go.Aw.one b0 (.cells #[.string k1] 9 (0, 0)), M2] = U [Go.Aw.one b4 (.cells #[.slice A5 (acc ++ [k1]).length cap5, .int .i64 tot] 32 (0, 0)), C5, oB po v, c, wB gl X l Y, Go.Aw.one b3 (.cells #[.string k1] 9 (0, 0)), c2, Go.Aw.one b0 (.cells #[.string k1] 9 (0, 0)), M2] ∧ Dj [Go.Aw.one b4 (.cells #[.slice A5 (acc ++ [k1]).length cap5, .int .i64 tot] 32 (0, 0)), C5, oB po v, c, wB gl X l Y, Go.Aw.one b3 (.cells #[.string k1] 9 (0, 0)), c2, Go.Aw.one b0 (.cells #[.string k1] 9 (0, 0)), M2] := U_pm [2, 3, 4, 5, 6, 0, 1, 7, 8] rfl hD5
        refine ⟨[(0, .slice (some ⟨gl, X.length, none⟩) l.length cap), (1, .pointer (some ⟨pg, 0, none⟩)), (2, .pointer (some ⟨po, 0, none⟩)), (4, .pointer (some ⟨b4, 0, none⟩)), (18, .int .i64 w), (19, .int .i64 (p + 1 : Nat))], _, ⟨rfl, rfl, rfl, rfl, rfl, rfl, trivial⟩, by omega, p + 1, _, C5, acc ++ [k1], U [Go.Aw.one b3 (.cells #[.string k1] 9 (0, 0)), c2, Go.Aw.one b0 (.cells #[.string k1] 9 (0, 0)), M2], by omega, rfl, rfl, hfin.1.trans (U_flat [Go.Aw.one b4 (.cells #[.slice A5 (acc ++ [k1]).length cap5, .int .i64 tot] 32 (0, 0)), C5, oB po v, c, wB gl X l Y] _).symm, Dj_unflat (A := [Go.Aw.one b4 (.cells #[.slice A5 (acc ++ [k1]).length cap5, .int .i64 tot] 32 (0, 0)), C5, oB po v, c, wB gl X l Y]) hfin.2, hF.trans (hM2.trans (le_at 3 hfin.2.2.2.2.2.2 rfl)), hO5, by simp [hac], ?_⟩
        rw [hk1, hkv2, ← hwk, hws, walkQ_go h1]
  · obtain rfl : p = w := by omega
    refine awp_exit (hK1 _ _ (awp_region ?_))
    obtain ⟨A4, cap4, rfl⟩ := hO4.len encS_len (by decide)
    have z0 : CellsAt (U [Go.Aw.one b4 (.cells #[.slice A4 acc.length cap4, .int .i64 tot] 32 (0, 0)), C4, oB po v, c, wB gl X l Y, F1]) b4 0 [.slice A4 acc.length cap4, .int .i64 tot] := (cellsAt_one b4 #[.slice A4 acc.length cap4, .int .i64 tot] 32).le (le_at 0 hD1 rfl)
    have o0 : cell (U [Go.Aw.one b4 (.cells #[.slice A4 acc.length cap4, .int .i64 tot] 32 (0, 0)), C4, oB po v, c, wB gl X l Y, F1]) po 0 = some v := cell_at 2 hD1 rfl rfl
    refine ao_r (rig_load1 rfl rfl Tryz.isAgg23 o0) rfl (ao_r (rig_loadN (vs := [_, _]) rfl rfl Tryz.isAgg32 Tryz.sizeOf32 z0) rfl ?_)
    refine ao_x (ex_buildSlice rfl hD1 rfl Tryz.underlying23 Tryz.sizeOf32 Tryz.zeroValue32 (by decide) (by decide) (fill_one rfl (rangeMap_size _ _))) rfl fun u m3 ⟨b3, hu3, hm3, hD3⟩ => ?_
    subst hu3 hm3
    have hsrc : Go.Aw.Src (U (Go.Aw.one b3 (.cells #[.slice A4 acc.length cap4, .int .i64 tot] 32 (0, 0)) :: [Go.Aw.one b4 (.cells #[.slice A4 acc.length cap4, .int .i64 tot] 32 (0, 0)), C4, oB po v, c, wB gl X l Y, F1])) 2 (.slice (some ⟨b3, 0, none⟩) 1 1) (rows encT [⟨A4, acc.length, cap4, acc, tot⟩]) := src_one encT_len ((cellsAt_one b3 #[.slice A4 acc.length cap4, .int .i64 tot] 32).le U_le_head)
    refine ao_x (ex_append 4 (by_ := 32) rfl hD3 rfl rfl Tryz.underlying23 inf32 rfl (by decide) (by decide) hO rfl hsrc (one_rows encT_one _) (by rw [rows_length encT_len, rows_length encT_len]; simp; omega)) rfl fun u m4 ⟨C5, hO5, hm4, hD4⟩ => ?_
    subst hm4
    rw [← rows_append] at hO5
    obtain ⟨A5, cap5, rfl⟩ := hO5.len encT_len (by decide)
    refine ao_x0 (ex_store (i := 3) rfl hD4 rfl rfl Tryz.sizeOf23 (by simp [Value.cells, Value.oneCell']) rfl (by simp [Value.cells])) fun u m5 ⟨_, hm5, hD5⟩ => ao_nil ?_
    subst hm5
    refine ⟨_, res0 Tryz.results72, rfl, ?_⟩
    have hfin : U [Go.Aw.one b3 (.cells #[.slice A4 acc.length cap4, .int .i64 tot] 32 (0, 0)), Go.Aw.one b4 (.cells #[.slice A4 acc.length cap4, .int .i64 tot] 32 (0, 0)), C4, oB po (.slice A5 (outs ++ [(⟨A4, acc.length, cap4, acc, tot⟩ : Tm)]).length cap5), C5, wB gl X l Y, F1] = U [oB po (.slice A5 (outs ++ [(⟨A4, acc.length, cap4, acc, tot⟩ : Tm)]).length cap5), C5, wB gl X l Y, Go.Aw.one b3 (.cells #[.slice A4 acc.length cap4, .int .i64 tot] 32 (0, 0)), Go.Aw.one b4 (.cells #[.slice A4 acc.length cap4, .int .i64 tot] 32 (0, 0)), C4, F1] ∧ Dj [oB po (.slice A5 (outs ++ [(⟨A4, acc.length, cap4, acc, tot⟩ : Tm)]).length cap5), C5, wB gl X l Y, Go.Aw.one b3 (.cells #[.slice A4 acc.length cap4, .int .i64 tot] 32 (0, 0)), Go.Aw.one b4 (.cells #[.slice A4 acc.length cap4, .int .i64 tot] 32 (0, 0)), C4, F1] := U_pm [3, 4, 5, 0, 1, 2, 6] rfl hD5
    refine ⟨_, C5, l, U [Go.Aw.one b3 (.cells #[.slice A4 acc.length cap4, .int .i64 tot] 32 (0, 0)), Go.Aw.one b4 (.cells #[.slice A4 acc.length cap4, .int .i64 tot] 32 (0, 0)), C4, F1], [⟨A4, acc.length, cap4, acc, tot⟩], hfin.1.trans (U_flat [oB po (.slice A5 (outs ++ [(⟨A4, acc.length, cap4, acc, tot⟩ : Tm)]).length cap5), C5, wB gl X l Y] _).symm, Dj_unflat (A := [oB po (.slice A5 (outs ++ [(⟨A4, acc.length, cap4, acc, tot⟩ : Tm)]).length cap5), C5, wB gl X l Y]) hfin.2, hF.trans (le_at 3 hfin.2.2.2.2 rfl), List.Perm.refl _, hO5, fun t ht => ?_, by simp; omega, fun f hf => ?_⟩
    · obtain rfl : t = ⟨A4, acc.length, cap4, acc, tot⟩ := by simpa using ht
      exact RdSl.le hO4.rd (new_diff (Dj_two (i := 1) (j := 5) hD1 rfl rfl (by decide)) hF (le_at 2 hfin.2.2.2.2 rfl))
    · cases f with
      | zero => omega
      | succ f =>
        rw [mineQ, hwid, ← hwk, Nat.sub_self, walkQ]
        show [(acc, tot)] = [(acc, totQ (keys l))]
        rw [← hto, totS_keys]; rfl
theorem Fz72 (pg po w : Nat) (hw2 : w ≤ 1048576) : ∀ (n : Nat) (l : List Tm), l.length = n → l ≠ [] → (∀ t ∈ l, t.toks.length = w ∧ Cnt t) → Grp pg po l := by
  intro n
  induction n using Nat.strongRecOn with
  | _ n ih =>
    intro l hn hne hw
    exact Fz72s pg po w l hne hw hw2 fun l' hl' hne' hw' => ih l'.length (by omega) l' rfl hne' hw'
end Go.Proofs.YtmofaabndjnhjaaGreat
/- The program's side: mine. -/
set_option linter.unusedVariables false
namespace Go.Proofs.YtmofaabndjnhjaaGreat
open Go Go.Aw Go.Pl Go.RowKit
theorem ez56 : Enters Tryz.prog 56 := enters_of Tryz.func56 (by kernel_rfl) rfl
set_option maxHeartbeats 4000000 in
set_option maxRecDepth 100000 in
theorem Fz56 (c0 F : Hp) (v : Value) (l : List Tm) (w : Nat) (hO : Own 32 2 c0 v (rows encT l)) (hD : Dj [c0, F]) (hne : l ≠ []) (hw : ∀ t ∈ l, t.toks.length = w ∧ Cnt t) (hok : ∀ t ∈ l, t.Ok F) (hl : l.length ≤ 1048576) (hw2 : w ≤ 1048576) :
    GC Tryz.prog 56 #[v] (U [c0, F]) (fun u m' => ∃ c c1 F' out, Own 32 2 c u (rows encT out) ∧ m' = U [c, c1, F'] ∧ Dj [c, c1, F'] ∧ HpLe F F' ∧ (∀ t ∈ out, t.Ok (diff F' F)) ∧ keys out = mineQ l.length (keys l) ∧ out.length ≤ l.length) := by
  obtain ⟨gl, cap, sp, rfl, rfl, hsp, hcap, hcm⟩ := hO.some_ encT_len (by decide) (List.length_pos_iff.2 hne)
  refine gc_intro (vs := [_]) Tryz.func56 rfl Tryz.ntmps56 (by simp) ?_
  refine awp_rs (ao_r (rig_assign rfl rfl) rfl (ao_nil ?_))
  refine awp_rs (ao_x (ex_alloc rfl hD Tryz.zeroValue23) rfl fun u m1 ⟨po, hu, hm1, hD1⟩ => ao_nil ?_)
  subst hu hm1
  refine awp_rs (ao_x (ex_alloc rfl hD1 Tryz.zeroValue81) rfl fun u m2 ⟨pg, hu, hm2, hD2⟩ => ao_nil ?_)
  subst hu hm2
  refine awp_rs (ao_r (rig_makeFunc (fs := []) (cs := [_, _]) rfl rfl rfl) rfl ?_)
  refine ao_x0 (ex_store (i := 0) rfl hD2 rfl rfl Tryz.sizeOf81 (by simp [Value.cells, Value.oneCell']) rfl (by simp [Value.cells])) fun u m3 ⟨_, hm3, hD3⟩ => ao_nil ?_
  subst hm3
  have hst : U [Go.Aw.one pg (.cells #[.func (.func 72) #[] #[.pointer (some ⟨pg, 0, none⟩), .pointer (some ⟨po, 0, none⟩)]] 81 (0, 0)), oB po (.slice none 0 0), wB gl [] l sp, F] = U [oB po (.slice none 0 0), hp0, wB gl [] l sp, U [Go.Aw.one pg (.cells #[.func (.func 72) #[] #[.pointer (some ⟨pg, 0, none⟩), .pointer (some ⟨po, 0, none⟩)]] 81 (0, 0)), F]] ∧
      Dj [oB po (.slice none 0 0), hp0, wB gl [] l sp, U [Go.Aw.one pg (.cells #[.func (.func 72) #[] #[.pointer (some ⟨pg, 0, none⟩), .pointer (some ⟨po, 0, none⟩)]] 81 (0, 0)), F]] ∧ Dj [Go.Aw.one pg (.cells #[.func (.func 72) #[] #[.pointer (some ⟨pg, 0, none⟩), .pointer (some ⟨po, 0, none⟩)]] 81 (0, 0)), F] := by
    have h : U [hp0, Go.Aw.one pg (.cells #[.func (.func 72) #[] #[.pointer (some ⟨pg, 0, none⟩), .pointer (some ⟨po, 0, none⟩)]] 81 (0, 0)), oB po (.slice none 0 0), wB gl [] l sp, F] = U [oB po (.slice none 0 0), hp0, wB gl [] l sp, Go.Aw.one pg (.cells #[.func (.func 72) #[] #[.pointer (some ⟨pg, 0, none⟩), .pointer (some ⟨po, 0, none⟩)]] 81 (0, 0)), F] ∧
        Dj [oB po (.slice none 0 0), hp0, wB gl [] l sp, Go.Aw.one pg (.cells #[.func (.func 72) #[] #[.pointer (some ⟨pg, 0, none⟩), .pointer (some ⟨po, 0, none⟩)]] 81 (0, 0)), F] := U_pm [2, 0, 3, 1, 4] rfl (Dj_hp0 hD3)
    exact ⟨(U_hp0 _).symm.trans (h.1.trans (U_flat [oB po (.slice none 0 0), hp0, wB gl [] l sp] _).symm), Dj_unflat (A := [oB po (.slice none 0 0), hp0, wB gl [] l sp]) h.2, h.2.2.2.2⟩
  obtain ⟨hUe, hDe, hDpF⟩ := hst
  refine awp_L hUe ?_
  have hFp : HpLe F (U [Go.Aw.one pg (.cells #[.func (.func 72) #[] #[.pointer (some ⟨pg, 0, none⟩), .pointer (some ⟨po, 0, none⟩)]] 81 (0, 0)), F]) := le_at 1 hDpF rfl
  have hpg : U [Go.Aw.one pg (.cells #[.func (.func 72) #[] #[.pointer (some ⟨pg, 0, none⟩), .pointer (some ⟨po, 0, none⟩)]] 81 (0, 0)), F] pg = some (.cells #[.func (.func 72) #[] #[.pointer (some ⟨pg, 0, none⟩), .pointer (some ⟨po, 0, none⟩)]] 81 (0, 0)) := U_head (Go.Aw.one_self _ _)
  generalize U [Go.Aw.one pg (.cells #[.func (.func 72) #[] #[.pointer (some ⟨pg, 0, none⟩), .pointer (some ⟨po, 0, none⟩)]] 81 (0, 0)), F] = G at *
  have hg := Fz72 pg po w hw2 l.length l rfl hne hw gl cap [] sp (.slice none 0 0) hp0 [] G hDe (Own.nil 32 2) hpg (fun t ht => (hok t ht).le hFp) (by simpa using hl) hcap
  have hcell : cell (U [oB po (.slice none 0 0), hp0, wB gl [] l sp, G]) pg 0 = some (.func (.func 72) #[] #[.pointer (some ⟨pg, 0, none⟩), .pointer (some ⟨po, 0, none⟩)]) := cell_le (le_at 3 hDe rfl) (by simp [cell, hpg])
  refine awp_rs (ao_r (rig_load1 rfl rfl Tryz.isAgg81 hcell) rfl (ao_r (rig_move rfl rfl) rfl ?_))
  refine ao_x (ex_callv (R := fun u m' => u = .tuple #[] ∧ Out74 po gl [] sp l [] G (fun news => ∀ f, l.length ≤ f → keys news = mineQ f (keys l)) m') (vs := [.slice (some ⟨gl, 0, none⟩) l.length cap]) rfl rfl rfl ez72 (by simpa using hg)) rfl fun u m4 ⟨_, hout⟩ => ao_nil ?_
  obtain ⟨v3, c3, l3, F3, news, rfl, hD5, hF3, hperm, hO3, hnk, hnl, hS⟩ := hout
  have hcell2 : cell (U [oB po v3, c3, wB gl [] l3 sp, F3]) po 0 = some v3 := cell_at 0 hD5 rfl rfl
  refine awp_rs (ao_r (rig_load1 rfl rfl Tryz.isAgg23 hcell2) rfl (ao_r (rig_assign rfl rfl) rfl (ao_nil ?_)))
  have hfin : U [oB po v3, c3, wB gl [] l3 sp, F3] = U [c3, wB gl [] l3 sp, oB po v3, F3] ∧ Dj [c3, wB gl [] l3 sp, oB po v3, F3] := U_pm [1, 2, 0, 3] rfl hD5
  refine awp_ret ⟨_, res1 Tryz.results56 rfl, c3, wB gl [] l3 sp, U [oB po v3, F3], news, hO3, hfin.1.trans (U_flat [c3, wB gl [] l3 sp] _).symm, Dj_unflat (A := [c3, wB gl [] l3 sp]) hfin.2, hFp.trans (hF3.trans (le_at 1 hfin.2.2.2 rfl)), fun t ht => ((hnk t ht).le (diff_anti hFp)).le (diff_mono (le_at 1 hfin.2.2.2 rfl)), hS l.length (Nat.le_refl _), hnl⟩
end Go.Proofs.YtmofaabndjnhjaaGreat
