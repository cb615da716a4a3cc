/- The walks of the reference's small functions (chapters 1 and 14). -/
import Derived.Test.YtmofaabndjnhjaaGreatPlain
import Derived.Test.YtmofaabndjnhjaaGreatProg
import Derived.Test.YtmofaabndjnhjaaGreatHeap
set_option linter.unusedVariables false
namespace Go.Proofs.YtmofaabndjnhjaaGreat
open Go Go.Aw Go.RowKit
theorem inf32 : Inf Tryz.prog 32 (.agg #[.slice none 0 0, .int .i64 0]) 2 32 := inf_of (by kernel_rfl)
theorem inf9 : Inf Tryz.prog 9 (.string ⟨#[]⟩) 1 16 := inf_of (by kernel_rfl)
def sumS (a b : Int) : Int := if a > 9223372036854775807 - b then 9223372036854775807 else a + b
theorem ez37 : Enters Tryz.prog 37 := enters_of Tryz.func37 (by kernel_rfl) rfl
theorem Fz37 (m : Hp) (a b : Int) (ha : -9223372036854775808 ≤ a) (hb0 : 0 ≤ b) (hb : b ≤ 9223372036854775807) : RC Tryz.prog 37 #[.int .i64 a, .int .i64 b] m (.int .i64 (sumS a b)) := by
  refine rc_of_gc fun m1 hm => gc_intro (vs := [_, _]) Tryz.func37 rfl Tryz.ntmps37 (by simp) ?_
  refine awp_seq (awp_region (ao_r (rig_assign rfl rfl) rfl (ao_nil ?_)))
  refine awp_seq (awp_seq (awp_region ?_))
  refine ao_r (rig_move rfl rfl) rfl (ao_r (rig_move rfl rfl) rfl (ao_r (rig_sub rfl rfl rfl (w64 _ (by omega) (by omega))) rfl (ao_r (rig_gtr rfl rfl rfl) rfl (ao_nil ?_))))
  refine awp_if rfl (fun h => ?_) (fun h => ?_)
  · refine awp_seq (awp_region (ao_r (rig_assign rfl rfl) rfl (ao_nil ?_)))
    refine awp_ret ⟨_, res1 Tryz.results37 rfl, ?_, HpLe.refl _⟩
    simp [sumS, h]
  · refine awp_skip (awp_seq (awp_region ?_))
    refine ao_r (rig_move rfl rfl) rfl (ao_r (rig_move rfl rfl) rfl (ao_r (rig_add rfl rfl rfl (w64 _ (by omega) (by omega))) rfl (ao_r (rig_assign rfl rfl) rfl (ao_nil ?_))))
    refine awp_ret ⟨_, res1 Tryz.results37 rfl, ?_, HpLe.refl _⟩
    rw [sumS, if_neg (by omega)]
def isDigI (c : Int) : Bool := decide (48 ≤ c) && decide (c ≤ 57)
theorem isDigI_of (c : UInt8) : isDigI (c.toNat : Int) = isDig c := by
  unfold isDigI isDig
  rw [Bool.eq_iff_iff]; simp [UInt8.le_iff_toNat_le]; omega
theorem ez65 : Enters Tryz.prog 65 := enters_of Tryz.func65 (by kernel_rfl) rfl
theorem Fz65 (m : Hp) (c : Int) : RC Tryz.prog 65 #[.int .u8 c] m (.bool (isDigI c)) := by
  refine rc_of_gc fun m1 hm => gc_intro (vs := [_]) Tryz.func65 rfl Tryz.ntmps65 (by simp) ?_
  refine awp_seq (awp_region (ao_r (rig_assign rfl rfl) rfl (ao_nil ?_)))
  refine awp_seq (awp_region ?_)
  refine ao_r (rig_move rfl rfl) rfl (ao_r (rig_geq rfl rfl rfl) rfl (ao_r (rig_move rfl rfl) rfl ?_))
  by_cases h : 48 ≤ c
  · rw [decide_eq_true h]
    refine ao_on rfl rfl (ao_r (rig_move rfl rfl) rfl (ao_on rfl rfl (ao_r (rig_leq rfl rfl rfl) rfl (ao_r (rig_pickT rfl rfl rfl) rfl (ao_r (rig_assign rfl rfl) rfl (ao_nil ?_))))))
    refine awp_ret ⟨_, res1 Tryz.results65 rfl, ?_, HpLe.refl _⟩
    simp [isDigI, h]
  · rw [decide_eq_false h]
    refine ao_no rfl rfl rfl rfl (ao_no rfl rfl rfl rfl (ao_r (rig_pickF rfl rfl rfl) rfl (ao_r (rig_assign rfl rfl) rfl (ao_nil ?_))))
    refine awp_ret ⟨_, res1 Tryz.results65 rfl, ?_, HpLe.refl _⟩
    simp [isDigI, h]
theorem ez51 : Enters Tryz.prog 51 := enters_of Tryz.func51 (by kernel_rfl) rfl
set_option maxRecDepth 100000 in
theorem Fz51 (m : Hp) (s : ByteArray) (hs : s.size ≤ 1099511627776) : RC Tryz.prog 51 #[.string s] m (.bool (hasDig s.data.toList)) := by
  refine rc_of_gc fun m1 hm => gc_intro (vs := [_]) Tryz.func51 rfl Tryz.ntmps51 (by simp) ?_
  refine awp_rs ?_
  refine ao_r (rig_assign rfl rfl) rfl (ao_nil ?_)
  refine awp_sk fun K1 hK1 => ?_
  refine awp_rs ?_
  refine ao_r (rig_assign rfl rfl) rfl (ao_nil ?_)
  refine awp_block ?_
  refine awp_le [(0, .string s), (3, .int .i64 (0 : Nat))] ⟨rfl, rfl, trivial⟩ ?_
  refine awp_loop (fun k r mm => ∃ i : Nat, i ≤ s.size ∧ k = s.size - i ∧ r = [(0, .string s), (3, .int .i64 i)] ∧ mm = m1 ∧ hasDig (s.data.toList.take i) = false) s.size ⟨0, by omega, rfl, rfl, rfl, rfl⟩ ?_
  rintro k r mm ⟨i, hi, rfl, rfl, rfl, hj⟩
  refine awp_sk fun K2 hK2 => ?_
  refine awp_rs ?_
  refine ao_r (rig_move rfl rfl) rfl (ao_r (rig_move rfl rfl) rfl (ao_r (rig_lenStr rfl rfl Tryz.underlying9) rfl (ao_r (rig_lss rfl rfl rfl) rfl (ao_nil ?_))))
  refine awp_if rfl (fun h => ?_) (fun h => ?_)
  · refine awp_skip (hK2 _ _ (awp_sk fun K3 hK3 => awp_block (awp_rs ?_)))
    refine ao_r (rig_move rfl rfl) rfl (ao_r (rig_move rfl rfl) rfl (ao_r (rig_indexStr i rfl rfl rfl Tryz.underlying9 rfl (by omega)) rfl (ao_r (rig_call rfl rfl ez65 (Fz65 _ _)) rfl (ao_nil ?_))))
    rw [isDigI_of]
    have htk := hasDig_take (l := s.data.toList) (i := i) (by simp; omega)
    rw [hj, Bool.false_or] at htk
    rw [← htk]
    refine awp_cond rfl (fun h1 => ?_) (fun h1 => ?_)
    · refine awp_rs (ao_r (rig_assign rfl rfl) rfl (ao_nil ?_))
      refine awp_ret ⟨_, res1 Tryz.results51 rfl, ?_, HpLe.refl _⟩
      rw [hasDig_le h1]
    · refine awp_skip (hK3 _ _ (awp_region ?_))
      refine ao_r (rig_move rfl rfl) rfl (ao_r (rig_add rfl rfl rfl (w64 _ (by omega) (by omega))) rfl (ao_r (rig_assign rfl rfl) rfl (ao_nil ?_)))
      exact ⟨[(0, .string s), (3, .int .i64 (i + 1 : Nat))], s.size - (i + 1), ⟨rfl, rfl, trivial⟩, by omega, i + 1, by omega, rfl, rfl, rfl, h1⟩
  · refine awp_exit (hK1 _ _ (awp_rs (ao_r (rig_assign rfl rfl) rfl (ao_nil ?_))))
    refine awp_ret ⟨_, res1 Tryz.results51 rfl, ?_, HpLe.refl _⟩
    rw [List.take_of_length_le (by simp; omega)] at hj
    rw [hj]
def lessGo : List ByteArray → List ByteArray → Bool → Bool
  | a :: xs, b :: ys, d => if a = b then lessGo xs ys d else bless a b
  | _, _, d => d
def lessT (a b : Tm) : Bool := if a.toks.length = b.toks.length then lessGo a.toks b.toks (decide (a.cnt < b.cnt)) else decide (a.toks.length < b.toks.length)
theorem lessGo_drop {xs ys : List ByteArray} {d : Bool} {i : Nat} {x y : ByteArray} (hx : xs[i]? = some x) (hy : ys[i]? = some y) : lessGo (xs.drop i) (ys.drop i) d = if x = y then lessGo (xs.drop (i + 1)) (ys.drop (i + 1)) d else bless x y := by
  rw [List.drop_eq_getElem_cons (List.getElem?_eq_some_iff.1 hx).1, List.drop_eq_getElem_cons (List.getElem?_eq_some_iff.1 hy).1]
  rw [(List.getElem?_eq_some_iff.1 hx).2, (List.getElem?_eq_some_iff.1 hy).2]
  rfl
theorem ez45 : Enters Tryz.prog 45 := enters_of Tryz.func45 (by kernel_rfl) rfl
set_option maxRecDepth 100000 in
theorem Fz45 (m : Hp) (a b : Tm) (ha : a.Ok m) (hb : b.Ok m) (hl : a.toks.length ≤ 1099511627776) : RC Tryz.prog 45 #[a.val, b.val] m (.bool (lessT a b)) := by
  refine rc_of_gc fun m1 hm => gc_intro (vs := [_, _]) Tryz.func45 rfl Tryz.ntmps45 (by simp) ?_
  refine awp_rs ?_
  refine ao_x (ex_boxR rfl rfl) rfl fun v m2 ⟨p2, hv, hl2, hc2⟩ => ?_   -- 0 t2 := box 33 t0
  subst hv
  refine ao_x (ex_boxR rfl rfl) rfl fun v m3 ⟨p3, hv, hl3, hc3⟩ => ?_   -- 1 t3 := box 33 t1
  subst hv
  obtain ⟨a0, a1, _⟩ := hc2.le hl3
  obtain ⟨b0, b1, _⟩ := hc3
  have ha' := ha.le ((hm.trans hl2).trans hl3)
  have hb' := hb.le ((hm.trans hl2).trans hl3)
  have hle : HpLe m1 m3 := hl2.trans hl3
  have na := ha.len
  have nb := hb.len
  refine ao_r (rig_assign rfl rfl) rfl (ao_nil ?_)
  refine awp_sk fun K1 hK1 => ?_
  refine awp_rs ?_
  refine ao_r (rig_fieldAddr rfl rfl Tryz.underlying32 rfl Tryz.sizeOf27 rfl) rfl (ao_r (rig_load1 rfl rfl Tryz.isAgg27 (by assumption)) rfl (ao_r (rig_lenSl rfl rfl Tryz.underlying27) rfl (ao_r (rig_fieldAddr rfl rfl Tryz.underlying32 rfl Tryz.sizeOf27 rfl) rfl (ao_r (rig_load1 rfl rfl Tryz.isAgg27 (by assumption)) rfl (ao_r (rig_lenSl rfl rfl Tryz.underlying27) rfl (ao_r (rig_neq rfl rfl rfl) rfl (ao_nil ?_)))))))
  refine awp_ifn rfl (fun h => ?_) (fun h => ?_)
  · refine awp_rs ?_
    refine ao_r (rig_fieldAddr rfl rfl Tryz.underlying32 rfl Tryz.sizeOf27 rfl) rfl (ao_r (rig_load1 rfl rfl Tryz.isAgg27 (by assumption)) rfl (ao_r (rig_lenSl rfl rfl Tryz.underlying27) rfl (ao_r (rig_fieldAddr rfl rfl Tryz.underlying32 rfl Tryz.sizeOf27 rfl) rfl (ao_r (rig_load1 rfl rfl Tryz.isAgg27 (by assumption)) rfl (ao_r (rig_lenSl rfl rfl Tryz.underlying27) rfl (ao_r (rig_lss rfl rfl rfl) rfl (ao_r (rig_assign rfl rfl) rfl (ao_nil ?_))))))))
    refine awp_ret ⟨_, res1 Tryz.results45 rfl, ?_, hle⟩
    rw [lessT, if_neg (by omega), na, nb]
    congr 2
    exact propext (by omega)
  · refine awp_skip (hK1 _ _ (awp_sk fun K2 hK2 => awp_rs ?_))
    refine ao_r (rig_assign rfl rfl) rfl (ao_nil ?_)
    refine awp_block ?_
    refine awp_le [(2, .pointer (some ⟨p2, 0, none⟩)), (3, .pointer (some ⟨p3, 0, none⟩)), (5, .int .i64 (0 : Nat))] ⟨rfl, rfl, rfl, trivial⟩ ?_
    refine awp_loop (fun k r mm => ∃ i : Nat, i ≤ a.toks.length ∧ k = a.toks.length - i ∧ r = [(2, .pointer (some ⟨p2, 0, none⟩)), (3, .pointer (some ⟨p3, 0, none⟩)), (5, .int .i64 i)] ∧ mm = m3 ∧ lessT a b = lessGo (a.toks.drop i) (b.toks.drop i) (decide (a.cnt < b.cnt))) _ ⟨0, by omega, rfl, rfl, rfl, by rw [lessT, if_pos (by omega)]; rfl⟩ ?_
    rintro k r mm ⟨i, hi, rfl, rfl, rfl, hL⟩
    refine awp_sk fun K3 hK3 => ?_
    refine awp_rs ?_
    refine ao_r (rig_move rfl rfl) rfl (ao_r (rig_fieldAddr rfl rfl Tryz.underlying32 rfl Tryz.sizeOf27 rfl) rfl (ao_r (rig_load1 rfl rfl Tryz.isAgg27 (by assumption)) rfl (ao_r (rig_lenSl rfl rfl Tryz.underlying27) rfl (ao_r (rig_lss rfl rfl rfl) rfl (ao_nil ?_)))))
    refine awp_if rfl (fun h => ?_) (fun h => ?_)
    · refine awp_skip (hK3 _ _ (awp_sk fun K4 hK4 => awp_block ?_))
      obtain ⟨x, hx⟩ := get_lt (l := a.toks) (i := i) (by omega)
      obtain ⟨y, hy⟩ := get_lt (l := b.toks) (i := i) (by omega)
      obtain ⟨xb, xo, hxA, hxc⟩ := ha'.get hx
      obtain ⟨yb, yo, hyA, hyc⟩ := hb'.get hy
      rw [lessGo_drop hx hy] at hL
      refine awp_ds (.q 0 (.q 1 (.q 2 (.q 3 (.q 4 (.q 5 (.q 6 (.q 7 (.q 8 (.q 9 (.q 10 .fin))))))))))) [] (by kernel_rfl) (by kernel_rfl) ?_
      refine oq rfl (rig_fieldAddr rfl rfl Tryz.underlying32 rfl Tryz.sizeOf27 rfl) rfl (oq rfl (rig_load1 rfl rfl Tryz.isAgg27 (by assumption)) rfl (oq rfl (rig_move rfl rfl) rfl (oq rfl (rig_ix i rfl rfl rfl Tryz.underlying27 Tryz.sizeOf9 (by first | rfl | assumption) rfl (by omega)) rfl (oq rfl (rig_load1 rfl rfl Tryz.isAgg9 (by assumption)) rfl (oq rfl (rig_fieldAddr rfl rfl Tryz.underlying32 rfl Tryz.sizeOf27 rfl) rfl (oq rfl (rig_load1 rfl rfl Tryz.isAgg27 (by assumption)) rfl (oq rfl (rig_move rfl rfl) rfl (oq rfl (rig_ix i rfl rfl rfl Tryz.underlying27 Tryz.sizeOf9 (by first | rfl | assumption) rfl (by omega)) rfl (oq rfl (rig_load1 rfl rfl Tryz.isAgg9 (by assumption)) rfl (oq rfl (rig_sneq rfl rfl rfl) rfl (od_fin ?_)))))))))))
      refine awp_ifn rfl (fun h1 => ?_) (fun h1 => ?_)
      · refine awp_ds (.q 0 (.q 1 (.q 2 (.q 3 (.q 4 (.q 5 (.q 6 (.q 7 (.q 8 (.q 9 (.q 10 (.q 11 .fin)))))))))))) [] (by kernel_rfl) (by kernel_rfl) ?_
        refine oq rfl (rig_fieldAddr rfl rfl Tryz.underlying32 rfl Tryz.sizeOf27 rfl) rfl (oq rfl (rig_load1 rfl rfl Tryz.isAgg27 (by assumption)) rfl (oq rfl (rig_move rfl rfl) rfl (oq rfl (rig_ix i rfl rfl rfl Tryz.underlying27 Tryz.sizeOf9 (by first | rfl | assumption) rfl (by omega)) rfl (oq rfl (rig_load1 rfl rfl Tryz.isAgg9 (by assumption)) rfl (oq rfl (rig_fieldAddr rfl rfl Tryz.underlying32 rfl Tryz.sizeOf27 rfl) rfl (oq rfl (rig_load1 rfl rfl Tryz.isAgg27 (by assumption)) rfl (oq rfl (rig_move rfl rfl) rfl (oq rfl (rig_ix i rfl rfl rfl Tryz.underlying27 Tryz.sizeOf9 (by first | rfl | assumption) rfl (by omega)) rfl (oq rfl (rig_load1 rfl rfl Tryz.isAgg9 (by assumption)) rfl (oq rfl (rig_slss rfl rfl rfl) rfl (oq rfl (rig_assign rfl rfl) rfl (od_fin ?_))))))))))))
        refine awp_ret ⟨_, res1 Tryz.results45 rfl, ?_, hle⟩
        rw [hL, if_neg h1]; rfl
      · refine awp_skip (hK4 _ _ (awp_region ?_))
        refine ao_r (rig_move rfl rfl) rfl (ao_r (rig_add rfl rfl rfl (w64 _ (by omega) (by omega))) rfl (ao_r (rig_assign rfl rfl) rfl (ao_nil ?_)))
        exact ⟨[(2, .pointer (some ⟨p2, 0, none⟩)), (3, .pointer (some ⟨p3, 0, none⟩)), (5, .int .i64 (i + 1 : Nat))], _, ⟨rfl, rfl, rfl, trivial⟩, by omega, i + 1, by omega, rfl, rfl, rfl, by rw [hL, if_pos h1]⟩
    · refine awp_exit (hK2 _ _ (awp_rs ?_))
      refine ao_r (rig_fieldAddr rfl rfl Tryz.underlying32 rfl Tryz.sizeOf3 rfl) rfl (ao_r (rig_load1 rfl rfl Tryz.isAgg3 (by assumption)) rfl (ao_r (rig_fieldAddr rfl rfl Tryz.underlying32 rfl Tryz.sizeOf3 rfl) rfl (ao_r (rig_load1 rfl rfl Tryz.isAgg3 (by assumption)) rfl (ao_r (rig_lss rfl rfl rfl) rfl (ao_r (rig_assign rfl rfl) rfl (ao_nil ?_))))))
      refine awp_ret ⟨_, res1 Tryz.results45 rfl, ?_, hle⟩
      rw [hL, List.drop_of_length_le (by omega), List.drop_of_length_le (by omega)]; rfl
end Go.Proofs.YtmofaabndjnhjaaGreat
/- The walk of the reference's Insert. -/
set_option linter.unusedVariables false
namespace Go.Proofs.YtmofaabndjnhjaaGreat
open Go Go.Aw Go.RowKit
/-- insertion from the end, on the list turned round -/
def insRev : List Tm → Tm → List Tm
  | [], t => [t]
  | x :: xs, t => if lessT t x then x :: insRev xs t else t :: x :: xs
def insT (l : List Tm) (t : Tm) : List Tm := (insRev l.reverse t).reverse
theorem insT_nil (t : Tm) : insT [] t = [t] := rfl
theorem insT_snoc (l : List Tm) (x t : Tm) : insT (l ++ [x]) t = if lessT t x then insT l t ++ [x] else l ++ [x, t] := by
  simp only [insT, List.reverse_append, List.reverse_cons, List.reverse_nil, List.nil_append, List.singleton_append, insRev]
  split <;> simp
theorem ez55 : Enters Tryz.prog 55 := enters_of Tryz.func55 (by kernel_rfl) rfl
set_option maxRecDepth 100000 in
theorem Fz55 (m : Hp) (v : Value) (l : List Tm) (t : Tm) (hv : Tms m v l) (hok : ∀ x ∈ l, x.Ok m) (ht : t.Ok m) (hl : l.length ≤ 16777216) (htl : t.toks.length ≤ 16777216) :
    GC Tryz.prog 55 #[v, t.val] m (Fresh m fun u c F => Own 32 2 c u (rows encT (insT l t))) := by
  obtain ⟨A, cap, rfl, hA⟩ := RdSl.form encT_len (by decide) hv
  refine gc_intro (vs := [_, _]) Tryz.func55 rfl Tryz.ntmps55 (by simp) ?_
  refine awp_u (awp_rs ?_)
  refine ao_x (ex_box rfl (Dj_single m) rfl) rfl fun v m2 ⟨p3, hu, hm, hD⟩ => ?_   -- 0 t3 := box 33 t1
  subst hu hm
  refine ao_r (rig_assign rfl rfl) rfl (ao_nil ?_)
  refine awp_rs ?_
  refine ao_r (rig_move rfl rfl) rfl (ao_r (rig_lenSl rfl rfl Tryz.underlying23) rfl (ao_r (rig_assign rfl rfl) rfl (ao_nil ?_)))
  have hbox : CellsAt (Go.Aw.one p3 (.cells t.val.cells 32 (0, 0))) p3 0 [.slice t.A t.n t.cap, .int .i64 t.cnt] := cellsAt_one p3 t.val.cells 32
  refine awp_mid (fun r mm => ∃ c w F, Dj [c, F, m] ∧ mm = U [c, F, m] ∧ Own 32 2 c w (rows encT (l ++ [t])) ∧ CellsAt F p3 0 [.slice t.A t.n t.cap, .int .i64 t.cnt] ∧ r = [(3, .pointer (some ⟨p3, 0, none⟩)), (5, .int .i64 l.length), (6, w)]) ?_ ?_
  · refine awp_draw (.q 0 (.q 2 (.b 1 (.s 3 (.s 4 (.q 5 .fin))) 3 (.s 1 (.s 4 (.q 5 .fin)))))) [4] (by kernel_rfl) (by kernel_rfl) ?_
    have hc := hbox.le (U_le_head (cs := [m]))
    have hsrc : Go.Aw.Src (U [Go.Aw.one p3 (.cells t.val.cells 32 (0, 0)), m]) 2 (.slice A l.length cap) (rows encT l) := hv.le (le_at 1 hD rfl)
    refine oq rfl (rig_move rfl rfl) rfl (oq rfl (rig_loadN (vs := [_, _]) rfl rfl Tryz.isAgg32 Tryz.sizeOf32 (by assumption)) rfl (od_b ?_ ?_))
    · refine os rfl (ex_appendNil (by_ := 32) rfl hD rfl rfl Tryz.underlying23 inf32 rfl (by decide) (by decide) hsrc (one_rows encT_one l) (by rw [rows_length encT_len]; omega)) rfl fun w1 m1 ⟨c1, hO1, hm1, hD1⟩ => ⟨fun _ => by subst hm1; exact U_le_tail hD1, ?_⟩
      subst hm1
      refine os rfl (ex_buildSlice rfl hD1 rfl Tryz.underlying23 Tryz.sizeOf32 Tryz.zeroValue32 (by decide) (by decide) (fill_one rfl (rangeMap_size _ _))) rfl fun w2 m2 ⟨b2, hw2, hm2, hD2⟩ => ⟨fun _ => by subst hm2; exact U_le_tail hD2, ?_⟩
      subst hw2 hm2
      refine os rfl (ex_append 1 (by_ := 32) rfl hD2 rfl rfl Tryz.underlying23 inf32 rfl (by decide) (by decide) hO1 rfl (src_one (x := t) encT_len ((cellsAt_one _ _ _).le U_le_head)) (one_rows encT_one _) (by rw [rows_length encT_len, rows_length encT_len]; simp; omega)) rfl fun w3 m3 ⟨c3, hO3, hm3, hD3⟩ => ⟨fun h => by simp at h, ?_⟩
      subst hm3
      refine oq rfl (rig_assign rfl rfl) rfl (od_fin ?_)
      obtain ⟨e1, hD4⟩ := U_swap 0 hD3
      obtain ⟨e2, hD5⟩ := U_merge 1 hD4
      exact ⟨[(3, .pointer (some ⟨p3, 0, none⟩)), (5, .int .i64 l.length), (6, w3)], ⟨rfl, rfl, rfl, trivial⟩, c3, w3, _, hD5, e1.trans e2, by rw [rows_append]; exact hO3, hbox.le (le_at 1 (Dj_init (A := [_, _]) (B := [m]) hD4.2) rfl), rfl⟩
    · refine os rfl (ex_buildSlice rfl hD rfl Tryz.underlying23 Tryz.sizeOf32 Tryz.zeroValue32 (by decide) (by decide) (fill_one rfl (rangeMap_size _ _))) rfl fun w2 m2 ⟨b2, hw2, hm2, hD2⟩ => ⟨fun _ => by subst hm2; exact U_le_tail hD2, ?_⟩
      subst hw2 hm2
      refine os rfl (ex_appendNil (by_ := 32) rfl hD2 rfl rfl Tryz.underlying23 inf32 rfl (by decide) (by decide) (hsrc.le (U_le_tail hD2)) (one_rows encT_one l) (by rw [rows_length encT_len]; omega)) rfl fun w1 m1 ⟨c1, hO1, hm1, hD1⟩ => ⟨fun _ => by subst hm1; exact U_le_tail hD1, ?_⟩
      subst hm1
      refine os rfl (ex_append 0 (by_ := 32) rfl hD1 rfl rfl Tryz.underlying23 inf32 rfl (by decide) (by decide) hO1 rfl (src_one (x := t) encT_len ((cellsAt_one _ _ _).le (le_at 1 hD1 rfl))) (one_rows encT_one _) (by rw [rows_length encT_len, rows_length encT_len]; simp; omega)) rfl fun w3 m3 ⟨c3, hO3, hm3, hD3⟩ => ⟨fun h => by simp at h, ?_⟩
      subst hm3
      refine oq rfl (rig_assign rfl rfl) rfl (od_fin ?_)
      obtain ⟨e2, hD5⟩ := U_merge 1 hD3
      exact ⟨[(3, .pointer (some ⟨p3, 0, none⟩)), (5, .int .i64 l.length), (6, w3)], ⟨rfl, rfl, rfl, trivial⟩, c3, w3, _, hD5, e2, by rw [rows_append]; exact hO3, hbox.le (le_at 1 (Dj_init (A := [_, _]) (B := [m]) hD3.2) rfl), rfl⟩
  · rintro r mm ⟨c, w, F, hD1, rfl, hO, hbx, rfl⟩
    obtain ⟨g, cap2, sp, rfl, rfl, hsp, hn, hcm⟩ := hO.some_ encT_len (by decide) (by simp)
    have hbm : ∀ c, Dj [c, F, m] → CellsAt (U [c, F, m]) p3 0 [.slice t.A t.n t.cap, .int .i64 t.cnt] := fun c hd => hbx.le (le_at 1 hd rfl)
    have hlen : (l ++ [t]).length = l.length + 1 := by simp
    rw [hlen] at hn ⊢
    refine awp_sk fun K1 hK1 => ?_
    have fin : ∀ (kk : Nat) (z : Tm) (r : Env), kk ≤ l.length → Dj [Go.Aw.one g (.cells (rows encT (l.take kk ++ z :: l.drop kk) ++ sp).toArray 32 (0, 0)), F, m] → insT l t = l.take kk ++ t :: l.drop kk →
        EnvLe [(3, .pointer (some ⟨p3, 0, none⟩)), (5, .int .i64 kk), (6, .slice (some ⟨g, 0, none⟩) (l.length + 1) cap2)] r → K1 r (U [Go.Aw.one g (.cells (rows encT (l.take kk ++ z :: l.drop kk) ++ sp).toArray 32 (0, 0)), F, m]) := by
      intro kk z r hk hd hI hle
      have b1 := hbm _ hd
      have hz : (l.take kk ++ z :: l.drop kk).length = l.length + 1 := by simp; omega
      refine hK1 _ _ (awp_le _ hle (awp_rs ?_))
      refine ao_r (rig_move rfl rfl) rfl (ao_r (rig_move rfl rfl) rfl (ao_r (rig_loadN (vs := [_, _]) rfl rfl Tryz.isAgg32 Tryz.sizeOf32 b1) rfl (ao_r (rig_ix kk rfl rfl rfl Tryz.underlying23 Tryz.sizeOf32 rfl rfl (by omega)) rfl ?_)))
      refine ao_x0 (ex_store (i := 0) rfl hd rfl rfl Tryz.sizeOf32 (by simp [Value.cells, Value.oneCell']) rfl (by simp [Value.cells, rows_length encT_len, hz]; omega)) fun u m2 ⟨_, hm2, hd2⟩ => ?_
      subst hm2
      rw [show (Value.agg #[Value.slice t.A t.n t.cap, Value.int .i64 t.cnt]).cells.toList = encT t from rfl, Nat.zero_add, putR_rows encT_len _ kk t sp (by omega)] at hd2 ⊢
      have hset : (l.take kk ++ z :: l.drop kk).set kk t = insT l t := by
        rw [hI, List.set_append_right _ _ (by simp; omega)]; simp [Nat.min_eq_left hk]
      rw [hset] at hd2 ⊢
      refine ao_nil (awp_rs ?_)
      refine ao_r (rig_move rfl rfl) rfl (ao_r (rig_assign rfl rfl) rfl (ao_nil ?_))
      have hln : (insT l t).length = l.length + 1 := by rw [hI]; simp; omega
      refine awp_ret ⟨_, res1 Tryz.results55 rfl, _, F, hd2, rfl, ?_⟩
      rw [← hln]
      refine Own.mk_ encT_len ?_ (by omega) hcm
      rw [List.length_append, rows_length encT_len] at hsp ⊢
      rw [hln]; simpa using hsp
    refine awp_block (awp_loop (fun k r mm => ∃ z, k ≤ l.length ∧ r = [(3, .pointer (some ⟨p3, 0, none⟩)), (5, .int .i64 (k : Int)), (6, .slice (some ⟨g, 0, none⟩) (l.length + 1) cap2)] ∧ mm = U [Go.Aw.one g (.cells (rows encT (l.take k ++ z :: l.drop k) ++ sp).toArray 32 (0, 0)), F, m] ∧ Dj [Go.Aw.one g (.cells (rows encT (l.take k ++ z :: l.drop k) ++ sp).toArray 32 (0, 0)), F, m] ∧ insT l t = insT (l.take k) t ++ l.drop k) l.length ⟨t, by omega, rfl, by simp, by simpa using hD1, by simp⟩ ?_)
    rintro k r mm ⟨z, hk, rfl, rfl, hd, hI⟩
    have b1 := hbm _ hd
    have hz : (l.take k ++ z :: l.drop k).length = l.length + 1 := by simp; omega
    refine awp_sk fun K2 hK2 => ?_
    refine awp_ds (.q 0 (.q 1 (.q 2 (.q 3 (.q 4 (.q 5 (.q 6 (.q 7 (.q 8 (.q 9 (.q 10 .fin))))))))))) [] (by kernel_rfl) (by kernel_rfl) ?_
    refine oq rfl (rig_move rfl rfl) rfl (oq rfl (rig_gtr rfl rfl rfl) rfl (oq rfl (rig_move rfl rfl) rfl ?_))
    by_cases hk0 : 0 < k
    · rw [decide_eq_true (by omega)]
      obtain ⟨j, rfl⟩ : ∃ j, k = j + 1 := ⟨k - 1, by omega⟩
      obtain ⟨x, hx⟩ := get_lt (l := l) (i := j) (by omega)
      have hx2 : (l.take (j + 1) ++ z :: l.drop (j + 1))[j]? = some x := by
        rw [List.getElem?_append_left (by simp; omega), List.getElem?_take_of_lt (by omega)]; exact hx
      have c2 : CellsAt (U [Go.Aw.one g (.cells (rows encT (l.take (j + 1) ++ z :: l.drop (j + 1)) ++ sp).toArray 32 (0, 0)), F, m]) g (0 + j * 2) (encT x) := by
        refine CellsAt.elem (l := l.take (j + 1) ++ z :: l.drop (j + 1)) encT_len ?_ hx2
        exact (CellsAt.sub (vs := (rows encT (l.take (j + 1) ++ z :: l.drop (j + 1)) ++ sp)) 0 (cellsAt_one g _ 32) (fun q v hq => by rw [Nat.zero_add, List.getElem?_append_left (List.getElem?_eq_some_iff.1 hq).1]; exact hq)).le U_le_head
      have hxo : x.Ok m := hok x (List.mem_of_getElem? hx)
      refine oqon rfl rfl rfl (rig_loadN (vs := [_, _]) rfl rfl Tryz.isAgg32 Tryz.sizeOf32 b1) rfl ?_
      refine oqon rfl rfl rfl (rig_move rfl rfl) rfl ?_
      refine oqon rfl rfl rfl (rig_move rfl rfl) rfl ?_
      refine oqon rfl rfl rfl (rig_sub rfl rfl rfl (show IntKind.i64.wrap (((j + 1 : Nat) : Int) - 1) = (j : Int) by rw [show (((j + 1 : Nat) : Int) - 1) = (j : Int) by omega]; exact w64 _ (by omega) (by omega))) rfl ?_
      refine oqon rfl rfl rfl (rig_ix j rfl rfl rfl Tryz.underlying23 Tryz.sizeOf32 rfl rfl (by omega)) rfl ?_
      refine oqon rfl rfl rfl (rig_loadN (vs := encT x) rfl rfl Tryz.isAgg32 Tryz.sizeOf32 c2) rfl ?_
      refine oqon rfl rfl rfl (rig_call rfl rfl ez45 (Fz45 _ t x (ht.le (le_at 2 hd rfl)) (hxo.le (le_at 2 hd rfl)) (by omega))) rfl ?_
      refine oq rfl (rig_pickT rfl rfl rfl) rfl (od_fin ?_)
      have htk : l.take (j + 1) = l.take j ++ [x] := by
        rw [List.take_succ_eq_append_getElem (by omega), (List.getElem?_eq_some_iff.1 hx).2]
      have hdk : l.drop j = x :: l.drop (j + 1) := by
        rw [List.drop_eq_getElem_cons (by omega), (List.getElem?_eq_some_iff.1 hx).2]
      refine awp_cond rfl (fun h1 => ?_) (fun h1 => ?_)
      · refine awp_skip (hK2 _ _ (awp_block (awp_rs ?_)))
        refine ao_r (rig_move rfl rfl) rfl (ao_r (rig_move rfl rfl) rfl (ao_r (rig_move rfl rfl) rfl (ao_r (rig_move rfl rfl) rfl (ao_r (rig_sub rfl rfl rfl (show IntKind.i64.wrap (((j + 1 : Nat) : Int) - 1) = (j : Int) by rw [show (((j + 1 : Nat) : Int) - 1) = (j : Int) by omega]; exact w64 _ (by omega) (by omega))) rfl (ao_r (rig_ix j rfl rfl rfl Tryz.underlying23 Tryz.sizeOf32 rfl rfl (by omega)) rfl (ao_r (rig_loadN (vs := encT x) rfl rfl Tryz.isAgg32 Tryz.sizeOf32 c2) rfl (ao_r (rig_ix (j + 1) rfl rfl rfl Tryz.underlying23 Tryz.sizeOf32 rfl rfl (by omega)) rfl ?_)))))))
        refine ao_x0 (ex_store (i := 0) rfl hd rfl rfl Tryz.sizeOf32 (encT_one x) rfl (by simp [Value.cells, encT, rows_length encT_len, hz]; omega)) fun u m2 ⟨_, hm2, hd2⟩ => ?_
        subst hm2
        rw [show (Value.agg (encT x).toArray).cells.toList = encT x from rfl, Nat.zero_add, putR_rows encT_len _ (j + 1) x sp (by omega)] at hd2 ⊢
        have hset : (l.take (j + 1) ++ z :: l.drop (j + 1)).set (j + 1) x = l.take j ++ x :: l.drop j := by
          rw [List.set_append_right _ _ (by simp; omega), htk, hdk]; simp [Nat.min_eq_left (show j ≤ l.length by omega)]
        rw [hset] at hd2 ⊢
        refine ao_nil (awp_region ?_)
        refine ao_r (rig_move rfl rfl) rfl (ao_r (rig_sub rfl rfl rfl (show IntKind.i64.wrap (((j + 1 : Nat) : Int) - 1) = (j : Int) by rw [show (((j + 1 : Nat) : Int) - 1) = (j : Int) by omega]; exact w64 _ (by omega) (by omega))) rfl (ao_r (rig_assign rfl rfl) rfl (ao_nil ?_)))
        refine ⟨[(3, .pointer (some ⟨p3, 0, none⟩)), (5, .int .i64 (j : Int)), (6, .slice (some ⟨g, 0, none⟩) (l.length + 1) cap2)], j, ⟨rfl, rfl, rfl, trivial⟩, by omega, x, by omega, rfl, rfl, hd2, ?_⟩
        rw [hI, htk, insT_snoc, if_pos h1, hdk]; simp
      · refine awp_exit (fin (j + 1) z _ hk hd ?_ ⟨rfl, rfl, rfl, trivial⟩)
        rw [hI, htk, insT_snoc, if_neg (by simp [h1])]; simp
    · rw [decide_eq_false (by omega)]
      obtain rfl : k = 0 := by omega
      refine oqno rfl rfl rfl rfl rfl (oqno rfl rfl rfl rfl rfl (oqno rfl rfl rfl rfl rfl (oqno rfl rfl rfl rfl rfl (oqno rfl rfl rfl rfl rfl (oqno rfl rfl rfl rfl rfl (oqno rfl rfl rfl rfl rfl (oq rfl (rig_pickF rfl rfl rfl) rfl (od_fin ?_))))))))
      refine awp_false rfl (awp_exit (fin 0 z _ hk hd ?_ ⟨rfl, rfl, rfl, trivial⟩))
      rw [hI]; rfl
end Go.Proofs.YtmofaabndjnhjaaGreat
/- The walks of the reference's Fields and Tokens. -/
set_option linter.unusedVariables false
namespace Go.Proofs.YtmofaabndjnhjaaGreat
open Go Go.Aw Go.RowKit
def isSpI (c : Int) : Bool := decide (c = 32) || decide (c = 9)
theorem isSpI_of (c : UInt8) : isSpI (c.toNat : Int) = isSp c := by
  unfold isSpI isSp
  rw [Bool.eq_iff_iff]; simp [← UInt8.toNat_inj]; omega
theorem ez66 : Enters Tryz.prog 66 := enters_of Tryz.func66 (by kernel_rfl) rfl
theorem Fz66 (m : Hp) (c : Int) : RC Tryz.prog 66 #[.int .u8 c] m (.bool (isSpI c)) := by
  refine rc_of_gc fun m1 hm => gc_intro (vs := [_]) Tryz.func66 rfl Tryz.ntmps66 (by simp) ?_
  refine awp_rs (ao_r (rig_assign rfl rfl) rfl (ao_nil ?_))
  refine awp_rs ?_
  refine ao_r (rig_move rfl rfl) rfl (ao_r (rig_eql rfl rfl rfl) rfl (ao_r (rig_move rfl rfl) rfl ?_))
  by_cases h : c = 32
  · rw [decide_eq_true h]
    refine ao_no rfl rfl rfl rfl (ao_no rfl rfl rfl rfl (ao_r (rig_pickT rfl rfl rfl) rfl (ao_r (rig_assign rfl rfl) rfl (ao_nil ?_))))
    refine awp_ret ⟨_, res1 Tryz.results66 rfl, ?_, HpLe.refl _⟩
    simp [isSpI, h]
  · rw [decide_eq_false h]
    refine ao_on rfl rfl (ao_r (rig_move rfl rfl) rfl (ao_on rfl rfl (ao_r (rig_eql rfl rfl rfl) rfl (ao_r (rig_pickF rfl rfl rfl) rfl (ao_r (rig_assign rfl rfl) rfl (ao_nil ?_))))))
    refine awp_ret ⟨_, res1 Tryz.results66 rfl, ?_, HpLe.refl _⟩
    simp [isSpI, h]
theorem ez50 : Enters Tryz.prog 50 := enters_of Tryz.func50 (by kernel_rfl) rfl
set_option maxRecDepth 100000 in
theorem Fz50 (m : Hp) (s : ByteArray) (hs : s.size ≤ 16777216) : GC Tryz.prog 50 #[.string s] m (Fresh m fun u c F => Own 9 1 c u (rows encS (fieldsB s))) := by
  refine gc_intro (vs := [_]) Tryz.func50 rfl Tryz.ntmps50 (by simp) ?_
  have hsz := size_len s
  refine awp_rs (ao_r (rig_assign rfl rfl) rfl (ao_nil ?_))
  refine awp_rs (ao_r (rig_assign rfl rfl) rfl (ao_nil ?_))
  refine awp_sk fun K1 hK1 => ?_
  refine awp_rs (ao_r (rig_assign rfl rfl) rfl (ao_nil ?_))
  refine awp_block ?_
  refine awp_le [(0, .string s), (3, .slice none 0 0), (4, .int .i64 (0 : Nat))] ⟨rfl, rfl, rfl, trivial⟩ ?_
  refine awp_loop (fun k r mm => ∃ (i : Nat) (cs : List (List UInt8)) (v : Value) (c F : Hp), i ≤ s.size ∧ k = s.size - i ∧ r = [(0, .string s), (3, v), (4, .int .i64 i)] ∧ mm = U [c, F, m] ∧ Dj [c, F, m] ∧ Own 9 1 c v (rows encS (cs.map B)) ∧ cs.length ≤ i ∧ fieldsGo [] s.data.toList = cs ++ fieldsGo [] (s.data.toList.drop i)) s.size
    ⟨0, [], _, hp0, hp0, by omega, rfl, rfl, by rw [U_hp0, U_hp0, U_single], Dj_hp0 (Dj_hp0 (Dj_single m)), Own.nil 9 1, Nat.le_refl _, rfl⟩ ?_
  rintro k r mm ⟨i, cs, v, c, F, hi, rfl, rfl, rfl, hD, hO, hcl, hF⟩
  obtain ⟨A, cap, rfl⟩ := hO.len encS_len (by decide)
  refine awp_sk fun K2 hK2 => ?_
  refine awp_rs ?_
  refine ao_r (rig_move rfl rfl) rfl (ao_r (rig_move rfl rfl) rfl (ao_r (rig_lenStr rfl rfl Tryz.underlying9) rfl (ao_r (rig_lss rfl rfl rfl) rfl (ao_nil ?_))))
  refine awp_if rfl (fun h => ?_) (fun h => ?_)
  · refine awp_skip (hK2 _ _ (awp_block (awp_sk fun K3 hK3 => awp_rs ?_)))
    have hlt : i < s.data.toList.length := by omega
    have hdr := drop_getD hlt
    refine ao_r (rig_move rfl rfl) rfl (ao_r (rig_move rfl rfl) rfl (ao_r (rig_indexStr i rfl rfl rfl Tryz.underlying9 rfl (by omega)) rfl (ao_r (rig_call rfl rfl ez66 (Fz66 _ _)) rfl (ao_nil ?_))))
    rw [isSpI_of]
    refine awp_cond rfl (fun h1 => ?_) (fun h1 => ?_)
    · refine awp_rs ?_
      refine ao_r (rig_move rfl rfl) rfl (ao_r (rig_add rfl rfl rfl (w64 _ (by omega) (by omega))) rfl (ao_r (rig_assign rfl rfl) rfl (ao_nil ?_)))
      refine awp_exit (show ∃ _ _, _ from ⟨[(0, .string s), (3, _), (4, .int .i64 (i + 1 : Nat))], _, ⟨rfl, rfl, rfl, trivial⟩, by omega, i + 1, cs, _, c, F, by omega, rfl, rfl, rfl, hD, hO, by omega, ?_⟩)
      rw [hF, hdr, fieldsGo, if_pos h1, if_pos rfl]
    · refine awp_skip (hK3 _ _ (awp_rs ?_))
      refine ao_r (rig_move rfl rfl) rfl (ao_r (rig_assign rfl rfl) rfl (ao_nil ?_))
      refine awp_sk fun K4 hK4 => awp_block ?_
      refine awp_le [(0, .string s), (3, .slice A (cs.map B).length cap), (4, .int .i64 (i : Nat)), (5, .int .i64 (i : Nat))] ⟨rfl, rfl, rfl, rfl, trivial⟩ ?_
      refine awp_loop (fun k r mm => ∃ (q : Nat), i ≤ q ∧ q ≤ s.size ∧ k = s.size - q ∧ r = [(0, .string s), (3, .slice A (cs.map B).length cap), (4, .int .i64 q), (5, .int .i64 i)] ∧ mm = U [c, F, m] ∧ fieldsGo [] (s.data.toList.drop i) = fieldsGo ((s.data.toList.drop i).take (q - i)).reverse (s.data.toList.drop q)) (s.size - i) ⟨i, by omega, by omega, rfl, rfl, rfl, by simp⟩ ?_
      rintro k r mm ⟨q, hq1, hq2, rfl, rfl, rfl, hG⟩
      refine awp_sk fun K5 hK5 => awp_rs ?_
      have fin : i < q → (∀ c, (s.data.toList.drop q).head? = some c → isSp c = true) → ∀ r, EnvLe [(0, .string s), (3, .slice A (cs.map B).length cap), (4, .int .i64 q), (5, .int .i64 i)] r → K4 r (U [c, F, m]) := by
        intro hlt2 hsp r hle
        refine hK4 _ _ (awp_le _ hle (awp_region ?_))
        refine ao_r (rig_move rfl rfl) rfl (ao_r (rig_move rfl rfl) rfl (ao_r (rig_move rfl rfl) rfl (ao_r (rig_move rfl rfl) rfl (ao_r (rig_strLH i q rfl rfl rfl rfl Tryz.underlying9 rfl rfl hq1 hq2) rfl ?_))))
        refine ao_x (ex_buildSlice rfl hD rfl Tryz.underlying27 Tryz.sizeOf9 Tryz.zeroValue9 (by decide) (by decide) (fill_one rfl (rangeMap_size _ _))) rfl fun w2 m2 ⟨b2, hw2, hm2, hD2⟩ => ?_
        subst hw2 hm2
        refine ao_x (ex_append 1 (by_ := 16) rfl hD2 rfl rfl Tryz.underlying27 inf9 rfl (by decide) (by decide) hO rfl (src_one (enc := encS) (x := s.extract i q) encS_len ((cellsAt_one _ _ _).le U_le_head)) (one_rows encS_one _) (by rw [rows_length encS_len, rows_length encS_len]; simp; omega)) rfl fun w3 m3 ⟨c3, hO3, hm3, hD3⟩ => ?_
        subst hm3
        refine ao_r (rig_assign rfl rfl) rfl (ao_nil ?_)
        obtain ⟨e1, hD4⟩ := U_swap 0 hD3
        obtain ⟨e2, hD5⟩ := U_merge 1 hD4
        refine ⟨[(0, .string s), (3, w3), (4, .int .i64 q)], _, ⟨rfl, rfl, rfl, trivial⟩, by omega, q, cs ++ [(s.data.toList.drop i).take (q - i)], w3, c3, _, by omega, rfl, rfl, e1.trans e2, hD5, ?_, by simp; omega, ?_⟩
        · rw [List.map_append, rows_append, List.map_cons, List.map_nil, ← extract_B]; exact hO3
        · rw [hF, hG, fieldsGo_end _ hsp]
          · simp
          · have : ((s.data.toList.drop i).take (q - i)).length = q - i := by simp; omega
            intro e
            rw [List.reverse_eq_nil_iff] at e
            rw [e] at this
            simp at this
            omega
      refine ao_r (rig_move rfl rfl) rfl (ao_r (rig_move rfl rfl) rfl (ao_r (rig_lenStr rfl rfl Tryz.underlying9) rfl (ao_r (rig_lss rfl rfl rfl) rfl (ao_r (rig_move rfl rfl) rfl ?_))))
      by_cases hq : q < s.size
      · rw [decide_eq_true (by omega)]
        have hqd := drop_getD (l := s.data.toList) (i := q) (by omega)
        refine ao_on rfl rfl (ao_r (rig_move rfl rfl) rfl (ao_on rfl rfl (ao_r (rig_move rfl rfl) rfl (ao_on rfl rfl (ao_r (rig_indexStr q rfl rfl rfl Tryz.underlying9 rfl (by omega)) rfl (ao_on rfl rfl (ao_r (rig_call rfl rfl ez66 (Fz66 _ _)) rfl (ao_on rfl rfl (ao_r (rig_not rfl rfl) rfl (ao_r (rig_pickT rfl rfl rfl) rfl (ao_nil ?_)))))))))))
        rw [isSpI_of]
        refine awp_cond rfl (fun h2 => ?_) (fun h2 => ?_)
        · refine awp_skip (hK5 _ _ (awp_block (awp_region ?_)))
          refine ao_r (rig_move rfl rfl) rfl (ao_r (rig_add rfl rfl rfl (w64 _ (by omega) (by omega))) rfl (ao_r (rig_assign rfl rfl) rfl (ao_nil ?_)))
          refine ⟨[(0, .string s), (3, .slice A (cs.map B).length cap), (4, .int .i64 (q + 1 : Nat)), (5, .int .i64 i)], _, ⟨rfl, rfl, rfl, rfl, trivial⟩, by omega, q + 1, by omega, by omega, rfl, rfl, rfl, ?_⟩
          rw [hG, hqd, take_snoc_drop hq1 (by omega)]
          rw [fieldsGo, if_neg (by simpa using h2)]
          simp
        · refine awp_exit (fin ?_ ?_ _ ⟨rfl, rfl, rfl, rfl, trivial⟩)
          · rcases Nat.eq_or_lt_of_le hq1 with e | e
            · subst e; rw [h1] at h2; cases h2
            · exact e
          · intro c hc
            rw [hqd] at hc
            simp at hc
            rw [← hc]
            simpa using h2
      · rw [decide_eq_false (by omega)]
        refine ao_no rfl rfl rfl rfl (ao_no rfl rfl rfl rfl (ao_no rfl rfl rfl rfl (ao_no rfl rfl rfl rfl (ao_no rfl rfl rfl rfl (ao_r (rig_pickF rfl rfl rfl) rfl (ao_nil ?_))))))
        refine awp_false rfl (awp_exit (fin (by omega) ?_ _ ⟨rfl, rfl, rfl, rfl, trivial⟩))
        intro c hc
        rw [List.drop_of_length_le (by omega)] at hc
        cases hc
  · refine awp_exit (hK1 _ _ (awp_rs ?_))
    refine ao_r (rig_move rfl rfl) rfl (ao_r (rig_assign rfl rfl) rfl (ao_nil ?_))
    refine awp_ret ⟨_, res1 Tryz.results50 rfl, c, F, hD, rfl, ?_⟩
    rw [fieldsB, hF, List.drop_of_length_le (by omega)]
    simpa [fieldsGo] using hO
end Go.Proofs.YtmofaabndjnhjaaGreat
/- The walks of the reference's Tokens, SameStrings, SameTokens, Same. -/
set_option linter.unusedVariables false
namespace Go.Proofs.YtmofaabndjnhjaaGreat
open Go Go.Aw Go.RowKit
/-- What Tokens hands back. -/
def RTok (s : ByteArray) (u : Value) (c : Hp) : Prop := (toksOf s = none ∧ u = .tuple #[.slice none 0 0, .bool false]) ∨ ∃ ts v, toksOf s = some ts ∧ u = .tuple #[v, .bool true] ∧ Own 9 1 c v (rows encS ts)
theorem ez29 : Enters Tryz.prog 29 := enters_of Tryz.func29 (by kernel_rfl) rfl
set_option maxRecDepth 100000 in
theorem Fz29 (m : Hp) (s : ByteArray) (hs : s.size ≤ 16777216) : GC Tryz.prog 29 #[.string s] m (Fresh m fun u c F => RTok s u c) := by
  refine gc_intro (vs := [_]) Tryz.func29 rfl Tryz.ntmps29 (by simp) ?_
  refine awp_rs ?_
  refine ao_r (rig_assign rfl rfl) rfl (ao_r (rig_assign rfl rfl) rfl (ao_nil ?_))
  refine awp_rs ?_
  refine ao_r (rig_move rfl rfl) rfl (ao_x (ex_call rfl rfl ez50 (Fz50 _ s hs)) rfl fun v m1 ⟨c, F, hD, hm, hO⟩ => ao_r (rig_assign rfl rfl) rfl (ao_nil ?_))
  subst hm
  have hfl := fieldsB_length s
  obtain ⟨A, cap, rfl⟩ := hO.len encS_len (by decide)
  refine awp_sk fun K1 hK1 => ?_
  refine awp_mid (fun r mm => r = [(4, .slice A (fieldsB s).length cap), (15, .bool (decide ((fieldsB s).length = 0 ∨ 60 < (fieldsB s).length)))] ∧ mm = U [c, F, m]) (awp_region ?_) ?_
  · refine ao_r (rig_move rfl rfl) rfl (ao_r (rig_lenSl rfl rfl Tryz.underlying27) rfl (ao_r (rig_eql rfl rfl rfl) rfl (ao_r (rig_move rfl rfl) rfl (?_))))
    by_cases h0 : (fieldsB s).length = 0
    · rw [decide_eq_true (by omega)]
      refine ao_no rfl rfl rfl rfl (ao_no rfl rfl rfl rfl (ao_no rfl rfl rfl rfl (ao_r (rig_pickT rfl rfl rfl) rfl (ao_nil ?_))))
      exact ⟨[(4, .slice A (fieldsB s).length cap), (15, .bool _)], ⟨rfl, rfl, trivial⟩, by rw [decide_eq_true (.inl h0)], rfl⟩
    · rw [decide_eq_false (by omega)]
      refine ao_on rfl rfl (ao_r (rig_move rfl rfl) rfl (ao_on rfl rfl (ao_r (rig_lenSl rfl rfl Tryz.underlying27) rfl (ao_on rfl rfl (ao_r (rig_gtr rfl rfl rfl) rfl (ao_r (rig_pickF rfl rfl rfl) rfl (ao_nil ?_)))))))
      exact ⟨[(4, .slice A (fieldsB s).length cap), (15, .bool _)], ⟨rfl, rfl, trivial⟩, by rw [show decide ((fieldsB s).length = 0 ∨ 60 < (fieldsB s).length) = decide (((fieldsB s).length : Int) > 60) by rw [decide_eq_decide]; omega], rfl⟩
  rintro r mm ⟨rfl, rfl⟩
  refine awp_if rfl (fun h => ?_) (fun h => ?_)
  · refine awp_rs ?_
    refine ao_r (rig_assign rfl rfl) rfl (ao_r (rig_assign rfl rfl) rfl (ao_nil ?_))
    exact awp_ret ⟨_, res2 Tryz.results29 rfl rfl, c, F, hD, rfl, .inl ⟨by rw [toksOf, if_pos h], rfl⟩⟩
  · refine awp_skip (hK1 _ _ (awp_sk fun K2 hK2 => awp_rs ?_))
    have htok : toksOf s = some ((fieldsB s).map varB) := by rw [toksOf, if_neg h]
    obtain ⟨g, cap', sp, hv, rfl, hsp, hn, hcm⟩ := hO.some_ encS_len (by decide) (by omega)
    simp only [Value.slice.injEq] at hv
    obtain ⟨rfl, _, rfl⟩ := hv
    refine ao_r (rig_assign rfl rfl) rfl (ao_nil ?_)
    refine awp_block ?_
    refine awp_le [(4, .slice (some ⟨g, 0, none⟩) (fieldsB s).length cap), (5, .int .i64 (0 : Nat))] ⟨rfl, rfl, trivial⟩ ?_
    refine awp_loop (fun k r mm => ∃ i : Nat, i ≤ (fieldsB s).length ∧ k = (fieldsB s).length - i ∧ r = [(4, .slice (some ⟨g, 0, none⟩) (fieldsB s).length cap), (5, .int .i64 i)] ∧ mm = U [Go.Aw.one g (.cells (rows encS (half (fieldsB s) i) ++ sp).toArray 9 (0, 0)), F, m] ∧ Dj [Go.Aw.one g (.cells (rows encS (half (fieldsB s) i) ++ sp).toArray 9 (0, 0)), F, m]) _ ⟨0, by omega, rfl, rfl, by rw [half_zero], by rw [half_zero]; exact hD⟩ ?_
    rintro k r mm ⟨i, hi, rfl, rfl, rfl, hd⟩
    refine awp_sk fun K3 hK3 => awp_rs ?_
    refine ao_r (rig_move rfl rfl) rfl (ao_r (rig_move rfl rfl) rfl (ao_r (rig_lenSl rfl rfl Tryz.underlying27) rfl (ao_r (rig_lss rfl rfl rfl) rfl (ao_nil ?_))))
    refine awp_if rfl (fun h1 => ?_) (fun h1 => ?_)
    · refine awp_skip (hK3 _ _ (awp_sk fun K4 hK4 => awp_block (awp_rs ?_)))
      obtain ⟨x, hx⟩ := get_lt (l := fieldsB s) (i := i) (by omega)
      have hx2 := half_get hx
      have hxs : x.size ≤ s.size := fieldsB_size (List.mem_of_getElem? hx)
      have hc : cell (U [Go.Aw.one g (.cells (rows encS (half (fieldsB s) i) ++ sp).toArray 9 (0, 0)), F, m]) g (0 + i * 1) = some (.string x) := by
        refine cell_at 0 hd rfl ?_
        have := rows_get encS_len _ i x hx2 0 (.string x) rfl
        simp only [List.getElem?_toArray]
        rw [List.getElem?_append_left (by simpa using (List.getElem?_eq_some_iff.1 this).1)]
        simpa using this
      refine ao_r (rig_move rfl rfl) rfl (ao_r (rig_move rfl rfl) rfl (ao_r (rig_ix i rfl rfl rfl Tryz.underlying27 Tryz.sizeOf9 rfl rfl (by omega)) rfl (ao_r (rig_load1 rfl rfl Tryz.isAgg9 hc) rfl (ao_r (rig_call rfl rfl ez51 (Fz51 _ x (by omega))) rfl (ao_nil ?_)))))
      have fin : ∀ mm, mm = U [Go.Aw.one g (.cells (rows encS (half (fieldsB s) (i + 1)) ++ sp).toArray 9 (0, 0)), F, m] → Dj [Go.Aw.one g (.cells (rows encS (half (fieldsB s) (i + 1)) ++ sp).toArray 9 (0, 0)), F, m] → ∀ r, EnvLe [(4, .slice (some ⟨g, 0, none⟩) (fieldsB s).length cap), (5, .int .i64 i)] r → K4 r mm := by
        intro mm hm hd2 r hle
        subst hm
        refine hK4 _ _ (awp_le _ hle (awp_region ?_))
        refine ao_r (rig_move rfl rfl) rfl (ao_r (rig_add rfl rfl rfl (w64 _ (by omega) (by omega))) rfl (ao_r (rig_assign rfl rfl) rfl (ao_nil ?_)))
        exact ⟨[(4, .slice (some ⟨g, 0, none⟩) (fieldsB s).length cap), (5, .int .i64 (i + 1 : Nat))], _, ⟨rfl, rfl, trivial⟩, by omega, i + 1, by omega, rfl, rfl, rfl, hd2⟩
      refine awp_cond rfl (fun h2 => ?_) (fun h2 => ?_)
      · refine awp_region ?_
        refine ao_r (rig_move rfl rfl) rfl (ao_r (rig_move rfl rfl) rfl (ao_r (rig_ix i rfl rfl rfl Tryz.underlying27 Tryz.sizeOf9 rfl rfl (by omega)) rfl (?_)))
        refine ao_x0 (ex_store (i := 0) rfl hd rfl rfl Tryz.sizeOf9 (by simp [Value.cells, Value.oneCell']) rfl (by simp [Value.cells, rows_length encS_len, half_length]; omega)) fun v m1 ⟨_, hm, hd2⟩ => ?_
        subst hm
        have e : putR (rows encS (half (fieldsB s) i) ++ sp).toArray (0 + i * 1) (Value.string ⟨#[]⟩).cells.toList = (rows encS (half (fieldsB s) (i + 1)) ++ sp).toArray := by
          rw [Nat.zero_add, show (Value.string ⟨#[]⟩).cells.toList = encS (B []) from rfl, putR_rows encS_len _ i _ sp (by rw [half_length]; omega), half_succ hx, varB, if_pos h2]
        rw [List.set_cons_zero, e] at hd2 ⊢
        exact ao_nil (fin _ rfl hd2 _ ⟨rfl, rfl, trivial⟩)
      · rw [← half_same hx h2]
        exact awp_skip (fin _ rfl (by rw [half_same hx h2]; exact hd) _ ⟨rfl, rfl, trivial⟩)
    · refine awp_exit (hK2 _ _ (awp_rs ?_))
      refine ao_r (rig_move rfl rfl) rfl (ao_r (rig_assign rfl rfl) rfl (ao_r (rig_assign rfl rfl) rfl (ao_nil ?_)))
      rw [half_all (by omega)] at hd ⊢
      refine awp_ret ⟨_, res2 Tryz.results29 rfl rfl, _, F, hd, rfl, .inr ⟨_, _, htok, rfl, ?_⟩⟩
      have hl : (fieldsB s).length = ((fieldsB s).map varB).length := by simp
      rw [hl]
      refine Own.mk_ encS_len ?_ (by simpa using hn) hcm
      simp only [List.length_append, rows_length encS_len, List.length_map] at hsp ⊢
      exact hsp
end Go.Proofs.YtmofaabndjnhjaaGreat
/- The walks of the reference's SameStrings, SameTokens, Same. -/
set_option linter.unusedVariables false
namespace Go.Proofs.YtmofaabndjnhjaaGreat
open Go Go.Aw Go.RowKit
theorem take_eq_succ {α : Type} {a b : List α} {i : Nat} {x y : α} (hx : a[i]? = some x) (hy : b[i]? = some y) (h : a.take i = b.take i) (e : x = y) : a.take (i + 1) = b.take (i + 1) := by
  obtain ⟨h1, e1⟩ := List.getElem?_eq_some_iff.1 hx
  obtain ⟨h2, e2⟩ := List.getElem?_eq_some_iff.1 hy
  rw [List.take_succ_eq_append_getElem h1, List.take_succ_eq_append_getElem h2, h, e1, e2, e]
theorem take_ne {α : Type} {a b : List α} {i : Nat} {x y : α} (hx : a[i]? = some x) (hy : b[i]? = some y) (e : x ≠ y) : a ≠ b := fun h => by
  rw [h, hy] at hx; exact e (Option.some.inj hx).symm
theorem take_all_eq {α : Type} {a b : List α} {i : Nat} (h : a.take i = b.take i) (h1 : a.length ≤ i) (h2 : b.length ≤ i) : a = b := by
  rwa [List.take_of_length_le h1, List.take_of_length_le h2] at h
theorem ez52 : Enters Tryz.prog 52 := enters_of Tryz.func52 (by kernel_rfl) rfl
set_option maxRecDepth 100000 in
theorem Fz52 (m : Hp) (va vb : Value) (la lb : List ByteArray) (ha : Strs m va la) (hb : Strs m vb lb) (hl : la.length ≤ 1099511627776) : RC Tryz.prog 52 #[va, vb] m (.bool (decide (la = lb))) := by
  obtain ⟨A, ca, rfl, _⟩ := RdSl.form encS_len (by decide) ha
  obtain ⟨A2, cb, rfl, _⟩ := RdSl.form encS_len (by decide) hb
  refine rc_of_gc fun m1 hm => gc_intro (vs := [_, _]) Tryz.func52 rfl Tryz.ntmps52 (by simp) ?_
  have ha' := ha.le hm
  have hb' := hb.le hm
  refine awp_rs ?_
  refine ao_r (rig_assign rfl rfl) rfl (ao_nil ?_)
  refine awp_sk fun K5 hK5 => ?_
  refine awp_rs ?_
  refine ao_r (rig_move rfl rfl) rfl (ao_r (rig_lenSl rfl rfl Tryz.underlying27) rfl (ao_r (rig_move rfl rfl) rfl (ao_r (rig_lenSl rfl rfl Tryz.underlying27) rfl (ao_r (rig_neq rfl rfl rfl) rfl (ao_nil ?_)))))
  refine awp_ifn rfl (fun h => ?_) (fun h => ?_)
  · refine awp_rs ?_
    refine ao_r (rig_assign rfl rfl) rfl (ao_nil ?_)
    refine awp_ret ⟨_, res1 Tryz.results52 rfl, ?_, HpLe.refl _⟩
    rw [decide_eq_false (fun e => h (by rw [e]))]
  · refine awp_skip (hK5 _ _ (awp_sk fun K6 hK6 => awp_rs ?_))
    refine ao_r (rig_assign rfl rfl) rfl (ao_nil ?_)
    refine awp_block ?_
    refine awp_le [(0, .slice A la.length ca), (1, .slice A2 lb.length cb), (5, .int .i64 (0 : Nat))] ⟨rfl, rfl, rfl, trivial⟩ ?_
    refine awp_loop (fun k r mm => ∃ i : Nat, i ≤ la.length ∧ k = la.length - i ∧ r = [(0, .slice A la.length ca), (1, .slice A2 lb.length cb), (5, .int .i64 i)] ∧ mm = m1 ∧ la.take i = lb.take i) _ ⟨0, by omega, rfl, rfl, rfl, rfl⟩ ?_
    rintro k r mm ⟨i, hi, rfl, rfl, rfl, hj⟩
    refine awp_sk fun K7 hK7 => awp_rs ?_
    refine ao_r (rig_move rfl rfl) rfl (ao_r (rig_move rfl rfl) rfl (ao_r (rig_lenSl rfl rfl Tryz.underlying27) rfl (ao_r (rig_lss rfl rfl rfl) rfl (ao_nil ?_))))
    refine awp_if rfl (fun h1 => ?_) (fun h1 => ?_)
    · refine awp_skip (hK7 _ _ (awp_sk fun K8 hK8 => awp_block ?_))
      obtain ⟨x, hx⟩ := get_lt (l := la) (i := i) (by omega)
      obtain ⟨y, hy⟩ := get_lt (l := lb) (i := i) (by omega)
      obtain ⟨xb, xo, xc, hxA, hxc⟩ := Strs.get ha' hx
      obtain ⟨yb, yo, yc, hyA, hyc⟩ := Strs.get hb' hy
      simp only [Value.slice.injEq] at hxA hyA
      obtain ⟨rfl, _, rfl⟩ := hxA
      obtain ⟨rfl, _, rfl⟩ := hyA
      refine awp_ds (.q 0 (.q 1 (.q 2 (.q 3 (.q 4 (.q 5 (.q 6 (.q 7 (.q 8 .fin))))))))) [] (by kernel_rfl) (by kernel_rfl) ?_
      refine oq rfl (rig_move rfl rfl) rfl (oq rfl (rig_move rfl rfl) rfl (oq rfl (rig_ix i rfl rfl rfl Tryz.underlying27 Tryz.sizeOf9 rfl rfl (by omega)) rfl (oq rfl (rig_load1 rfl rfl Tryz.isAgg9 (by assumption)) rfl (oq rfl (rig_move rfl rfl) rfl (oq rfl (rig_move rfl rfl) rfl (oq rfl (rig_ix i rfl rfl rfl Tryz.underlying27 Tryz.sizeOf9 rfl rfl (by omega)) rfl (oq rfl (rig_load1 rfl rfl Tryz.isAgg9 (by assumption)) rfl (oq rfl (rig_sneq rfl rfl rfl) rfl (od_fin ?_)))))))))
      refine awp_ifn rfl (fun h2 => ?_) (fun h2 => ?_)
      · refine awp_rs ?_
        refine ao_r (rig_assign rfl rfl) rfl (ao_nil ?_)
        refine awp_ret ⟨_, res1 Tryz.results52 rfl, ?_, HpLe.refl _⟩
        rw [decide_eq_false (take_ne hx hy h2)]
      · refine awp_skip (hK8 _ _ (awp_region ?_))
        refine ao_r (rig_move rfl rfl) rfl (ao_r (rig_add rfl rfl rfl (w64 _ (by omega) (by omega))) rfl (ao_r (rig_assign rfl rfl) rfl (ao_nil ?_)))
        exact ⟨[(0, .slice _ la.length _), (1, .slice _ lb.length _), (5, .int .i64 (i + 1 : Nat))], _, ⟨rfl, rfl, rfl, trivial⟩, by omega, i + 1, by omega, rfl, rfl, rfl, take_eq_succ hx hy hj h2⟩
    · refine awp_exit (hK6 _ _ (awp_rs ?_))
      refine ao_r (rig_assign rfl rfl) rfl (ao_nil ?_)
      refine awp_ret ⟨_, res1 Tryz.results52 rfl, ?_, HpLe.refl _⟩
      rw [decide_eq_true (take_all_eq hj (by omega) (by omega))]
theorem ez31 : Enters Tryz.prog 31 := enters_of Tryz.func31 (by kernel_rfl) rfl
set_option maxRecDepth 100000 in
theorem Fz31 (m : Hp) (a b : Tm) (ha : a.Ok m) (hb : b.Ok m) (hl : a.toks.length ≤ 1099511627776) : RC Tryz.prog 31 #[a.val, b.val] m (.bool (decide (a.toks = b.toks))) := by
  refine rc_of_gc fun m1 hm => gc_intro (vs := [_, _]) Tryz.func31 rfl Tryz.ntmps31 (by simp) ?_
  refine awp_rs ?_
  refine ao_x (ex_boxR rfl rfl) rfl fun v m2 ⟨p2, hv, hl2, hc2⟩ => ?_   -- 0 t2 := box 33 t0
  subst hv
  refine ao_x (ex_boxR rfl rfl) rfl fun v m3 ⟨p3, hv, hl3, hc3⟩ => ?_   -- 1 t3 := box 33 t1
  subst hv
  obtain ⟨a0, a1, _⟩ := hc2.le hl3
  obtain ⟨b0, b1, _⟩ := hc3
  have hle : HpLe m1 m3 := hl2.trans hl3
  have ha' := ha.le (hm.trans hle)
  have hb' := hb.le (hm.trans hle)
  refine ao_r (rig_assign rfl rfl) rfl (ao_nil ?_)
  refine awp_rs ?_
  refine ao_r (rig_fieldAddr rfl rfl Tryz.underlying32 rfl Tryz.sizeOf27 rfl) rfl (ao_r (rig_load1 rfl rfl Tryz.isAgg27 (by assumption)) rfl (ao_r (rig_fieldAddr rfl rfl Tryz.underlying32 rfl Tryz.sizeOf27 rfl) rfl (ao_r (rig_load1 rfl rfl Tryz.isAgg27 (by assumption)) rfl (ao_r (rig_call rfl rfl ez52 (Fz52 _ _ _ a.toks b.toks ha' hb' hl)) rfl (ao_r (rig_assign rfl rfl) rfl (ao_nil ?_))))))
  exact awp_ret ⟨_, res1 Tryz.results31 rfl, rfl, hle⟩
theorem ez11 : Enters Tryz.prog 11 := enters_of Tryz.func11 (by kernel_rfl) rfl
set_option maxRecDepth 100000 in
theorem Fz11 (m : Hp) (va vb : Value) (la lb : List Tm) (ha : Tms m va la) (hb : Tms m vb lb) (hoa : ∀ t ∈ la, t.Ok m) (hob : ∀ t ∈ lb, t.Ok m) (hl : la.length ≤ 1099511627776) (htl : ∀ t ∈ la, t.toks.length ≤ 1099511627776) : RC Tryz.prog 11 #[va, vb] m (.bool (decide (keys la = keys lb))) := by
  obtain ⟨A, ca, rfl, _⟩ := RdSl.form encT_len (by decide) ha
  obtain ⟨A2, cb, rfl, _⟩ := RdSl.form encT_len (by decide) hb
  refine rc_of_gc fun m1 hm => gc_intro (vs := [_, _]) Tryz.func11 rfl Tryz.ntmps11 (by simp) ?_
  have ha' := ha.le hm
  have hb' := hb.le hm
  refine awp_rs ?_
  refine ao_r (rig_assign rfl rfl) rfl (ao_nil ?_)
  refine awp_sk fun K5 hK5 => ?_
  refine awp_rs ?_
  refine ao_r (rig_move rfl rfl) rfl (ao_r (rig_lenSl rfl rfl Tryz.underlying23) rfl (ao_r (rig_move rfl rfl) rfl (ao_r (rig_lenSl rfl rfl Tryz.underlying23) rfl (ao_r (rig_neq rfl rfl rfl) rfl (ao_nil ?_)))))
  have hkl : ∀ l : List Tm, (keys l).length = l.length := fun l => by simp [keys]
  refine awp_ifn rfl (fun h => ?_) (fun h => ?_)
  · refine awp_rs ?_
    refine ao_r (rig_assign rfl rfl) rfl (ao_nil ?_)
    refine awp_ret ⟨_, res1 Tryz.results11 rfl, ?_, HpLe.refl _⟩
    rw [decide_eq_false (fun e => h (by have := congrArg List.length e; rw [hkl, hkl] at this; rw [this]))]
  · refine awp_skip (hK5 _ _ (awp_sk fun K6 hK6 => awp_rs ?_))
    refine ao_r (rig_assign rfl rfl) rfl (ao_nil ?_)
    refine awp_block ?_
    refine awp_le [(0, .slice A la.length ca), (1, .slice A2 lb.length cb), (5, .int .i64 (0 : Nat))] ⟨rfl, rfl, rfl, trivial⟩ ?_
    refine awp_loop (fun k r mm => ∃ i : Nat, i ≤ la.length ∧ k = la.length - i ∧ r = [(0, .slice A la.length ca), (1, .slice A2 lb.length cb), (5, .int .i64 i)] ∧ HpLe m1 mm ∧ (keys la).take i = (keys lb).take i) _ ⟨0, by omega, rfl, rfl, HpLe.refl _, rfl⟩ ?_
    rintro k r mm ⟨i, hi, rfl, rfl, hle, hj⟩
    refine awp_sk fun K7 hK7 => awp_rs ?_
    refine ao_r (rig_move rfl rfl) rfl (ao_r (rig_move rfl rfl) rfl (ao_r (rig_lenSl rfl rfl Tryz.underlying23) rfl (ao_r (rig_lss rfl rfl rfl) rfl (ao_nil ?_))))
    refine awp_if rfl (fun h1 => ?_) (fun h1 => ?_)
    · refine awp_skip (hK7 _ _ (awp_sk fun K8 hK8 => awp_block ?_))
      obtain ⟨x, hx⟩ := get_lt (l := la) (i := i) (by omega)
      obtain ⟨y, hy⟩ := get_lt (l := lb) (i := i) (by omega)
      obtain ⟨xb, xo, xc, hxA, hxc⟩ := Tms.get (RdSl.le ha' hle) hx
      obtain ⟨yb, yo, yc, hyA, hyc⟩ := Tms.get (RdSl.le hb' hle) hy
      simp only [Value.slice.injEq] at hxA hyA
      obtain ⟨rfl, _, rfl⟩ := hxA
      obtain ⟨rfl, _, rfl⟩ := hyA
      obtain ⟨x0, x1, _⟩ := id hxc
      obtain ⟨y0, y1, _⟩ := id hyc
      have hox := (hoa x (List.mem_of_getElem? hx)).le (hm.trans hle)
      have hoy := (hob y (List.mem_of_getElem? hy)).le (hm.trans hle)
      have kx : (keys la)[i]? = some x.key := by simp [keys, hx]
      have ky : (keys lb)[i]? = some y.key := by simp [keys, hy]
      have htx := htl x (List.mem_of_getElem? hx)
      refine awp_mid (fun r m' => r = [(0, .slice (some ⟨xb, xo, none⟩) la.length ca), (1, .slice (some ⟨yb, yo, none⟩) lb.length cb), (5, .int .i64 i), (39, .bool (!decide (x.key = y.key)))] ∧ m' = mm) ?_ ?_
      · refine awp_draw (.q 0 (.q 1 (.q 2 (.q 3 (.q 4 (.q 5 (.q 6 (.q 7 (.q 8 (.q 9 (.q 10 (.q 11 (.q 12 (.q 13 (.q 14 (.q 15 (.q 16 (.q 17 (.q 18 (.q 19 (.q 20 (.q 21 (.q 22 .fin))))))))))))))))))))))) [] (by kernel_rfl) (by kernel_rfl) ?_
        refine oq rfl (rig_move rfl rfl) rfl (oq rfl (rig_move rfl rfl) rfl (oq rfl (rig_ix i rfl rfl rfl Tryz.underlying23 Tryz.sizeOf32 rfl rfl (by omega)) rfl (oq rfl (rig_fieldAddr rfl rfl Tryz.underlying32 rfl Tryz.sizeOf3 rfl) rfl (oq rfl (rig_load1 rfl rfl Tryz.isAgg3 (by assumption)) rfl (oq rfl (rig_move rfl rfl) rfl (oq rfl (rig_move rfl rfl) rfl (oq rfl (rig_ix i rfl rfl rfl Tryz.underlying23 Tryz.sizeOf32 rfl rfl (by omega)) rfl (oq rfl (rig_fieldAddr rfl rfl Tryz.underlying32 rfl Tryz.sizeOf3 rfl) rfl (oq rfl (rig_load1 rfl rfl Tryz.isAgg3 (by assumption)) rfl (oq rfl (rig_neq rfl rfl rfl) rfl (oq rfl (rig_move rfl rfl) rfl (?_))))))))))))
        by_cases hc : x.cnt = y.cnt
        · rw [decide_eq_true hc]
          refine oqon rfl rfl rfl (rig_move rfl rfl) rfl ?_
          refine oqon rfl rfl rfl (rig_move rfl rfl) rfl ?_
          refine oqon rfl rfl rfl (rig_ix i rfl rfl rfl Tryz.underlying23 Tryz.sizeOf32 rfl rfl (by omega)) rfl ?_
          refine oqon rfl rfl rfl (rig_loadN (vs := encT x) rfl rfl Tryz.isAgg32 Tryz.sizeOf32 hxc) rfl ?_
          refine oqon rfl rfl rfl (rig_move rfl rfl) rfl ?_
          refine oqon rfl rfl rfl (rig_move rfl rfl) rfl ?_
          refine oqon rfl rfl rfl (rig_ix i rfl rfl rfl Tryz.underlying23 Tryz.sizeOf32 rfl rfl (by omega)) rfl ?_
          refine oqon rfl rfl rfl (rig_loadN (vs := encT y) rfl rfl Tryz.isAgg32 Tryz.sizeOf32 hyc) rfl ?_
          refine oqon rfl rfl rfl (rig_call rfl rfl ez31 (Fz31 _ x y hox hoy htx)) rfl ?_
          refine oqon rfl rfl rfl (rig_not rfl rfl) rfl ?_
          refine oq rfl (rig_pickF rfl rfl rfl) rfl (od_fin ?_)
          exact ⟨[(0, .slice _ la.length _), (1, .slice _ lb.length _), (5, .int .i64 i), (39, .bool (!decide (x.toks = y.toks)))], ⟨rfl, rfl, rfl, rfl, trivial⟩, by simp [Tm.key, hc], rfl⟩
        · rw [decide_eq_false hc]
          refine oqno rfl rfl rfl rfl rfl (oqno rfl rfl rfl rfl rfl (oqno rfl rfl rfl rfl rfl (oqno rfl rfl rfl rfl rfl (oqno rfl rfl rfl rfl rfl (oqno rfl rfl rfl rfl rfl (oqno rfl rfl rfl rfl rfl (oqno rfl rfl rfl rfl rfl (oqno rfl rfl rfl rfl rfl (oqno rfl rfl rfl rfl rfl (oq rfl (rig_pickT rfl rfl rfl) rfl (od_fin ?_)))))))))))
          exact ⟨[(0, .slice _ la.length _), (1, .slice _ lb.length _), (5, .int .i64 i), (39, .bool true)], ⟨rfl, rfl, rfl, rfl, trivial⟩, by simp [Tm.key, hc], rfl⟩
      rintro r m' ⟨rfl, rfl⟩
      refine awp_ifn rfl (fun h2 => ?_) (fun h2 => ?_)
      · refine awp_rs ?_
        refine ao_r (rig_assign rfl rfl) rfl (ao_nil ?_)
        refine awp_ret ⟨_, res1 Tryz.results11 rfl, ?_, hle⟩
        rw [decide_eq_false (take_ne kx ky h2)]
      · refine awp_skip (hK8 _ _ (awp_region ?_))
        refine ao_r (rig_move rfl rfl) rfl (ao_r (rig_add rfl rfl rfl (w64 _ (by omega) (by omega))) rfl (ao_r (rig_assign rfl rfl) rfl (ao_nil ?_)))
        exact ⟨[(0, .slice _ la.length _), (1, .slice _ lb.length _), (5, .int .i64 (i + 1 : Nat))], _, ⟨rfl, rfl, rfl, trivial⟩, by omega, i + 1, by omega, rfl, rfl, hle, take_eq_succ kx ky hj h2⟩
    · refine awp_exit (hK6 _ _ (awp_rs ?_))
      refine ao_r (rig_assign rfl rfl) rfl (ao_nil ?_)
      refine awp_ret ⟨_, res1 Tryz.results11 rfl, ?_, hle⟩
      rw [decide_eq_true (take_all_eq hj (by rw [hkl]; omega) (by rw [hkl]; omega))]
end Go.Proofs.YtmofaabndjnhjaaGreat
/- The walks of the generator of lines. -/
set_option linter.unusedVariables false
namespace Go.Proofs.YtmofaabndjnhjaaGreat
open Go Go.Aw Go.RowKit
theorem ez5 : Enters Tryz.prog 5 := enters_of Tryz.func5 (by kernel_rfl) rfl
set_option maxRecDepth 100000 in
theorem Fz5 (m : Hp) (A : Option Addr) (ca : Nat) (l : List UInt8) (most : Nat) (ha : RdSl m encB 1 (.slice A l.length ca) l) (hcap : l.length ≤ ca) (hl : l.length ≤ 1099511627776) (hmost : most ≤ 1099511627776) : GC Tryz.prog 5 #[.slice A l.length ca, .int .i64 most] m (fun v m' => ∃ p, v = .pointer (some ⟨p, 0, none⟩) ∧ CodH m p 44 m m') := by
  refine gc_intro (vs := [_, _]) Tryz.func5 rfl Tryz.ntmps5 (by simp) ?_
  refine awp_u (awp_rs ?_)
  refine ao_r (rig_assign rfl rfl) rfl (ao_nil ?_)
  refine awp_mid (fun r mm => ∃ (l' : List UInt8), RdSl m encB 1 (.slice A l'.length ca) l' ∧ l'.length ≤ l.length ∧ r = [(0, .slice A l'.length ca)] ∧ mm = U [m]) (awp_rs ?_) ?_
  · refine ao_r (rig_move rfl rfl) rfl (ao_r (rig_lenSl rfl rfl Tryz.underlying22) rfl (ao_r (rig_move rfl rfl) rfl (ao_r (rig_gtr rfl rfl rfl) rfl (ao_nil ?_))))
    refine awp_if rfl (fun h => ?_) (fun h => ?_)
    · refine awp_region ?_
      refine ao_r (rig_move rfl rfl) rfl (ao_r (rig_move rfl rfl) rfl (ao_r (rig_slH most rfl rfl rfl Tryz.underlying22 Tryz.sizeOf5 rfl (by omega)) rfl (ao_r (rig_assign rfl rfl) rfl (ao_nil ?_))))
      have hlen : (l.take most).length = most := by simp; omega
      exact ⟨[(0, .slice A most ca)], ⟨rfl, trivial⟩, l.take most, by rw [hlen]; exact RdSl.take encB_len (by decide) ha (by omega) _, by omega, by rw [hlen], rfl⟩
    · exact awp_skip ⟨[(0, .slice A l.length ca)], ⟨rfl, trivial⟩, l, ha, Nat.le_refl _, rfl, rfl⟩
  · rintro r mm ⟨l', hr, hll, rfl, rfl⟩
    refine awp_rs ?_
    refine ao_r (rig_move rfl rfl) rfl (ao_r (rig_build (pl := #[(0, 1), (1, 1)]) (cs := #[.slice A l'.length ca, .int .i64 0]) rfl rfl Tryz.underlying44 Tryz.zeroValue44 (fun w => by kernel_rfl) rfl) rfl ?_)
    refine ao_x (ex_box rfl (Dj_single m) rfl) rfl fun v m2 ⟨p, hu, hm, hD⟩ => ?_
    subst hu hm
    refine ao_r (rig_assign rfl rfl) rfl (ao_nil ?_)
    refine awp_ret ⟨_, res1 Tryz.results5 rfl, p, rfl, _, ⟨A, ca, 0, l', rfl, by omega, by omega, hr⟩, hD, rfl, HpLe.refl _⟩
theorem ez22 : Enters Tryz.prog 22 := enters_of Tryz.func22 (by kernel_rfl) rfl
set_option maxRecDepth 100000 in
theorem Fz22 (m : Hp) (p n cap a : Nat) (A : Option Addr) (h : CellsAt m p 0 [.slice A n cap, .int .i64 a]) : RC Tryz.prog 22 #[.pointer (some ⟨p, 0, none⟩)] m (.bool (decide ((a : Int) < n))) := by
  refine rc_of_gc fun m1 hm => gc_intro (vs := [_]) Tryz.func22 rfl Tryz.ntmps22 (by simp) ?_
  obtain ⟨h0, h1, _⟩ := h.le hm
  refine awp_rs ?_
  refine ao_r (rig_assign rfl rfl) rfl (ao_nil ?_)
  refine awp_ds (.q 0 (.q 1 (.q 2 (.q 3 (.q 4 (.q 5 (.q 6 (.q 7 (.q 8 (.q 9 (.q 10 .fin))))))))))) [] (by kernel_rfl) (by kernel_rfl) ?_
  refine oq rfl (rig_move rfl rfl) rfl (oq rfl (rig_nilCheck rfl rfl) rfl (oq rfl (rig_fieldAddr rfl rfl Tryz.underlying44 rfl Tryz.sizeOf3 rfl) rfl (oq rfl (rig_load1 rfl rfl Tryz.isAgg3 h1) rfl (oq rfl (rig_move rfl rfl) rfl (oq rfl (rig_nilCheck rfl rfl) rfl (oq rfl (rig_fieldAddr rfl rfl Tryz.underlying44 rfl Tryz.sizeOf22 rfl) rfl (oq rfl (rig_load1 rfl rfl Tryz.isAgg22 h0) rfl (oq rfl (rig_lenSl rfl rfl Tryz.underlying22) rfl (oq rfl (rig_lss rfl rfl rfl) rfl (oq rfl (rig_assign rfl rfl) rfl (od_fin ?_)))))))))))
  exact awp_ret ⟨_, res1 Tryz.results22 rfl, rfl, HpLe.refl _⟩
theorem ez7 : Enters Tryz.prog 7 := enters_of Tryz.func7 (by kernel_rfl) rfl
set_option maxRecDepth 100000 in
theorem Fz7 (mb : Hp) (p : Nat) (F m : Hp) (n : Int) (hm : CodH mb p 44 F m) : GC Tryz.prog 7 #[.pointer (some ⟨p, 0, none⟩), .int .i64 n] m (fun v m' => ∃ k : Nat, v = .int .i64 k ∧ (k = 0 ∨ (k : Int) < n) ∧ CodH mb p 44 F m') := by
  obtain ⟨c, ⟨A, cap, a, l, rfl, hal, hl, hrd⟩, hD, rfl, hmb⟩ := hm
  refine gc_intro (vs := [_, _]) Tryz.func7 rfl Tryz.ntmps7 (by simp) ?_
  refine awp_rs ?_
  refine ao_r (rig_assign rfl rfl) rfl (ao_nil ?_)
  have hc : CellsAt (U [Go.Aw.one p (.cells #[.slice A l.length cap, .int .i64 a] 44 (0, 0)), F]) p 0 [.slice A l.length cap, .int .i64 a] := (cellsAt_one p _ 44).le U_le_head
  refine awp_sk fun K1 hK1 => ?_
  refine awp_mid (fun r mm => r = [(0, .pointer (some ⟨p, 0, none⟩)), (1, .int .i64 n), (11, .bool (decide (¬ (a < l.length ∧ 1 ≤ n))))] ∧ mm = U [Go.Aw.one p (.cells #[.slice A l.length cap, .int .i64 a] 44 (0, 0)), F]) (awp_region ?_) ?_
  · refine ao_r (rig_move rfl rfl) rfl (ao_r (rig_call rfl rfl ez22 (Fz22 _ p l.length cap a A hc)) rfl (ao_r (rig_not rfl rfl) rfl (ao_r (rig_move rfl rfl) rfl ?_)))
    by_cases h : a < l.length
    · rw [decide_eq_true (show (a : Int) < l.length by omega)]
      refine ao_on rfl rfl (ao_r (rig_move rfl rfl) rfl (ao_on rfl rfl (ao_r (rig_lss rfl rfl rfl) rfl (ao_r (rig_pickF rfl rfl rfl) rfl (ao_nil ?_)))))
      exact ⟨[(0, .pointer (some ⟨p, 0, none⟩)), (1, .int .i64 n), (11, .bool _)], ⟨rfl, rfl, rfl, trivial⟩, by rw [show decide (¬ (a < l.length ∧ 1 ≤ n)) = decide (n < 1) by rw [decide_eq_decide]; omega], rfl⟩
    · rw [decide_eq_false (show ¬ (a : Int) < l.length by omega)]
      refine ao_no rfl rfl rfl rfl (ao_no rfl rfl rfl rfl (ao_r (rig_pickT rfl rfl rfl) rfl (ao_nil ?_)))
      exact ⟨[(0, .pointer (some ⟨p, 0, none⟩)), (1, .int .i64 n), (11, .bool _)], ⟨rfl, rfl, rfl, trivial⟩, by rw [decide_eq_true (show ¬ (a < l.length ∧ 1 ≤ n) by omega)], rfl⟩
  rintro r mm ⟨rfl, rfl⟩
  refine awp_if rfl (fun h => ?_) (fun h => ?_)
  · refine awp_rs ?_
    refine ao_r (rig_assign rfl rfl) rfl (ao_nil ?_)
    exact awp_ret ⟨_, res1 Tryz.results7 rfl, 0, rfl, .inl rfl, _, ⟨A, cap, a, l, rfl, hal, hl, hrd⟩, hD, rfl, hmb⟩
  · obtain ⟨ha, hn⟩ := Decidable.not_not.1 h
    obtain ⟨N, rfl⟩ : ∃ N : Nat, n = N := ⟨n.toNat, by omega⟩
    obtain ⟨x, hx⟩ := get_lt (l := l) (i := a) ha
    obtain ⟨A', cap', e, hrc⟩ := RdSl.form encB_len (by decide) hrd
    simp only [Value.slice.injEq] at e
    obtain ⟨rfl, _, rfl⟩ := e
    obtain ⟨b, off, rfl, hC⟩ := hrc.resolve_left (fun e => by simp [e] at ha)
    have hxc : cell F b (off + a * 1) = some (.int .u8 (x.toNat : Int)) := cell_le hmb (hC.elem encB_len hx).1
    refine awp_skip (hK1 _ _ (awp_rs ?_))
    obtain ⟨h0, h1, _⟩ := id hc
    refine ao_r (rig_move rfl rfl) rfl (ao_r (rig_nilCheck rfl rfl) rfl (ao_r (rig_fieldAddr rfl rfl Tryz.underlying44 rfl Tryz.sizeOf3 rfl) rfl (ao_r (rig_load1 rfl rfl Tryz.isAgg3 h1) rfl (ao_r (rig_add rfl rfl rfl (w64 _ (by omega) (by omega))) rfl (ao_r (rig_nilCheck rfl rfl) rfl (ao_r (rig_fieldAddr rfl rfl Tryz.underlying44 rfl Tryz.sizeOf3 rfl) rfl ?_))))))
    refine ao_x0 (ex_store (i := 0) rfl hD rfl rfl Tryz.sizeOf3 (by simp [Value.cells, Value.oneCell']) rfl (by simp [Value.cells])) fun u m1 ⟨_, hm, hd⟩ => ?_
    subst hm
    replace hd : Dj [Go.Aw.one p (.cells #[.slice (some ⟨b, off, none⟩) l.length cap, .int .i64 (a + 1 : Nat)] 44 (0, 0)), F] := hd
    show AOps _ _ _ _ _ (U [Go.Aw.one p (.cells #[.slice (some ⟨b, off, none⟩) l.length cap, .int .i64 (a + 1 : Nat)] 44 (0, 0)), F]) _
    refine ao_nil ?_
    have hc2 : CellsAt (U [Go.Aw.one p (.cells #[.slice (some ⟨b, off, none⟩) l.length cap, .int .i64 (a + 1 : Nat)] 44 (0, 0)), F]) p 0 [.slice (some ⟨b, off, none⟩) l.length cap, .int .i64 (a + 1 : Nat)] := (cellsAt_one p _ 44).le U_le_head
    obtain ⟨k0, k1, _⟩ := id hc2
    have hxc2 : cell (U [Go.Aw.one p (.cells #[.slice (some ⟨b, off, none⟩) l.length cap, .int .i64 (a + 1 : Nat)] 44 (0, 0)), F]) b (off + a * 1) = some (.int .u8 (x.toNat : Int)) := cell_le (le_at 1 hd rfl) hxc
    refine awp_ds (.q 0 (.q 1 (.q 2 (.q 3 (.q 4 (.q 5 (.q 6 (.q 7 (.q 8 (.q 9 (.q 10 (.q 11 (.q 12 (.q 13 (.q 14 .fin))))))))))))))) [] (by kernel_rfl) (by kernel_rfl) ?_
    refine oq rfl (rig_move rfl rfl) rfl (oq rfl (rig_nilCheck rfl rfl) rfl (oq rfl (rig_fieldAddr rfl rfl Tryz.underlying44 rfl Tryz.sizeOf22 rfl) rfl (oq rfl (rig_load1 rfl rfl Tryz.isAgg22 k0) rfl (oq rfl (rig_move rfl rfl) rfl (oq rfl (rig_nilCheck rfl rfl) rfl (oq rfl (rig_fieldAddr rfl rfl Tryz.underlying44 rfl Tryz.sizeOf3 rfl) rfl (oq rfl (rig_load1 rfl rfl Tryz.isAgg3 k1) rfl (oq rfl (rig_sub rfl rfl rfl (show IntKind.i64.wrap (((a + 1 : Nat) : Int) - 1) = (a : Int) by rw [show (((a + 1 : Nat) : Int) - 1) = (a : Int) by omega]; exact w64 _ (by omega) (by omega))) rfl (oq rfl (rig_ix a rfl rfl rfl Tryz.underlying22 Tryz.sizeOf5 rfl rfl (by omega)) rfl ?_)))))))))
    refine oq rfl (rig_load1 rfl rfl Tryz.isAgg5 hxc2) rfl (oq rfl (rig_convInt (c := (x.toNat : Int)) rfl rfl Tryz.underlying5 Tryz.underlying3 (by have := x.toNat_lt; exact w64 _ (by omega) (by omega))) rfl (oq rfl (rig_move rfl rfl) rfl (oq rfl (rig_rem (c := ((x.toNat % N : Nat) : Int)) rfl rfl rfl (by omega) (Int.tmod_eq_emod_of_nonneg (by omega))) rfl (oq rfl (rig_assign rfl rfl) rfl (od_fin ?_)))))
    refine awp_ret ⟨_, res1 Tryz.results7 rfl, x.toNat % N, rfl, .inr ?_, _, ⟨_, cap, a + 1, l, rfl, ha, hl, hrd⟩, hd, rfl, hmb⟩
    have := Nat.mod_lt x.toNat (show 0 < N by omega)
    omega
theorem ez23 : Enters Tryz.prog 23 := enters_of Tryz.func23 (by kernel_rfl) rfl
set_option maxRecDepth 100000 in
theorem Fz23 (mb : Hp) (p : Nat) (F m : Hp) (va : Value) (ss : List ByteArray) (hm : CodH mb p 44 F m) (hs : Strs F va ss) (h0 : 0 < ss.length) (hl : ss.length ≤ 1099511627776) (hz : ∀ s ∈ ss, s.size ≤ 10) : GC Tryz.prog 23 #[.pointer (some ⟨p, 0, none⟩), va] m (fun v m' => ∃ s, v = .string s ∧ s.size ≤ 10 ∧ CodH mb p 44 F m') := by
  obtain ⟨A, cap, rfl, _⟩ := RdSl.form encS_len (by decide) hs
  refine gc_intro (vs := [_, _]) Tryz.func23 rfl Tryz.ntmps23 (by simp) ?_
  refine awp_rs ?_
  refine ao_r (rig_assign rfl rfl) rfl (ao_nil ?_)
  refine awp_rs ?_
  refine ao_r (rig_move rfl rfl) rfl (ao_r (rig_move rfl rfl) rfl (ao_r (rig_move rfl rfl) rfl (ao_r (rig_lenSl rfl rfl Tryz.underlying27) rfl ?_)))
  refine ao_x (ex_call rfl rfl ez7 (Fz7 mb p F _ _ hm)) rfl fun v m1 ⟨k, hv, hk, hm1⟩ => ?_
  subst hv
  have hk' : k < ss.length := by omega
  obtain ⟨x, hx⟩ := get_lt hk'
  obtain ⟨b, off, cap', e, hc⟩ := Strs.get (hs.le hm1.le) hx
  simp only [Value.slice.injEq] at e
  obtain ⟨rfl, _, rfl⟩ := e
  refine ao_r (rig_ix k rfl rfl rfl Tryz.underlying27 Tryz.sizeOf9 rfl rfl hk') rfl (ao_r (rig_load1 rfl rfl Tryz.isAgg9 hc) rfl (ao_r (rig_assign rfl rfl) rfl (ao_nil ?_)))
  exact awp_ret ⟨_, res1 Tryz.results23 rfl, x, rfl, hz x (List.mem_of_getElem? hx), hm1⟩
set_option maxRecDepth 100000 in
/-- A list of strings is laid, and one of them is picked. -/
theorem ao_pick {n : Nat} {ops : Array Oper} {l : List Oper} {r : Env} {K : Env → Hp → Prop} {d1 d2 dc : Tmp} {parts : Array (Nat × Operand)} {len : Nat} {t1 t2 : TypeId} {q1 q2 : String} {a1 a2 : Array Edge} {Ts : Array TypeId} (ss : List ByteArray) {mb : Hp} {p : Nat} {F m : Hp} (hm : CodH mb p 44 F m)
    (hd1 : Nat.blt d1 n = true) (hd2 : Nat.blt d2 n = true) (hc : ev ((d1, .slice none 0 0) :: r) (.tmp dc) = some (.pointer (some ⟨p, 0, none⟩))) (hne : Nat.beq d1 dc = false)
    {vs : List (Nat × Value)} (hev : eparts r parts.toList = some vs) (hlen : ss.length = len) (hl0 : 0 < len) (hl1 : len ≤ 100) (hfill : Instr.fill (fun i => some (i * 1, 1)) ((Array.range (len * 1)).map ((Value.string ⟨#[]⟩).cells[· % (Value.string ⟨#[]⟩).cells.size]!)) vs = some (ss.map Value.string).toArray) (hz : ∀ s ∈ ss, s.size ≤ 10)
    (k : ∀ s m' F', s.size ≤ 10 → HpLe F F' → CodH mb p 44 F' m' → ∀ b, AOps Tryz.prog n ops l ((d2, .string s) :: (d1, b) :: r) m' K) :
    AOps Tryz.prog n ops ({ dst := some d1, op := .buildSlice 27 len parts, type := t1, pos := q1, after := a1, guard := none } :: { dst := some d2, op := .call { callee := .value (.func 23), args := #[.tmp dc, .tmp d1], argTypes := Ts }, type := t2, pos := q2, after := a2, guard := none } :: l) r m K := by
  rw [U_one m]
  refine ao_x (ex_buildSlice (cs := (ss.map Value.string).toArray) rfl (Dj_single m) hev Tryz.underlying27 Tryz.sizeOf9 Tryz.zeroValue9 (by omega) (by omega) hfill) hd1 fun v m1 ⟨b, hv, hm1, hD⟩ => ?_
  subst hv hm1
  obtain ⟨h2, hD2⟩ := hm.add hD
  have hstr : Strs (U [Go.Aw.one b (.cells (ss.map Value.string).toArray 9 (0, 0)), F]) (.slice (some ⟨b, 0, none⟩) len len) ss := by
    refine RdSl.le (m := Go.Aw.one b (.cells (ss.map Value.string).toArray 9 (0, 0))) ?_ U_le_head
    refine ⟨_, len, len, rfl, by rw [rows_length encS_len, hlen], .inr ⟨b, 0, rfl, ?_⟩⟩
    rw [rows_encS]
    exact cellsAt_one b (ss.map Value.string).toArray 9
  have ec : ev ((d1, Value.slice (some ⟨b, 0, none⟩) len len) :: r) (.tmp dc) = some (.pointer (some ⟨p, 0, none⟩)) := by
    simp only [ev, Env.get_cons, hne, cond_false] at hc ⊢
    exact hc
  have e1 : ev ((d1, Value.slice (some ⟨b, 0, none⟩) len len) :: r) (.tmp d1) = some (Value.slice (some ⟨b, 0, none⟩) len len) := by simp [ev, Env.get_cons]
  refine ao_x (ex_call (vs := [_, _]) rfl (by simp only [evs, ec, e1, Option.bind_some, Option.map_some]) ez23 (Fz23 mb p _ _ _ ss h2 hstr (by omega) (by omega) hz)) hd2 fun v m2 ⟨s, hv, hs, hm2⟩ => ?_
  subst hv
  exact k s m2 _ hs (le_at 1 hD2 rfl) hm2 _
end Go.Proofs.YtmofaabndjnhjaaGreat
/- The walks of the generator of lines: Text, Line, lines. -/
set_option linter.unusedVariables false
namespace Go.Proofs.YtmofaabndjnhjaaGreat
open Go Go.Aw Go.RowKit
theorem ao_cat {n : Nat} {ops : Array Oper} {l : List Oper} {r : Env} {m : Hp} {K : Env → Hp → Prop} {d : Tmp} {x y : Operand} {T T' ty : TypeId} {q : String} {af : Array Edge} {s t : ByteArray} {a b : Nat} (hs : s.size ≤ a) (ht : t.size ≤ b)
    (ex : ev r x = some (.string s)) (ey : ev r y = some (.string t)) (hab : a + b ≤ 1000) (hd : Nat.blt d n = true) (k : ∀ u : ByteArray, u.size ≤ a + b → AOps Tryz.prog n ops l ((d, .string u) :: r) m K) :
    AOps Tryz.prog n ops ({ dst := some d, op := .binOp .add T x y T', type := ty, pos := q, after := af, guard := none } :: l) r m K :=
  ao_r (rig_sadd rfl ex ey (by omega)) hd (k _ (by rw [ByteArray.size_append]; omega))
theorem ez24 : Enters Tryz.prog 24 := enters_of Tryz.func24 (by kernel_rfl) rfl
set_option maxRecDepth 100000 in
theorem Fz24 (mb : Hp) (p : Nat) (F m : Hp) (most : Nat) (hmost : most ≤ 50) (h : CodH mb p 44 F m) : GC Tryz.prog 24 #[.pointer (some ⟨p, 0, none⟩), .int .i64 most] m (fun v m' => ∃ s, v = .string s ∧ s.size ≤ 10 * most ∧ ∃ F', HpLe F F' ∧ CodH mb p 44 F' m') := by
  refine gc_intro (vs := [_, _]) Tryz.func24 rfl Tryz.ntmps24 (by simp) ?_
  refine awp_rs (ao_r (rig_assign rfl rfl) rfl (ao_nil ?_))
  refine awp_rs (ao_r (rig_assign rfl rfl) rfl (ao_nil ?_))
  refine awp_sk fun K1 hK1 => ?_
  refine awp_rs ?_
  refine ao_r (rig_move rfl rfl) rfl (ao_r (rig_move rfl rfl) rfl (ao_r (rig_add rfl rfl rfl (w64 _ (by omega) (by omega))) rfl ?_))
  refine ao_x (ex_call rfl rfl ez7 (Fz7 mb p F _ _ h)) rfl fun v m1 ⟨k, hv, hk, h⟩ => ?_
  subst hv
  refine ao_r (rig_assign rfl rfl) rfl (ao_nil ?_)
  refine awp_block ?_
  refine awp_le [(0, .pointer (some ⟨p, 0, none⟩)), (5, .string ⟨#[]⟩), (6, .int .i64 k)] ⟨rfl, rfl, rfl, trivial⟩ ?_
  refine awp_loop (fun k r mm => ∃ s : ByteArray, k ≤ most ∧ s.size + 10 * k ≤ 10 * most ∧ r = [(0, .pointer (some ⟨p, 0, none⟩)), (5, .string s), (6, .int .i64 (k : Nat))] ∧ ∃ F', HpLe F F' ∧ CodH mb p 44 F' mm) k ⟨_, by omega, by show 0 + _ ≤ _; omega, rfl, F, HpLe.refl _, h⟩ ?_
  rintro k r mm ⟨s, hk2, hs, rfl, F1, hF1, h⟩
  refine awp_sk fun K2 hK2 => awp_rs ?_
  refine ao_r (rig_move rfl rfl) rfl (ao_r (rig_gtr rfl rfl rfl) rfl (ao_nil ?_))
  refine awp_if rfl (fun h1 => ?_) (fun h1 => ?_)
  · refine awp_skip (hK2 _ _ (awp_sk fun K3 hK3 => awp_block (awp_region ?_)))
    refine ao_r (rig_move rfl rfl) rfl (ao_r (rig_move rfl rfl) rfl ?_)
    refine ao_pick [⟨#[97]⟩, ⟨#[98]⟩, ⟨#[32]⟩, ⟨#[49]⟩, ⟨#[117, 115, 101, 114]⟩, ⟨#[61]⟩, ⟨#[34]⟩, ⟨#[55]⟩, ⟨#[46]⟩, ⟨#[44]⟩, ⟨#[120, 32, 121]⟩, ⟨#[49, 48, 46, 50]⟩, ⟨#[45]⟩, ⟨#[195, 169]⟩, ⟨#[91]⟩, ⟨#[105, 100]⟩, ⟨#[9]⟩, ⟨#[58]⟩] h rfl rfl rfl rfl rfl rfl (by decide) (by decide) (by kernel_rfl) (by decide) fun s1 m1 F2 hs1 hF2 h b1 => ?_
    refine ao_cat (a := s.size) (b := 10) (Nat.le_refl _) hs1 rfl rfl (by omega) rfl fun u hu => ?_
    refine ao_r (rig_assign rfl rfl) rfl (ao_nil ?_)
    refine hK3 _ _ (awp_region ?_)
    obtain ⟨j, rfl⟩ : ∃ j, k = j + 1 := ⟨k - 1, by omega⟩
    refine ao_r (rig_move rfl rfl) rfl (ao_r (rig_sub rfl rfl rfl (show IntKind.i64.wrap (((j + 1 : Nat) : Int) - 1) = (j : Int) by rw [show (((j + 1 : Nat) : Int) - 1) = (j : Int) by omega]; exact w64 _ (by omega) (by omega))) rfl (ao_r (rig_assign rfl rfl) rfl (ao_nil ?_)))
    exact ⟨[(0, .pointer (some ⟨p, 0, none⟩)), (5, .string u), (6, .int .i64 (j : Nat))], j, ⟨rfl, rfl, rfl, trivial⟩, by omega, u, by omega, by omega, rfl, F2, hF1.trans hF2, h⟩
  · refine awp_exit (hK1 _ _ (awp_rs ?_))
    refine ao_r (rig_move rfl rfl) rfl (ao_r (rig_assign rfl rfl) rfl (ao_nil ?_))
    exact awp_ret ⟨_, res1 Tryz.results24 rfl, s, rfl, by omega, F1, hF1, h⟩
theorem ez8 : Enters Tryz.prog 8 := enters_of Tryz.func8 (by kernel_rfl) rfl
set_option maxRecDepth 100000 in
theorem Fz8 (mb : Hp) (p : Nat) (F m : Hp) (h : CodH mb p 44 F m) : GC Tryz.prog 8 #[.pointer (some ⟨p, 0, none⟩)] m (fun v m' => ∃ s, v = .string s ∧ s.size ≤ 200 ∧ ∃ F', HpLe F F' ∧ CodH mb p 44 F' m') := by
  refine gc_intro (vs := [_]) Tryz.func8 rfl Tryz.ntmps8 (by simp) ?_
  refine awp_rs (ao_r (rig_assign rfl rfl) rfl (ao_nil ?_))
  refine awp_sk fun K1 hK1 => ?_
  refine awp_rs ?_
  refine ao_r (rig_move rfl rfl) rfl ?_
  refine ao_x (ex_call rfl rfl ez7 (Fz7 mb p F _ _ h)) rfl fun v m1 ⟨k, hv, _, h⟩ => ?_
  subst hv
  refine ao_nil ?_
  refine awp_block ?_
  refine awp_rs (ao_r (rig_eql rfl rfl rfl) rfl (ao_r (rig_assign rfl rfl) rfl (ao_nil ?_)))
  refine awp_if rfl (fun _ => ?_) (fun _ => ?_)
  · refine awp_rs ?_
    refine ao_r (rig_move rfl rfl) rfl ?_
    refine ao_pick [⟨#[49]⟩, ⟨#[50]⟩, ⟨#[57]⟩] h rfl rfl rfl rfl rfl rfl (by decide) (by decide) (by kernel_rfl) (by decide) fun s1 m1 F1 hs1 hF1 h b1 => ?_
    refine ao_cat (a := 6) (by decide) hs1 rfl rfl (by decide) rfl fun u10 hu10 => ?_
    refine ao_cat (b := 2) hu10 (by decide) rfl rfl (by decide) rfl fun u11 hu11 => ?_
    refine ao_r (rig_move rfl rfl) rfl ?_
    refine ao_pick [⟨#[48]⟩, ⟨#[53]⟩] h rfl rfl rfl rfl rfl rfl (by decide) (by decide) (by kernel_rfl) (by decide) fun s2 m2 F2 hs2 hF2 h b2 => ?_
    refine ao_cat hu11 hs2 rfl rfl (by decide) rfl fun u15 hu15 => ?_
    refine ao_cat (b := 8) hu15 (by decide) rfl rfl (by decide) rfl fun u16 hu16 => ?_
    refine ao_r (rig_move rfl rfl) rfl ?_
    refine ao_pick [⟨#[49]⟩, ⟨#[50]⟩] h rfl rfl rfl rfl rfl rfl (by decide) (by decide) (by kernel_rfl) (by decide) fun s3 m3 F3 hs3 hF3 h b3 => ?_
    refine ao_cat hu16 hs3 rfl rfl (by decide) rfl fun u20 hu20 => ?_
    refine ao_cat (b := 8) hu20 (by decide) rfl rfl (by decide) rfl fun u21 hu21 => ?_
    refine ao_r (rig_move rfl rfl) rfl ?_
    refine ao_pick [⟨#[105, 110, 102, 111]⟩, ⟨#[119, 97, 114, 110]⟩] h rfl rfl rfl rfl rfl rfl (by decide) (by decide) (by kernel_rfl) (by decide) fun s4 m4 F4 hs4 hF4 h b4 => ?_
    refine ao_cat hu21 hs4 rfl rfl (by decide) rfl fun u25 hu25 => ?_
    refine ao_cat (b := 4) hu25 (by decide) rfl rfl (by decide) rfl fun u26 hu26 => ?_
    refine ao_r (rig_move rfl rfl) rfl ?_
    refine ao_pick [⟨#[55]⟩, ⟨#[116, 49]⟩, ⟨#[116, 50]⟩] h rfl rfl rfl rfl rfl rfl (by decide) (by decide) (by kernel_rfl) (by decide) fun s5 m5 F5 hs5 hF5 h b5 => ?_
    refine ao_cat hu26 hs5 rfl rfl (by decide) rfl fun u30 hu30 => ?_
    refine ao_r (rig_assign rfl rfl) rfl (ao_nil ?_)
    exact awp_ret ⟨_, res1 Tryz.results8 rfl, _, rfl, by omega, F5, ((((hF1).trans hF2).trans hF3).trans hF4).trans hF5, h⟩
  refine awp_rs (ao_r (rig_eql rfl rfl rfl) rfl (ao_r (rig_assign rfl rfl) rfl (ao_nil ?_)))
  refine awp_if rfl (fun _ => ?_) (fun _ => ?_)
  · refine awp_rs ?_
    refine ao_r (rig_move rfl rfl) rfl ?_
    refine ao_pick [⟨#[105, 110, 102, 111]⟩, ⟨#[119, 97, 114, 110]⟩, ⟨#[100, 101, 98, 117, 103]⟩] h rfl rfl rfl rfl rfl rfl (by decide) (by decide) (by kernel_rfl) (by decide) fun s1 m1 F1 hs1 hF1 h b1 => ?_
    refine ao_cat (a := 6) (by decide) hs1 rfl rfl (by decide) rfl fun u36 hu36 => ?_
    refine ao_cat (b := 6) hu36 (by decide) rfl rfl (by decide) rfl fun u37 hu37 => ?_
    refine ao_r (rig_move rfl rfl) rfl ?_
    refine ao_pick [⟨#[97, 110, 110]⟩, ⟨#[98, 111, 98]⟩] h rfl rfl rfl rfl rfl rfl (by decide) (by decide) (by kernel_rfl) (by decide) fun s2 m2 F2 hs2 hF2 h b2 => ?_
    refine ao_cat hu37 hs2 rfl rfl (by decide) rfl fun u41 hu41 => ?_
    refine ao_cat (b := 4) hu41 (by decide) rfl rfl (by decide) rfl fun u42 hu42 => ?_
    refine ao_r (rig_move rfl rfl) rfl ?_
    refine ao_pick [⟨#[49, 48, 46, 50]⟩, ⟨#[49, 48, 46, 51]⟩, ⟨#[55, 46, 55]⟩] h rfl rfl rfl rfl rfl rfl (by decide) (by decide) (by kernel_rfl) (by decide) fun s3 m3 F3 hs3 hF3 h b3 => ?_
    refine ao_cat hu42 hs3 rfl rfl (by decide) rfl fun u46 hu46 => ?_
    refine ao_r (rig_assign rfl rfl) rfl (ao_nil ?_)
    exact awp_ret ⟨_, res1 Tryz.results8 rfl, _, rfl, by omega, F3, ((hF1).trans hF2).trans hF3, h⟩
  refine awp_rs (ao_r (rig_eql rfl rfl rfl) rfl (ao_r (rig_assign rfl rfl) rfl (ao_nil ?_)))
  refine awp_if rfl (fun _ => ?_) (fun _ => ?_)
  · refine awp_rs ?_
    refine ao_r (rig_move rfl rfl) rfl ?_
    refine ao_pick [⟨#[102]⟩, ⟨#[103]⟩] h rfl rfl rfl rfl rfl rfl (by decide) (by decide) (by kernel_rfl) (by decide) fun s1 m1 F1 hs1 hF1 h b1 => ?_
    refine ao_cat (a := 5) (by decide) hs1 rfl rfl (by decide) rfl fun u52 hu52 => ?_
    refine ao_r (rig_move rfl rfl) rfl ?_
    refine ao_pick [⟨#[40, 49, 41]⟩, ⟨#[40, 50, 50, 41]⟩] h rfl rfl rfl rfl rfl rfl (by decide) (by decide) (by kernel_rfl) (by decide) fun s2 m2 F2 hs2 hF2 h b2 => ?_
    refine ao_cat hu52 hs2 rfl rfl (by decide) rfl fun u56 hu56 => ?_
    refine ao_r (rig_assign rfl rfl) rfl (ao_nil ?_)
    exact awp_ret ⟨_, res1 Tryz.results8 rfl, _, rfl, by omega, F2, (hF1).trans hF2, h⟩
  refine awp_rs (ao_r (rig_eql rfl rfl rfl) rfl (ao_r (rig_assign rfl rfl) rfl (ao_nil ?_)))
  refine awp_if rfl (fun _ => ?_) (fun _ => ?_)
  · refine awp_rs ?_
    refine ao_r (rig_move rfl rfl) rfl ?_
    refine ao_pick [⟨#[97, 110, 110]⟩, ⟨#[98, 111, 98]⟩, ⟨#[101, 118, 101]⟩] h rfl rfl rfl rfl rfl rfl (by decide) (by decide) (by kernel_rfl) (by decide) fun s1 m1 F1 hs1 hF1 h b1 => ?_
    refine ao_cat (a := 5) (by decide) hs1 rfl rfl (by decide) rfl fun u62 hu62 => ?_
    refine ao_cat (b := 8) hu62 (by decide) rfl rfl (by decide) rfl fun u63 hu63 => ?_
    refine ao_r (rig_move rfl rfl) rfl ?_
    refine ao_pick [⟨#[105, 110]⟩, ⟨#[111, 117, 116]⟩] h rfl rfl rfl rfl rfl rfl (by decide) (by decide) (by kernel_rfl) (by decide) fun s2 m2 F2 hs2 hF2 h b2 => ?_
    refine ao_cat hu63 hs2 rfl rfl (by decide) rfl fun u67 hu67 => ?_
    refine ao_r (rig_assign rfl rfl) rfl (ao_nil ?_)
    exact awp_ret ⟨_, res1 Tryz.results8 rfl, _, rfl, by omega, F2, (hF1).trans hF2, h⟩
  refine awp_rs (ao_r (rig_eql rfl rfl rfl) rfl (ao_r (rig_assign rfl rfl) rfl (ao_nil ?_)))
  refine awp_if rfl (fun _ => ?_) (fun _ => ?_)
  · refine awp_rs ?_
    refine ao_r (rig_move rfl rfl) rfl ?_
    refine ao_pick [⟨#[105, 110, 102, 111]⟩, ⟨#[119, 97, 114, 110]⟩] h rfl rfl rfl rfl rfl rfl (by decide) (by decide) (by kernel_rfl) (by decide) fun s1 m1 F1 hs1 hF1 h b1 => ?_
    refine ao_cat (a := 11) (by decide) hs1 rfl rfl (by decide) rfl fun u73 hu73 => ?_
    refine ao_cat (b := 8) hu73 (by decide) rfl rfl (by decide) rfl fun u74 hu74 => ?_
    refine ao_r (rig_move rfl rfl) rfl ?_
    refine ao_pick [⟨#[49]⟩, ⟨#[45, 50, 48]⟩, ⟨#[116, 114, 117, 101]⟩] h rfl rfl rfl rfl rfl rfl (by decide) (by decide) (by kernel_rfl) (by decide) fun s2 m2 F2 hs2 hF2 h b2 => ?_
    refine ao_cat hu74 hs2 rfl rfl (by decide) rfl fun u78 hu78 => ?_
    refine ao_cat (b := 1) hu78 (by decide) rfl rfl (by decide) rfl fun u79 hu79 => ?_
    refine ao_r (rig_assign rfl rfl) rfl (ao_nil ?_)
    exact awp_ret ⟨_, res1 Tryz.results8 rfl, _, rfl, by omega, F2, (hF1).trans hF2, h⟩
  refine awp_rs (ao_r (rig_eql rfl rfl rfl) rfl (ao_r (rig_assign rfl rfl) rfl (ao_nil ?_)))
  refine awp_if rfl (fun _ => ?_) (fun _ => ?_)
  · refine awp_rs ?_
    refine ao_r (rig_move rfl rfl) rfl ?_
    refine ao_pick [⟨#[49]⟩, ⟨#[50]⟩] h rfl rfl rfl rfl rfl rfl (by decide) (by decide) (by kernel_rfl) (by decide) fun s1 m1 F1 hs1 hF1 h b1 => ?_
    refine ao_cat (a := 5) (by decide) hs1 rfl rfl (by decide) rfl fun u85 hu85 => ?_
    refine ao_cat (b := 8) hu85 (by decide) rfl rfl (by decide) rfl fun u86 hu86 => ?_
    refine ao_r (rig_move rfl rfl) rfl ?_
    refine ao_pick [⟨#[49]⟩, ⟨#[50]⟩] h rfl rfl rfl rfl rfl rfl (by decide) (by decide) (by kernel_rfl) (by decide) fun s2 m2 F2 hs2 hF2 h b2 => ?_
    refine ao_cat hu86 hs2 rfl rfl (by decide) rfl fun u90 hu90 => ?_
    refine ao_cat (b := 1) hu90 (by decide) rfl rfl (by decide) rfl fun u91 hu91 => ?_
    refine ao_r (rig_move rfl rfl) rfl ?_
    refine ao_pick [⟨#[111, 107]⟩, ⟨#[102, 97, 105, 108, 101, 100]⟩] h rfl rfl rfl rfl rfl rfl (by decide) (by decide) (by kernel_rfl) (by decide) fun s3 m3 F3 hs3 hF3 h b3 => ?_
    refine ao_cat hu91 hs3 rfl rfl (by decide) rfl fun u95 hu95 => ?_
    refine ao_r (rig_assign rfl rfl) rfl (ao_nil ?_)
    exact awp_ret ⟨_, res1 Tryz.results8 rfl, _, rfl, by omega, F3, ((hF1).trans hF2).trans hF3, h⟩
  refine awp_skip (hK1 _ _ (awp_rs ?_))
  refine ao_r (rig_move rfl rfl) rfl ?_
  refine ao_x (ex_call rfl rfl ez24 (Fz24 mb p F _ 6 (by decide) h)) rfl fun v m1 ⟨s, hv, hs, F1, hF1, h⟩ => ?_
  subst hv
  refine ao_r (rig_assign rfl rfl) rfl (ao_nil ?_)
  exact awp_ret ⟨_, res1 Tryz.results8 rfl, _, rfl, by omega, F1, hF1, h⟩

end Go.Proofs.YtmofaabndjnhjaaGreat
