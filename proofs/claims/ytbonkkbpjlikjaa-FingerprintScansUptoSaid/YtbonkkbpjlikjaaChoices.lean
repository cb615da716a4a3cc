/- Rows of the table of types (seat of chapter 8). -/
import Derived.Test.YtbonkkbpjlikjaaPlain
import Derived.Test.YtbonkkbpjlikjaaProg
import Derived.Test.YtbonkkbpjlikjaaHeap
set_option linter.unusedVariables false
namespace Go.Proofs.Ytbonkkbpjlikjaa
open Go Go.Aw Go.RowKit
theorem inf9 : Inf Try.prog 9 (.string ⟨#[]⟩) 1 16 := inf_of (by kernel_rfl)
theorem inf5 : Inf Try.prog 5 (.int .u8 0) 1 1 := inf_of (by kernel_rfl)
theorem inf3 : Inf Try.prog 3 (.int .i64 0) 1 8 := inf_of (by kernel_rfl)
theorem inf45 : Inf Try.prog 45 (.agg #[.int .i64 0, .int .i64 0, .int .i64 0]) 3 24 := inf_of (by kernel_rfl)
theorem inf68 : Inf Try.prog 68 (.agg #[.string ⟨#[]⟩, .int .i64 0]) 2 24 := inf_of (by kernel_rfl)
theorem inf61 : Inf Try.prog 61 (.agg #[.int .i64 0, .slice none 0 0, .bool false, .bool false, .int .i64 0]) 5 48 := inf_of (by kernel_rfl)
end Go.Proofs.Ytbonkkbpjlikjaa
/- The walks of the generator of lines. -/
set_option linter.unusedVariables false
namespace Go.Proofs.Ytbonkkbpjlikjaa
open Go Go.Aw Go.RowKit
theorem e5 : Enters Try.prog 5 := enters_of Try.func5 (by kernel_rfl) rfl
set_option maxRecDepth 100000 in
theorem F5 (m : Hp) (A : Option Addr) (ca : Nat) (l : List UInt8) (most : Nat) (ha : RdSl m encB 1 (.slice A l.length ca) l) (hcap : l.length ≤ ca) (hl : l.length ≤ 1099511627776) (hmost : most ≤ 1099511627776) : GC Try.prog 5 #[.slice A l.length ca, .int .i64 most] m (fun v m' => ∃ p, v = .pointer (some ⟨p, 0, none⟩) ∧ CodH m p 52 m m') := by
  refine gc_intro (vs := [_, _]) Try.func5 rfl Try.ntmps5 (by simp) ?_
  refine awp_u (awp_rs ?_)
  refine ao_r (rig_assign rfl rfl) rfl (ao_nil ?_)
  refine awp_mid (fun r mm => ∃ (l' : List UInt8), RdSl m encB 1 (.slice A l'.length ca) l' ∧ l'.length ≤ l.length ∧ r = [(0, .slice A l'.length ca)] ∧ mm = U [m]) (awp_rs ?_) ?_
  · refine ao_r (rig_move rfl rfl) rfl (ao_r (rig_lenSl rfl rfl Try.underlying22) rfl (ao_r (rig_move rfl rfl) rfl (ao_r (rig_gtr rfl rfl rfl) rfl (ao_nil ?_))))
    refine awp_if rfl (fun h => ?_) (fun h => ?_)
    · refine awp_region ?_
      refine ao_r (rig_move rfl rfl) rfl (ao_r (rig_move rfl rfl) rfl (ao_r (rig_slH most rfl rfl rfl Try.underlying22 Try.sizeOf5 rfl (by omega)) rfl (ao_r (rig_assign rfl rfl) rfl (ao_nil ?_))))
      have hlen : (l.take most).length = most := by simp; omega
      exact ⟨[(0, .slice A most ca)], ⟨rfl, trivial⟩, l.take most, by rw [hlen]; exact RdSl.take encB_len (by decide) ha (by omega) _, by omega, by rw [hlen], rfl⟩
    · exact awp_skip ⟨[(0, .slice A l.length ca)], ⟨rfl, trivial⟩, l, ha, Nat.le_refl _, rfl, rfl⟩
  · rintro r mm ⟨l', hr, hll, rfl, rfl⟩
    refine awp_rs ?_
    refine ao_r (rig_move rfl rfl) rfl (ao_r (rig_build (pl := #[(0, 1), (1, 1)]) (cs := #[.slice A l'.length ca, .int .i64 0]) rfl rfl Try.underlying52 Try.zeroValue52 (fun w => by kernel_rfl) rfl) rfl ?_)
    refine ao_x (ex_box rfl (Dj_single m) rfl) rfl fun v m2 ⟨p, hu, hm, hD⟩ => ?_
    subst hu hm
    refine ao_r (rig_assign rfl rfl) rfl (ao_nil ?_)
    refine awp_ret ⟨_, res1 Try.results5 rfl, p, rfl, _, ⟨A, ca, 0, l', rfl, by omega, by omega, hr⟩, hD, rfl, HpLe.refl _⟩
theorem e17 : Enters Try.prog 17 := enters_of Try.func17 (by kernel_rfl) rfl
set_option maxRecDepth 100000 in
theorem F17 (m : Hp) (p n cap a : Nat) (A : Option Addr) (h : CellsAt m p 0 [.slice A n cap, .int .i64 a]) : RC Try.prog 17 #[.pointer (some ⟨p, 0, none⟩)] m (.bool (decide ((a : Int) < n))) := by
  refine rc_of_gc fun m1 hm => gc_intro (vs := [_]) Try.func17 rfl Try.ntmps17 (by simp) ?_
  obtain ⟨h0, h1, _⟩ := h.le hm
  refine awp_rs ?_
  refine ao_r (rig_assign rfl rfl) rfl (ao_nil ?_)
  refine awp_ds (.q 0 (.q 1 (.q 2 (.q 3 (.q 4 (.q 5 (.q 6 (.q 7 (.q 8 (.q 9 (.q 10 .fin))))))))))) [] (by kernel_rfl) (by kernel_rfl) ?_
  refine oq rfl (rig_move rfl rfl) rfl (oq rfl (rig_nilCheck rfl rfl) rfl (oq rfl (rig_fieldAddr rfl rfl Try.underlying52 rfl Try.sizeOf3 rfl) rfl (oq rfl (rig_load1 rfl rfl Try.isAgg3 h1) rfl (oq rfl (rig_move rfl rfl) rfl (oq rfl (rig_nilCheck rfl rfl) rfl (oq rfl (rig_fieldAddr rfl rfl Try.underlying52 rfl Try.sizeOf22 rfl) rfl (oq rfl (rig_load1 rfl rfl Try.isAgg22 h0) rfl (oq rfl (rig_lenSl rfl rfl Try.underlying22) rfl (oq rfl (rig_lss rfl rfl rfl) rfl (oq rfl (rig_assign rfl rfl) rfl (od_fin ?_)))))))))))
  exact awp_ret ⟨_, res1 Try.results17 rfl, rfl, HpLe.refl _⟩
theorem e7 : Enters Try.prog 7 := enters_of Try.func7 (by kernel_rfl) rfl
set_option maxRecDepth 100000 in
theorem F7 (mb : Hp) (p : Nat) (F m : Hp) (n : Int) (hm : CodH mb p 52 F m) : GC Try.prog 7 #[.pointer (some ⟨p, 0, none⟩), .int .i64 n] m (fun v m' => ∃ k : Nat, v = .int .i64 k ∧ (k = 0 ∨ (k : Int) < n) ∧ CodH mb p 52 F m') := by
  obtain ⟨c, ⟨A, cap, a, l, rfl, hal, hl, hrd⟩, hD, rfl, hmb⟩ := hm
  refine gc_intro (vs := [_, _]) Try.func7 rfl Try.ntmps7 (by simp) ?_
  refine awp_rs ?_
  refine ao_r (rig_assign rfl rfl) rfl (ao_nil ?_)
  have hc : CellsAt (U [Go.Aw.one p (.cells #[.slice A l.length cap, .int .i64 a] 52 (0, 0)), F]) p 0 [.slice A l.length cap, .int .i64 a] := (cellsAt_one p _ 52).le U_le_head
  refine awp_sk fun K1 hK1 => ?_
  refine awp_mid (fun r mm => r = [(0, .pointer (some ⟨p, 0, none⟩)), (1, .int .i64 n), (11, .bool (decide (¬ (a < l.length ∧ 1 ≤ n))))] ∧ mm = U [Go.Aw.one p (.cells #[.slice A l.length cap, .int .i64 a] 52 (0, 0)), F]) (awp_region ?_) ?_
  · refine ao_r (rig_move rfl rfl) rfl (ao_r (rig_call rfl rfl e17 (F17 _ p l.length cap a A hc)) rfl (ao_r (rig_not rfl rfl) rfl (ao_r (rig_move rfl rfl) rfl ?_)))
    by_cases h : a < l.length
    · rw [decide_eq_true (show (a : Int) < l.length by omega)]
      refine ao_on rfl rfl (ao_r (rig_move rfl rfl) rfl (ao_on rfl rfl (ao_r (rig_lss rfl rfl rfl) rfl (ao_r (rig_pickF rfl rfl rfl) rfl (ao_nil ?_)))))
      exact ⟨[(0, .pointer (some ⟨p, 0, none⟩)), (1, .int .i64 n), (11, .bool _)], ⟨rfl, rfl, rfl, trivial⟩, by rw [show decide (¬ (a < l.length ∧ 1 ≤ n)) = decide (n < 1) by rw [decide_eq_decide]; omega], rfl⟩
    · rw [decide_eq_false (show ¬ (a : Int) < l.length by omega)]
      refine ao_no rfl rfl rfl rfl (ao_no rfl rfl rfl rfl (ao_r (rig_pickT rfl rfl rfl) rfl (ao_nil ?_)))
      exact ⟨[(0, .pointer (some ⟨p, 0, none⟩)), (1, .int .i64 n), (11, .bool _)], ⟨rfl, rfl, rfl, trivial⟩, by rw [decide_eq_true (show ¬ (a < l.length ∧ 1 ≤ n) by omega)], rfl⟩
  rintro r mm ⟨rfl, rfl⟩
  refine awp_if rfl (fun h => ?_) (fun h => ?_)
  · refine awp_rs ?_
    refine ao_r (rig_assign rfl rfl) rfl (ao_nil ?_)
    exact awp_ret ⟨_, res1 Try.results7 rfl, 0, rfl, .inl rfl, _, ⟨A, cap, a, l, rfl, hal, hl, hrd⟩, hD, rfl, hmb⟩
  · obtain ⟨ha, hn⟩ := Decidable.not_not.1 h
    obtain ⟨N, rfl⟩ : ∃ N : Nat, n = N := ⟨n.toNat, by omega⟩
    obtain ⟨x, hx⟩ := get_lt (l := l) (i := a) ha
    obtain ⟨A', cap', e, hrc⟩ := RdSl.form encB_len (by decide) hrd
    simp only [Value.slice.injEq] at e
    obtain ⟨rfl, _, rfl⟩ := e
    obtain ⟨b, off, rfl, hC⟩ := hrc.resolve_left (fun e => by simp [e] at ha)
    have hxc : cell F b (off + a * 1) = some (.int .u8 (x.toNat : Int)) := cell_le hmb (hC.elem encB_len hx).1
    refine awp_skip (hK1 _ _ (awp_rs ?_))
    obtain ⟨h0, h1, _⟩ := id hc
    refine ao_r (rig_move rfl rfl) rfl (ao_r (rig_nilCheck rfl rfl) rfl (ao_r (rig_fieldAddr rfl rfl Try.underlying52 rfl Try.sizeOf3 rfl) rfl (ao_r (rig_load1 rfl rfl Try.isAgg3 h1) rfl (ao_r (rig_add rfl rfl rfl (w64 _ (by omega) (by omega))) rfl (ao_r (rig_nilCheck rfl rfl) rfl (ao_r (rig_fieldAddr rfl rfl Try.underlying52 rfl Try.sizeOf3 rfl) rfl ?_))))))
    refine ao_x0 (ex_store (i := 0) rfl hD rfl rfl Try.sizeOf3 (by simp [Value.cells, Value.oneCell']) rfl (by simp [Value.cells])) fun u m1 ⟨_, hm, hd⟩ => ?_
    subst hm
    replace hd : Dj [Go.Aw.one p (.cells #[.slice (some ⟨b, off, none⟩) l.length cap, .int .i64 (a + 1 : Nat)] 52 (0, 0)), F] := hd
    show AOps _ _ _ _ _ (U [Go.Aw.one p (.cells #[.slice (some ⟨b, off, none⟩) l.length cap, .int .i64 (a + 1 : Nat)] 52 (0, 0)), F]) _
    refine ao_nil ?_
    have hc2 : CellsAt (U [Go.Aw.one p (.cells #[.slice (some ⟨b, off, none⟩) l.length cap, .int .i64 (a + 1 : Nat)] 52 (0, 0)), F]) p 0 [.slice (some ⟨b, off, none⟩) l.length cap, .int .i64 (a + 1 : Nat)] := (cellsAt_one p _ 52).le U_le_head
    obtain ⟨k0, k1, _⟩ := id hc2
    have hxc2 : cell (U [Go.Aw.one p (.cells #[.slice (some ⟨b, off, none⟩) l.length cap, .int .i64 (a + 1 : Nat)] 52 (0, 0)), F]) b (off + a * 1) = some (.int .u8 (x.toNat : Int)) := cell_le (le_at 1 hd rfl) hxc
    refine awp_ds (.q 0 (.q 1 (.q 2 (.q 3 (.q 4 (.q 5 (.q 6 (.q 7 (.q 8 (.q 9 (.q 10 (.q 11 (.q 12 (.q 13 (.q 14 .fin))))))))))))))) [] (by kernel_rfl) (by kernel_rfl) ?_
    refine oq rfl (rig_move rfl rfl) rfl (oq rfl (rig_nilCheck rfl rfl) rfl (oq rfl (rig_fieldAddr rfl rfl Try.underlying52 rfl Try.sizeOf22 rfl) rfl (oq rfl (rig_load1 rfl rfl Try.isAgg22 k0) rfl (oq rfl (rig_move rfl rfl) rfl (oq rfl (rig_nilCheck rfl rfl) rfl (oq rfl (rig_fieldAddr rfl rfl Try.underlying52 rfl Try.sizeOf3 rfl) rfl (oq rfl (rig_load1 rfl rfl Try.isAgg3 k1) rfl (oq rfl (rig_sub rfl rfl rfl (show IntKind.i64.wrap (((a + 1 : Nat) : Int) - 1) = (a : Int) by rw [show (((a + 1 : Nat) : Int) - 1) = (a : Int) by omega]; exact w64 _ (by omega) (by omega))) rfl (oq rfl (rig_ix a rfl rfl rfl Try.underlying22 Try.sizeOf5 rfl rfl (by omega)) rfl ?_)))))))))
    refine oq rfl (rig_load1 rfl rfl Try.isAgg5 hxc2) rfl (oq rfl (rig_convInt (c := (x.toNat : Int)) rfl rfl Try.underlying5 Try.underlying3 (by have := x.toNat_lt; exact w64 _ (by omega) (by omega))) rfl (oq rfl (rig_move rfl rfl) rfl (oq rfl (rig_rem (c := ((x.toNat % N : Nat) : Int)) rfl rfl rfl (by omega) (Int.tmod_eq_emod_of_nonneg (by omega))) rfl (oq rfl (rig_assign rfl rfl) rfl (od_fin ?_)))))
    refine awp_ret ⟨_, res1 Try.results7 rfl, x.toNat % N, rfl, .inr ?_, _, ⟨_, cap, a + 1, l, rfl, ha, hl, hrd⟩, hd, rfl, hmb⟩
    have := Nat.mod_lt x.toNat (show 0 < N by omega)
    omega
theorem e46 : Enters Try.prog 46 := enters_of Try.func46 (by kernel_rfl) rfl
set_option maxRecDepth 100000 in
theorem F46 (mb : Hp) (p : Nat) (F m : Hp) (va : Value) (ss : List ByteArray) (hm : CodH mb p 52 F m) (hs : Strs F va ss) (h0 : 0 < ss.length) (hl : ss.length ≤ 1099511627776) (hz : ∀ s ∈ ss, s.size ≤ 10) : GC Try.prog 46 #[.pointer (some ⟨p, 0, none⟩), va] m (fun v m' => ∃ s, v = .string s ∧ s.size ≤ 10 ∧ CodH mb p 52 F m') := by
  obtain ⟨A, cap, rfl, _⟩ := RdSl.form encS_len (by decide) hs
  refine gc_intro (vs := [_, _]) Try.func46 rfl Try.ntmps46 (by simp) ?_
  refine awp_rs ?_
  refine ao_r (rig_assign rfl rfl) rfl (ao_nil ?_)
  refine awp_rs ?_
  refine ao_r (rig_move rfl rfl) rfl (ao_r (rig_move rfl rfl) rfl (ao_r (rig_move rfl rfl) rfl (ao_r (rig_lenSl rfl rfl Try.underlying40) rfl ?_)))
  refine ao_x (ex_call rfl rfl e7 (F7 mb p F _ _ hm)) rfl fun v m1 ⟨k, hv, hk, hm1⟩ => ?_
  subst hv
  have hk' : k < ss.length := by omega
  obtain ⟨x, hx⟩ := get_lt hk'
  obtain ⟨b, off, cap', e, hc⟩ := Strs.get (hs.le hm1.le) hx
  simp only [Value.slice.injEq] at e
  obtain ⟨rfl, _, rfl⟩ := e
  refine ao_r (rig_ix k rfl rfl rfl Try.underlying40 Try.sizeOf9 rfl rfl hk') rfl (ao_r (rig_load1 rfl rfl Try.isAgg9 hc) rfl (ao_r (rig_assign rfl rfl) rfl (ao_nil ?_)))
  exact awp_ret ⟨_, res1 Try.results46 rfl, x, rfl, hz x (List.mem_of_getElem? hx), hm1⟩
set_option maxRecDepth 100000 in
/-- A list of strings is laid, and one of them is picked. -/
theorem ao_pick {n : Nat} {ops : Array Oper} {l : List Oper} {r : Env} {K : Env → Hp → Prop} {d1 d2 dc : Tmp} {parts : Array (Nat × Operand)} {len : Nat} {t1 t2 : TypeId} {q1 q2 : String} {a1 a2 : Array Edge} {Ts : Array TypeId} (ss : List ByteArray) {mb : Hp} {p : Nat} {F m : Hp} (hm : CodH mb p 52 F m)
    (hd1 : Nat.blt d1 n = true) (hd2 : Nat.blt d2 n = true) (hc : ev ((d1, .slice none 0 0) :: r) (.tmp dc) = some (.pointer (some ⟨p, 0, none⟩))) (hne : Nat.beq d1 dc = false)
    {vs : List (Nat × Value)} (hev : eparts r parts.toList = some vs) (hlen : ss.length = len) (hl0 : 0 < len) (hl1 : len ≤ 100) (hfill : Instr.fill (fun i => some (i * 1, 1)) ((Array.range (len * 1)).map ((Value.string ⟨#[]⟩).cells[· % (Value.string ⟨#[]⟩).cells.size]!)) vs = some (ss.map Value.string).toArray) (hz : ∀ s ∈ ss, s.size ≤ 10)
    (k : ∀ s m' F', s.size ≤ 10 → HpLe F F' → CodH mb p 52 F' m' → ∀ b, AOps Try.prog n ops l ((d2, .string s) :: (d1, b) :: r) m' K) :
    AOps Try.prog n ops ({ dst := some d1, op := .buildSlice 40 len parts, type := t1, pos := q1, after := a1, guard := none } :: { dst := some d2, op := .call { callee := .value (.func 46), args := #[.tmp dc, .tmp d1], argTypes := Ts }, type := t2, pos := q2, after := a2, guard := none } :: l) r m K := by
  rw [U_one m]
  refine ao_x (ex_buildSlice (cs := (ss.map Value.string).toArray) rfl (Dj_single m) hev Try.underlying40 Try.sizeOf9 Try.zeroValue9 (by omega) (by omega) hfill) hd1 fun v m1 ⟨b, hv, hm1, hD⟩ => ?_
  subst hv hm1
  obtain ⟨h2, hD2⟩ := hm.add hD
  have hstr : Strs (U [Go.Aw.one b (.cells (ss.map Value.string).toArray 9 (0, 0)), F]) (.slice (some ⟨b, 0, none⟩) len len) ss := by
    refine RdSl.le (m := Go.Aw.one b (.cells (ss.map Value.string).toArray 9 (0, 0))) ?_ U_le_head
    refine ⟨_, len, len, rfl, by rw [rows_length encS_len, hlen], .inr ⟨b, 0, rfl, ?_⟩⟩
    rw [rows_encS]
    exact cellsAt_one b (ss.map Value.string).toArray 9
  have ec : ev ((d1, Value.slice (some ⟨b, 0, none⟩) len len) :: r) (.tmp dc) = some (.pointer (some ⟨p, 0, none⟩)) := by
    simp only [ev, Env.get_cons, hne, cond_false] at hc ⊢
    exact hc
  have e1 : ev ((d1, Value.slice (some ⟨b, 0, none⟩) len len) :: r) (.tmp d1) = some (Value.slice (some ⟨b, 0, none⟩) len len) := by simp [ev, Env.get_cons]
  refine ao_x (ex_call (vs := [_, _]) rfl (by simp only [evs, ec, e1, Option.bind_some, Option.map_some]) e46 (F46 mb p _ _ _ ss h2 hstr (by omega) (by omega) hz)) hd2 fun v m2 ⟨s, hv, hs, hm2⟩ => ?_
  subst hv
  exact k s m2 _ hs (le_at 1 hD2 rfl) hm2 _
end Go.Proofs.Ytbonkkbpjlikjaa
/- The walks of the generator of lines: Text, Line, lines. -/
set_option linter.unusedVariables false
namespace Go.Proofs.Ytbonkkbpjlikjaa
open Go Go.Aw Go.RowKit
theorem ao_cat {n : Nat} {ops : Array Oper} {l : List Oper} {r : Env} {m : Hp} {K : Env → Hp → Prop} {d : Tmp} {x y : Operand} {T T' ty : TypeId} {q : String} {af : Array Edge} {s t : ByteArray} {a b : Nat} (hs : s.size ≤ a) (ht : t.size ≤ b)
    (ex : ev r x = some (.string s)) (ey : ev r y = some (.string t)) (hab : a + b ≤ 1000) (hd : Nat.blt d n = true) (k : ∀ u : ByteArray, u.size ≤ a + b → AOps Try.prog n ops l ((d, .string u) :: r) m K) :
    AOps Try.prog n ops ({ dst := some d, op := .binOp .add T x y T', type := ty, pos := q, after := af, guard := none } :: l) r m K :=
  ao_r (rig_sadd rfl ex ey (by omega)) hd (k _ (by rw [ByteArray.size_append]; omega))
theorem e29 : Enters Try.prog 29 := enters_of Try.func29 (by kernel_rfl) rfl
set_option maxRecDepth 100000 in
theorem F29 (mb : Hp) (p : Nat) (F m : Hp) (most : Nat) (hmost : most ≤ 50) (h : CodH mb p 52 F m) : GC Try.prog 29 #[.pointer (some ⟨p, 0, none⟩), .int .i64 most] m (fun v m' => ∃ s, v = .string s ∧ s.size ≤ 10 * most ∧ ∃ F', HpLe F F' ∧ CodH mb p 52 F' m') := by
  refine gc_intro (vs := [_, _]) Try.func29 rfl Try.ntmps29 (by simp) ?_
  refine awp_rs (ao_r (rig_assign rfl rfl) rfl (ao_nil ?_))
  refine awp_rs (ao_r (rig_assign rfl rfl) rfl (ao_nil ?_))
  refine awp_sk fun K1 hK1 => ?_
  refine awp_rs ?_
  refine ao_r (rig_move rfl rfl) rfl (ao_r (rig_move rfl rfl) rfl (ao_r (rig_add rfl rfl rfl (w64 _ (by omega) (by omega))) rfl ?_))
  refine ao_x (ex_call rfl rfl e7 (F7 mb p F _ _ h)) rfl fun v m1 ⟨k, hv, hk, h⟩ => ?_
  subst hv
  refine ao_r (rig_assign rfl rfl) rfl (ao_nil ?_)
  refine awp_block ?_
  refine awp_le [(0, .pointer (some ⟨p, 0, none⟩)), (5, .string ⟨#[]⟩), (6, .int .i64 k)] ⟨rfl, rfl, rfl, trivial⟩ ?_
  refine awp_loop (fun k r mm => ∃ s : ByteArray, k ≤ most ∧ s.size + 10 * k ≤ 10 * most ∧ r = [(0, .pointer (some ⟨p, 0, none⟩)), (5, .string s), (6, .int .i64 (k : Nat))] ∧ ∃ F', HpLe F F' ∧ CodH mb p 52 F' mm) k ⟨_, by omega, by show 0 + _ ≤ _; omega, rfl, F, HpLe.refl _, h⟩ ?_
  rintro k r mm ⟨s, hk2, hs, rfl, F1, hF1, h⟩
  refine awp_sk fun K2 hK2 => awp_rs ?_
  refine ao_r (rig_move rfl rfl) rfl (ao_r (rig_gtr rfl rfl rfl) rfl (ao_nil ?_))
  refine awp_if rfl (fun h1 => ?_) (fun h1 => ?_)
  · refine awp_skip (hK2 _ _ (awp_sk fun K3 hK3 => awp_block (awp_region ?_)))
    refine ao_r (rig_move rfl rfl) rfl (ao_r (rig_move rfl rfl) rfl ?_)
    refine ao_pick [⟨#[97]⟩, ⟨#[98]⟩, ⟨#[32]⟩, ⟨#[49]⟩, ⟨#[117, 115, 101, 114]⟩, ⟨#[61]⟩, ⟨#[34]⟩, ⟨#[55]⟩, ⟨#[46]⟩, ⟨#[44]⟩, ⟨#[120, 32, 121]⟩, ⟨#[49, 48, 46, 50]⟩, ⟨#[45]⟩, ⟨#[195, 169]⟩, ⟨#[91]⟩, ⟨#[105, 100]⟩, ⟨#[9]⟩, ⟨#[58]⟩] h rfl rfl rfl rfl rfl rfl (by decide) (by decide) (by kernel_rfl) (by decide) fun s1 m1 F2 hs1 hF2 h b1 => ?_
    refine ao_cat (a := s.size) (b := 10) (Nat.le_refl _) hs1 rfl rfl (by omega) rfl fun u hu => ?_
    refine ao_r (rig_assign rfl rfl) rfl (ao_nil ?_)
    refine hK3 _ _ (awp_region ?_)
    obtain ⟨j, rfl⟩ : ∃ j, k = j + 1 := ⟨k - 1, by omega⟩
    refine ao_r (rig_move rfl rfl) rfl (ao_r (rig_sub rfl rfl rfl (show IntKind.i64.wrap (((j + 1 : Nat) : Int) - 1) = (j : Int) by rw [show (((j + 1 : Nat) : Int) - 1) = (j : Int) by omega]; exact w64 _ (by omega) (by omega))) rfl (ao_r (rig_assign rfl rfl) rfl (ao_nil ?_)))
    exact ⟨[(0, .pointer (some ⟨p, 0, none⟩)), (5, .string u), (6, .int .i64 (j : Nat))], j, ⟨rfl, rfl, rfl, trivial⟩, by omega, u, by omega, by omega, rfl, F2, hF1.trans hF2, h⟩
  · refine awp_exit (hK1 _ _ (awp_rs ?_))
    refine ao_r (rig_move rfl rfl) rfl (ao_r (rig_assign rfl rfl) rfl (ao_nil ?_))
    exact awp_ret ⟨_, res1 Try.results29 rfl, s, rfl, by omega, F1, hF1, h⟩
theorem e28 : Enters Try.prog 28 := enters_of Try.func28 (by kernel_rfl) rfl
set_option maxRecDepth 100000 in
theorem F28 (mb : Hp) (p : Nat) (F m : Hp) (h : CodH mb p 52 F m) : GC Try.prog 28 #[.pointer (some ⟨p, 0, none⟩)] m (fun v m' => ∃ s, v = .string s ∧ s.size ≤ 200 ∧ ∃ F', HpLe F F' ∧ CodH mb p 52 F' m') := by
  refine gc_intro (vs := [_]) Try.func28 rfl Try.ntmps28 (by simp) ?_
  refine awp_rs (ao_r (rig_assign rfl rfl) rfl (ao_nil ?_))
  refine awp_sk fun K1 hK1 => ?_
  refine awp_rs ?_
  refine ao_r (rig_move rfl rfl) rfl ?_
  refine ao_x (ex_call rfl rfl e7 (F7 mb p F _ _ h)) rfl fun v m1 ⟨k, hv, _, h⟩ => ?_
  subst hv
  refine ao_nil ?_
  refine awp_block ?_
  refine awp_rs (ao_r (rig_eql rfl rfl rfl) rfl (ao_r (rig_assign rfl rfl) rfl (ao_nil ?_)))
  refine awp_if rfl (fun _ => ?_) (fun _ => ?_)
  · refine awp_rs ?_
    refine ao_r (rig_move rfl rfl) rfl ?_
    refine ao_pick [⟨#[49]⟩, ⟨#[50]⟩, ⟨#[57]⟩] h rfl rfl rfl rfl rfl rfl (by decide) (by decide) (by kernel_rfl) (by decide) fun s1 m1 F1 hs1 hF1 h b1 => ?_
    refine ao_cat (a := 6) (by decide) hs1 rfl rfl (by decide) rfl fun u10 hu10 => ?_
    refine ao_cat (b := 2) hu10 (by decide) rfl rfl (by decide) rfl fun u11 hu11 => ?_
    refine ao_r (rig_move rfl rfl) rfl ?_
    refine ao_pick [⟨#[48]⟩, ⟨#[53]⟩] h rfl rfl rfl rfl rfl rfl (by decide) (by decide) (by kernel_rfl) (by decide) fun s2 m2 F2 hs2 hF2 h b2 => ?_
    refine ao_cat hu11 hs2 rfl rfl (by decide) rfl fun u15 hu15 => ?_
    refine ao_cat (b := 8) hu15 (by decide) rfl rfl (by decide) rfl fun u16 hu16 => ?_
    refine ao_r (rig_move rfl rfl) rfl ?_
    refine ao_pick [⟨#[49]⟩, ⟨#[50]⟩] h rfl rfl rfl rfl rfl rfl (by decide) (by decide) (by kernel_rfl) (by decide) fun s3 m3 F3 hs3 hF3 h b3 => ?_
    refine ao_cat hu16 hs3 rfl rfl (by decide) rfl fun u20 hu20 => ?_
    refine ao_cat (b := 8) hu20 (by decide) rfl rfl (by decide) rfl fun u21 hu21 => ?_
    refine ao_r (rig_move rfl rfl) rfl ?_
    refine ao_pick [⟨#[105, 110, 102, 111]⟩, ⟨#[119, 97, 114, 110]⟩] h rfl rfl rfl rfl rfl rfl (by decide) (by decide) (by kernel_rfl) (by decide) fun s4 m4 F4 hs4 hF4 h b4 => ?_
    refine ao_cat hu21 hs4 rfl rfl (by decide) rfl fun u25 hu25 => ?_
    refine ao_cat (b := 4) hu25 (by decide) rfl rfl (by decide) rfl fun u26 hu26 => ?_
    refine ao_r (rig_move rfl rfl) rfl ?_
    refine ao_pick [⟨#[55]⟩, ⟨#[116, 49]⟩, ⟨#[116, 50]⟩] h rfl rfl rfl rfl rfl rfl (by decide) (by decide) (by kernel_rfl) (by decide) fun s5 m5 F5 hs5 hF5 h b5 => ?_
    refine ao_cat hu26 hs5 rfl rfl (by decide) rfl fun u30 hu30 => ?_
    refine ao_r (rig_assign rfl rfl) rfl (ao_nil ?_)
    exact awp_ret ⟨_, res1 Try.results28 rfl, _, rfl, by omega, F5, ((((hF1).trans hF2).trans hF3).trans hF4).trans hF5, h⟩
  refine awp_rs (ao_r (rig_eql rfl rfl rfl) rfl (ao_r (rig_assign rfl rfl) rfl (ao_nil ?_)))
  refine awp_if rfl (fun _ => ?_) (fun _ => ?_)
  · refine awp_rs ?_
    refine ao_r (rig_move rfl rfl) rfl ?_
    refine ao_pick [⟨#[105, 110, 102, 111]⟩, ⟨#[119, 97, 114, 110]⟩, ⟨#[100, 101, 98, 117, 103]⟩] h rfl rfl rfl rfl rfl rfl (by decide) (by decide) (by kernel_rfl) (by decide) fun s1 m1 F1 hs1 hF1 h b1 => ?_
    refine ao_cat (a := 6) (by decide) hs1 rfl rfl (by decide) rfl fun u36 hu36 => ?_
    refine ao_cat (b := 6) hu36 (by decide) rfl rfl (by decide) rfl fun u37 hu37 => ?_
    refine ao_r (rig_move rfl rfl) rfl ?_
    refine ao_pick [⟨#[97, 110, 110]⟩, ⟨#[98, 111, 98]⟩] h rfl rfl rfl rfl rfl rfl (by decide) (by decide) (by kernel_rfl) (by decide) fun s2 m2 F2 hs2 hF2 h b2 => ?_
    refine ao_cat hu37 hs2 rfl rfl (by decide) rfl fun u41 hu41 => ?_
    refine ao_cat (b := 4) hu41 (by decide) rfl rfl (by decide) rfl fun u42 hu42 => ?_
    refine ao_r (rig_move rfl rfl) rfl ?_
    refine ao_pick [⟨#[49, 48, 46, 50]⟩, ⟨#[49, 48, 46, 51]⟩, ⟨#[55, 46, 55]⟩] h rfl rfl rfl rfl rfl rfl (by decide) (by decide) (by kernel_rfl) (by decide) fun s3 m3 F3 hs3 hF3 h b3 => ?_
    refine ao_cat hu42 hs3 rfl rfl (by decide) rfl fun u46 hu46 => ?_
    refine ao_r (rig_assign rfl rfl) rfl (ao_nil ?_)
    exact awp_ret ⟨_, res1 Try.results28 rfl, _, rfl, by omega, F3, ((hF1).trans hF2).trans hF3, h⟩
  refine awp_rs (ao_r (rig_eql rfl rfl rfl) rfl (ao_r (rig_assign rfl rfl) rfl (ao_nil ?_)))
  refine awp_if rfl (fun _ => ?_) (fun _ => ?_)
  · refine awp_rs ?_
    refine ao_r (rig_move rfl rfl) rfl ?_
    refine ao_pick [⟨#[102]⟩, ⟨#[103]⟩] h rfl rfl rfl rfl rfl rfl (by decide) (by decide) (by kernel_rfl) (by decide) fun s1 m1 F1 hs1 hF1 h b1 => ?_
    refine ao_cat (a := 5) (by decide) hs1 rfl rfl (by decide) rfl fun u52 hu52 => ?_
    refine ao_r (rig_move rfl rfl) rfl ?_
    refine ao_pick [⟨#[40, 49, 41]⟩, ⟨#[40, 50, 50, 41]⟩] h rfl rfl rfl rfl rfl rfl (by decide) (by decide) (by kernel_rfl) (by decide) fun s2 m2 F2 hs2 hF2 h b2 => ?_
    refine ao_cat hu52 hs2 rfl rfl (by decide) rfl fun u56 hu56 => ?_
    refine ao_r (rig_assign rfl rfl) rfl (ao_nil ?_)
    exact awp_ret ⟨_, res1 Try.results28 rfl, _, rfl, by omega, F2, (hF1).trans hF2, h⟩
  refine awp_rs (ao_r (rig_eql rfl rfl rfl) rfl (ao_r (rig_assign rfl rfl) rfl (ao_nil ?_)))
  refine awp_if rfl (fun _ => ?_) (fun _ => ?_)
  · refine awp_rs ?_
    refine ao_r (rig_move rfl rfl) rfl ?_
    refine ao_pick [⟨#[97, 110, 110]⟩, ⟨#[98, 111, 98]⟩, ⟨#[101, 118, 101]⟩] h rfl rfl rfl rfl rfl rfl (by decide) (by decide) (by kernel_rfl) (by decide) fun s1 m1 F1 hs1 hF1 h b1 => ?_
    refine ao_cat (a := 5) (by decide) hs1 rfl rfl (by decide) rfl fun u62 hu62 => ?_
    refine ao_cat (b := 8) hu62 (by decide) rfl rfl (by decide) rfl fun u63 hu63 => ?_
    refine ao_r (rig_move rfl rfl) rfl ?_
    refine ao_pick [⟨#[105, 110]⟩, ⟨#[111, 117, 116]⟩] h rfl rfl rfl rfl rfl rfl (by decide) (by decide) (by kernel_rfl) (by decide) fun s2 m2 F2 hs2 hF2 h b2 => ?_
    refine ao_cat hu63 hs2 rfl rfl (by decide) rfl fun u67 hu67 => ?_
    refine ao_r (rig_assign rfl rfl) rfl (ao_nil ?_)
    exact awp_ret ⟨_, res1 Try.results28 rfl, _, rfl, by omega, F2, (hF1).trans hF2, h⟩
  refine awp_rs (ao_r (rig_eql rfl rfl rfl) rfl (ao_r (rig_assign rfl rfl) rfl (ao_nil ?_)))
  refine awp_if rfl (fun _ => ?_) (fun _ => ?_)
  · refine awp_rs ?_
    refine ao_r (rig_move rfl rfl) rfl ?_
    refine ao_pick [⟨#[105, 110, 102, 111]⟩, ⟨#[119, 97, 114, 110]⟩] h rfl rfl rfl rfl rfl rfl (by decide) (by decide) (by kernel_rfl) (by decide) fun s1 m1 F1 hs1 hF1 h b1 => ?_
    refine ao_cat (a := 11) (by decide) hs1 rfl rfl (by decide) rfl fun u73 hu73 => ?_
    refine ao_cat (b := 8) hu73 (by decide) rfl rfl (by decide) rfl fun u74 hu74 => ?_
    refine ao_r (rig_move rfl rfl) rfl ?_
    refine ao_pick [⟨#[49]⟩, ⟨#[45, 50, 48]⟩, ⟨#[116, 114, 117, 101]⟩] h rfl rfl rfl rfl rfl rfl (by decide) (by decide) (by kernel_rfl) (by decide) fun s2 m2 F2 hs2 hF2 h b2 => ?_
    refine ao_cat hu74 hs2 rfl rfl (by decide) rfl fun u78 hu78 => ?_
    refine ao_cat (b := 1) hu78 (by decide) rfl rfl (by decide) rfl fun u79 hu79 => ?_
    refine ao_r (rig_assign rfl rfl) rfl (ao_nil ?_)
    exact awp_ret ⟨_, res1 Try.results28 rfl, _, rfl, by omega, F2, (hF1).trans hF2, h⟩
  refine awp_rs (ao_r (rig_eql rfl rfl rfl) rfl (ao_r (rig_assign rfl rfl) rfl (ao_nil ?_)))
  refine awp_if rfl (fun _ => ?_) (fun _ => ?_)
  · refine awp_rs ?_
    refine ao_r (rig_move rfl rfl) rfl ?_
    refine ao_pick [⟨#[49]⟩, ⟨#[50]⟩] h rfl rfl rfl rfl rfl rfl (by decide) (by decide) (by kernel_rfl) (by decide) fun s1 m1 F1 hs1 hF1 h b1 => ?_
    refine ao_cat (a := 5) (by decide) hs1 rfl rfl (by decide) rfl fun u85 hu85 => ?_
    refine ao_cat (b := 8) hu85 (by decide) rfl rfl (by decide) rfl fun u86 hu86 => ?_
    refine ao_r (rig_move rfl rfl) rfl ?_
    refine ao_pick [⟨#[49]⟩, ⟨#[50]⟩] h rfl rfl rfl rfl rfl rfl (by decide) (by decide) (by kernel_rfl) (by decide) fun s2 m2 F2 hs2 hF2 h b2 => ?_
    refine ao_cat hu86 hs2 rfl rfl (by decide) rfl fun u90 hu90 => ?_
    refine ao_cat (b := 1) hu90 (by decide) rfl rfl (by decide) rfl fun u91 hu91 => ?_
    refine ao_r (rig_move rfl rfl) rfl ?_
    refine ao_pick [⟨#[111, 107]⟩, ⟨#[102, 97, 105, 108, 101, 100]⟩] h rfl rfl rfl rfl rfl rfl (by decide) (by decide) (by kernel_rfl) (by decide) fun s3 m3 F3 hs3 hF3 h b3 => ?_
    refine ao_cat hu91 hs3 rfl rfl (by decide) rfl fun u95 hu95 => ?_
    refine ao_r (rig_assign rfl rfl) rfl (ao_nil ?_)
    exact awp_ret ⟨_, res1 Try.results28 rfl, _, rfl, by omega, F3, ((hF1).trans hF2).trans hF3, h⟩
  refine awp_skip (hK1 _ _ (awp_rs ?_))
  refine ao_r (rig_move rfl rfl) rfl ?_
  refine ao_x (ex_call rfl rfl e29 (F29 mb p F _ 6 (by decide) h)) rfl fun v m1 ⟨s, hv, hs, F1, hF1, h⟩ => ?_
  subst hv
  refine ao_r (rig_assign rfl rfl) rfl (ao_nil ?_)
  exact awp_ret ⟨_, res1 Try.results28 rfl, _, rfl, by omega, F1, hF1, h⟩
end Go.Proofs.Ytbonkkbpjlikjaa
