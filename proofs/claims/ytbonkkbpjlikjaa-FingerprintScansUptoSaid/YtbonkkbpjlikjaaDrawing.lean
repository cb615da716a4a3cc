/- The generator: Mod, Data. -/
import Derived.Test.YtbonkkbpjlikjaaChanges
import Derived.Test.YtbonkkbpjlikjaaHeap
set_option linter.unusedVariables false
set_option linter.unusedSimpArgs false
namespace Go.Aw
open Go Go.RowKit
def modV (x : Int) : Int := if x.tmod 20 < 0 then x.tmod 20 + 20 else x.tmod 20
theorem modV_lt (x : Int) : 0 ≤ modV x ∧ modV x < 20 := by
  have h1 : (x.tmod 20).natAbs = x.natAbs % 20 := Int.natAbs_tmod x 20
  have h2 : x.natAbs % 20 < 20 := Nat.mod_lt _ (by decide)
  unfold modV; split <;> omega
end Go.Aw
namespace Go.Proofs.Ytbonkkbpjlikjaa
open Go Go.Aw Go.RowKit
theorem e45 : Enters Try.prog 45 := enters_of Try.func45 (by kernel_rfl) rfl
set_option maxRecDepth 100000 in
theorem F45 (m : Hp) (x : Int) : RC Try.prog 45 #[.int .i64 x, .int .i64 20] m (.int .i64 (modV x)) := by
  have hm0 := modV_lt x
  refine rc_of_gc fun m1 hm => gc_intro (vs := [_, _]) Try.func45 rfl Try.ntmps45 (by simp) ?_
  refine awp_rs (ao_r (rig_assign rfl rfl) rfl (ao_nil ?_))
  refine awp_sk fun K1 hK1 => awp_rs (ao_r (rig_move rfl rfl) rfl (ao_r (rig_lss rfl rfl rfl) rfl (ao_nil ?_)))
  refine awp_if rfl (fun h => absurd h (by decide)) (fun _ => awp_skip (hK1 _ _ (awp_rs ?_)))
  refine ao_r (rig_move rfl rfl) rfl (ao_r (rig_move rfl rfl) rfl (ao_r (rig_rem rfl rfl rfl (by decide) rfl) rfl (ao_r (rig_assign rfl rfl) rfl (ao_nil ?_))))
  refine awp_sk fun K2 hK2 => awp_rs (ao_r (rig_move rfl rfl) rfl (ao_r (rig_lss rfl rfl rfl) rfl (ao_nil ?_)))
  refine awp_if rfl (fun h => ?_) (fun h => awp_skip (hK2 _ _ (awp_rs (ao_r (rig_move rfl rfl) rfl (ao_r (rig_assign rfl rfl) rfl (ao_nil ?_))))))
  · have e : modV x = x.tmod 20 + 20 := by rw [modV, if_pos h]
    rw [e] at hm0
    refine awp_region (ao_r (rig_move rfl rfl) rfl (ao_r (rig_move rfl rfl) rfl (ao_r (rig_add (c := x.tmod 20 + 20) rfl rfl rfl (w64 _ (by omega) (by omega))) rfl (ao_r (rig_assign rfl rfl) rfl (ao_nil ?_)))))
    refine hK2 _ _ (awp_rs (ao_r (rig_move rfl rfl) rfl (ao_r (rig_assign rfl rfl) rfl (ao_nil ?_))))
    exact awp_ret ⟨_, res1 Try.results45 rfl, by rw [e], HpLe.refl _⟩
  · exact awp_ret ⟨_, res1 Try.results45 rfl, by rw [modV, if_neg h], HpLe.refl _⟩
theorem exMono {P : Program} {o : Oper} {r : Env} {m : Hp} {A B : Value → Hp → Prop} (h : Ex P o r m A) (k : ∀ v m', A v m' → B v m') : Ex P o r m B := fun n sg a w hf hw =>
  wp_mono2 (h n sg a w hf hw) (fun a' w' ⟨v, m', h1, h2, h3⟩ => ⟨v, m', h1, h2, k _ _ h3⟩) (fun _ _ _ q => q)
theorem w8 (z : Nat) (h : z < 256) : IntKind.u8.wrap (z : Int) = z := by
  simp [IntKind.wrap, IntKind.bits, IntKind.signed]; omega
/-- A string goes behind a row of bytes that is beside the generator. -/
theorem app_beside {P : Program} {o : Oper} {r : Env} {mb x F m : Hp} {p : Nat} {T T1 T2 E : TypeId} {a b : Operand} {v : Value} {l0 : List UInt8} {s : ByteArray} (h : o.op = .call { callee := .builtin .append, args := #[a, b], argTypes := #[T1, T2] }) (hC : CodH mb p T (U [x, F]) m) (hD : Dj [x, F]) (hmb : HpLe mb F) (ea : ev r a = some v) (eb : ev r b = some (.string s)) (hT : P.underlying T1 = some (.slice E)) (hT2 : P.underlying T2 = some .string) (inf : Inf P E (.int .u8 0) 1 1) (hO : OwnB E x v l0) (hb : l0.length + s.size ≤ 1099511627776) :
    Ex P o r m (fun v' m' => ∃ x', OwnB E x' v' (l0 ++ s.data.toList) ∧ Dj [x', F] ∧ CodH mb p T (U [x', F]) m') := by
  obtain ⟨c, hc, rfl, hD2⟩ := hC.outL hD
  have hsz : s.size = s.data.toList.length := by rw [Array.length_toList]; rfl
  refine exMono (ex_appB (L := [c, x, F]) 1 h hD2 ea eb hT inf hO rfl (.inr ⟨hT2, rfl⟩) (by rw [hsz] at hb; exact hb)) fun v' m' ⟨c', h1, h2, h3⟩ => ?_
  subst h2
  exact ⟨c', h1, h3.2, CodH.backL (L := [c', F]) hc h3 (hmb.trans (le_at 1 h3.2 rfl))⟩
theorem e27 : Enters Try.prog 27 := enters_of Try.func27 (by kernel_rfl) rfl
set_option maxHeartbeats 1000000 in
set_option maxRecDepth 100000 in
theorem F27 (mb : Hp) (p : Nat) (F m : Hp) (k : Nat) (hk : k ≤ 1000) (h : CodH mb p 52 F m) (hmb : HpLe mb F) : GC Try.prog 27 #[.pointer (some ⟨p, 0, none⟩), .int .i64 k, .int .i64 3] m (fun v m' => ∃ l x F', HpLe F F' ∧ Dj [x, F'] ∧ CodH mb p 52 (U [x, F']) m' ∧ RdSl x encB 1 v l ∧ l.length ≤ 2000) := by
  refine gc_intro (vs := [_, _, _]) Try.func27 rfl Try.ntmps27 (by simp) ?_
  refine awp_rs (ao_r (rig_assign rfl rfl) rfl (ao_nil ?_))
  have hz1 := modV_lt (k : Int)
  have hz2 := modV_lt ((k : Int).tdiv 20)
  have hq : IntKind.i64.wrap ((k : Int).tdiv 20) = (k : Int).tdiv 20 := by
    rw [show (k : Int).tdiv 20 = ((k / 20 : Nat) : Int) from (Int.ofNat_tdiv k 20).symm]; exact w64 _ (by omega) (by have := Nat.div_le_self k 20; omega)
  obtain ⟨z1, e1⟩ : ∃ z : Nat, modV k = z := ⟨(modV k).toNat, by omega⟩
  obtain ⟨z2, e2⟩ : ∃ z : Nat, modV ((k : Int).tdiv 20) = z := ⟨(modV ((k : Int).tdiv 20)).toNat, by omega⟩
  refine awp_rs (ao_r (rig_move rfl rfl) rfl (ao_r (rig_call rfl rfl e45 (F45 _ k)) rfl ?_))
  rw [e1]
  refine ao_r (rig_add (c := ((97 + z1 : Nat) : Int)) rfl rfl rfl (by rw [show (97 : Int) + (z1 : Int) = ((97 + z1 : Nat) : Int) by omega]; exact w64 _ (by omega) (by omega))) rfl ?_
  refine ao_r (rig_convInt (c := ((97 + z1 : Nat) : Int)) rfl rfl Try.underlying3 Try.underlying5 (w8 _ (by omega))) rfl ?_
  refine ao_r (rig_move rfl rfl) rfl (ao_r (rig_quo rfl rfl rfl (by decide) hq) rfl (ao_r (rig_call rfl rfl e45 (F45 _ _)) rfl ?_))
  rw [e2]
  refine ao_r (rig_add (c := ((97 + z2 : Nat) : Int)) rfl rfl rfl (by rw [show (97 : Int) + (z2 : Int) = ((97 + z2 : Nat) : Int) by omega]; exact w64 _ (by omega) (by omega))) rfl ?_
  refine ao_r (rig_convInt (c := ((97 + z2 : Nat) : Int)) rfl rfl Try.underlying3 Try.underlying5 (w8 _ (by omega))) rfl ?_
  -- the first line
  rw [U_one m]
  refine ao_x (ex_buildSlice (cs := #[.int .u8 ((97 + z1 : Nat) : Int), .int .u8 ((97 + z2 : Nat) : Int)]) rfl (Dj_single m) rfl Try.underlying22 Try.sizeOf5 Try.zeroValue5 (by decide) (by decide) (by kernel_rfl)) rfl fun w2 m2 ⟨b2, hw2, hm2, hD2⟩ => ?_
  subst hw2 hm2
  have hb2 : RdSl (U [Go.Aw.one b2 (.cells #[.int .u8 ((97 + z1 : Nat) : Int), .int .u8 ((97 + z2 : Nat) : Int)] 5 (0, 0)), m]) encB 1 (.slice (some ⟨b2, 0, none⟩) 2 2) [UInt8.ofNat (97 + z1), UInt8.ofNat (97 + z2)] := by
    have h1 : (UInt8.ofNat (97 + z1)).toNat = 97 + z1 := by simp; omega
    have h2 : (UInt8.ofNat (97 + z2)).toNat = 97 + z2 := by simp; omega
    refine ⟨_, 2, 2, rfl, rfl, .inr ⟨b2, 0, rfl, ?_⟩⟩
    have := (cellsAt_one b2 #[.int .u8 ((97 + z1 : Nat) : Int), .int .u8 ((97 + z2 : Nat) : Int)] 5).le (le_at 0 hD2 rfl)
    have hr : rows encB [UInt8.ofNat (97 + z1), UInt8.ofNat (97 + z2)] = [.int .u8 ((97 + z1 : Nat) : Int), .int .u8 ((97 + z2 : Nat) : Int)] := by
      show [Value.int .u8 ((UInt8.ofNat (97 + z1)).toNat : Int), Value.int .u8 ((UInt8.ofNat (97 + z2)).toNat : Int)] = _
      rw [h1, h2]
    rw [hr]; exact this
  refine ao_r (rig_convBS rfl rfl hb2 (by simp) Try.underlying22 Try.underlying5 Try.underlying9) rfl ?_
  refine ao_cat (a := 5) (b := 2) (t := ⟨#[UInt8.ofNat (97 + z1), UInt8.ofNat (97 + z2)]⟩) (by decide) (Nat.le_refl 2) rfl rfl (by decide) rfl fun u20 hu20 => ?_
  refine ao_cat (b := 8) hu20 (by decide) rfl rfl (by decide) rfl fun u21 hu21 => ?_
  obtain ⟨hC2, hDF⟩ := h.add hD2
  generalize Go.Aw.one b2 (.cells #[.int .u8 ((97 + z1 : Nat) : Int), .int .u8 ((97 + z2 : Nat) : Int)] 5 (0, 0)) = y2 at hC2 hDF hD2 hb2
  have hF2 : HpLe F (U [y2, F]) := le_at 1 hDF rfl
  generalize U [y2, m] = m2 at hC2
  generalize U [y2, F] = F2 at hC2 hF2
  clear hb2 hDF hD2 hu20
  rw [U_one m2]
  refine ao_x (ex_convSB rfl (Dj_single m2) rfl Try.underlying9 Try.underlying22 Try.underlying5 (by omega)) rfl fun v3 m3 ⟨x3, hO3, hm3, hD3⟩ => ao_r (rig_assign rfl rfl) rfl (ao_nil ?_)
  subst hm3
  obtain ⟨hC3, hD4⟩ := hC2.add hD3
  have hlen3 : u21.data.toList.length ≤ 15 := by rw [Array.length_toList]; exact hu21
  generalize u21.data.toList = l3 at hO3 hlen3
  generalize U [x3, m2] = m3 at hC3
  clear hD3
  replace hmb : HpLe mb F2 := hmb.trans hF2
  refine awp_sk fun K1 hK1 => awp_rs ?_
  refine ao_r (rig_move rfl rfl) rfl (ao_r (rig_move rfl rfl) rfl (ao_r (rig_add (c := 4) rfl rfl rfl (by decide)) rfl ?_))
  refine ao_x (ex_call rfl rfl e7 (F7 mb p _ _ 4 hC3)) rfl fun v4 m4 ⟨n0, hv4, hn0, hC4⟩ => ao_r (rig_assign rfl rfl) rfl (ao_nil ?_)
  subst hv4
  refine awp_block ?_
  refine awp_le [(0, .pointer (some ⟨p, 0, none⟩)), (7, v3), (8, .int .i64 n0)] ⟨rfl, rfl, rfl, trivial⟩ ?_
  refine awp_loop (fun kk r mm => ∃ (v : Value) (x F' : Hp) (l : List UInt8), kk ≤ 3 ∧ r = [(0, .pointer (some ⟨p, 0, none⟩)), (7, v), (8, .int .i64 (kk : Nat))] ∧ CodH mb p 52 (U [x, F']) mm ∧ Dj [x, F'] ∧ HpLe F2 F' ∧ OwnB 5 x v l ∧ l.length + kk * 250 ≤ 765) n0 ⟨v3, x3, F2, l3, by omega, rfl, hC4, hD4, HpLe.refl _, hO3, by omega⟩ ?_
  clear hC4 hC3 hD4 hO3
  rintro kk r mm ⟨v, x, F1, l, hkk, rfl, hC, hD, hF1, hO, hl⟩
  refine awp_sk fun K2 hK2 => awp_rs (ao_r (rig_move rfl rfl) rfl (ao_r (rig_gtr rfl rfl rfl) rfl (ao_nil ?_)))
  refine awp_if rfl (fun h0 => ?_) (fun h0 => ?_)
  · refine awp_skip (hK2 _ _ (awp_sk fun K3 hK3 => awp_block (awp_rs ?_)))
    refine ao_r (rig_move rfl rfl) rfl (ao_r (rig_move rfl rfl) rfl ?_)
    refine ao_x (ex_call rfl rfl e28 (F28 mb p _ _ hC)) rfl fun u5 m5 ⟨s5, hu5, hs5, F5, hF5, hC5⟩ => ?_
    subst hu5
    obtain ⟨F6, hF6, hD6, hC6⟩ := hC5.grow (cs := [x]) hD hF5
    refine ao_x (app_beside rfl hC6 hD6 (hmb.trans (hF1.trans hF6)) rfl rfl Try.underlying22 Try.underlying9 inf5 hO (by omega)) rfl fun u7 m7 ⟨x7, hO7, hD7, hC7⟩ => ao_r (rig_assign rfl rfl) rfl (ao_nil ?_)
    refine awp_region (ao_r (rig_move rfl rfl) rfl (ao_r (rig_move rfl rfl) rfl ?_))
    refine ao_pick [⟨#[10]⟩, ⟨#[10]⟩, ⟨#[10]⟩, ⟨#[13, 10]⟩, ⟨#[255, 10]⟩] hC7 rfl rfl rfl rfl rfl rfl (by decide) (by decide) (by kernel_rfl) (by decide) fun s8 m8 F8 hs8 hF8 hC8 b8 => ?_
    obtain ⟨F9, hF9, hD9, hC9⟩ := hC8.grow (cs := [x7]) hD7 hF8
    have hl5 : s5.data.toList.length ≤ 200 := by rw [Array.length_toList]; exact hs5
    have hl8 : s8.data.toList.length ≤ 10 := by rw [Array.length_toList]; exact hs8
    refine ao_x (app_beside rfl hC9 hD9 (hmb.trans (hF1.trans (hF6.trans hF9))) rfl rfl Try.underlying22 Try.underlying9 inf5 hO7 (by rw [List.length_append]; omega)) rfl fun u10 m10 ⟨x10, hO10, hD10, hC10⟩ => ao_r (rig_assign rfl rfl) rfl (ao_nil ?_)
    refine hK3 _ _ (awp_region (ao_r (rig_move rfl rfl) rfl (ao_r (rig_sub (c := ((kk - 1 : Nat) : Int)) rfl rfl rfl (by rw [w64 _ (by omega) (by omega)]; omega)) rfl (ao_r (rig_assign rfl rfl) rfl (ao_nil ?_)))))
    exact ⟨[(0, .pointer (some ⟨p, 0, none⟩)), (7, u10), (8, .int .i64 (kk - 1 : Nat))], kk - 1, ⟨rfl, rfl, rfl, trivial⟩, by omega, u10, x10, F9, _, by omega, rfl, hC10, hD10, hF1.trans (hF6.trans hF9), hO10, by rw [List.length_append, List.length_append]; omega⟩
  · refine awp_exit (hK1 _ _ (awp_sk fun K3 hK3 => awp_rs ?_))
    have hend : ∀ (r : Env) (v : Value) (x F' mm : Hp) (l : List UInt8), CodH mb p 52 (U [x, F']) mm → Dj [x, F'] → HpLe F2 F' → OwnB 5 x v l → l.length ≤ 2000 → r.get 7 = some v → K3 r mm := by
      intro r v x F' mm l hC hD hF hO hl hr
      refine hK3 _ _ (awp_rs (ao_r (rig_move rfl hr) rfl (ao_r (rig_assign rfl rfl) rfl (ao_nil ?_))))
      exact awp_ret ⟨_, res1 Try.results27 rfl, l, x, F', hF2.trans hF, hD, hC, hO.rd, hl⟩
    refine ao_r (rig_move rfl rfl) rfl ?_
    refine ao_x (ex_call rfl rfl e7 (F7 mb p _ _ 5 hC)) rfl fun v4 m4 ⟨n1, hv4, hn1, hC4⟩ => ?_
    subst hv4
    refine ao_r (rig_eql rfl rfl rfl) rfl (ao_nil ?_)
    refine awp_if rfl (fun _ => ?_) (fun _ => awp_skip (hend _ v x F1 _ l hC4 hD hF1 hO (by omega) rfl))
    refine awp_region (ao_r (rig_move rfl rfl) rfl (ao_r (rig_move rfl rfl) rfl ?_))
    refine ao_x (ex_call rfl rfl e28 (F28 mb p _ _ hC4)) rfl fun u5 m5 ⟨s5, hu5, hs5, F5, hF5, hC5⟩ => ?_
    subst hu5
    obtain ⟨F6, hF6, hD6, hC6⟩ := hC5.grow (cs := [x]) hD hF5
    have hl5 : s5.data.toList.length ≤ 200 := by rw [Array.length_toList]; exact hs5
    refine ao_x (app_beside rfl hC6 hD6 (hmb.trans (hF1.trans hF6)) rfl rfl Try.underlying22 Try.underlying9 inf5 hO (by omega)) rfl fun u7 m7 ⟨x7, hO7, hD7, hC7⟩ => ao_r (rig_assign rfl rfl) rfl (ao_nil ?_)
    exact hend _ u7 x7 F6 _ _ hC7 hD7 (hF1.trans hF6) hO7 (by rw [List.length_append]; omega) rfl
end Go.Proofs.Ytbonkkbpjlikjaa
/- The generator: Change. -/
set_option linter.unusedVariables false
set_option linter.unusedSimpArgs false
namespace Go.Aw
open Go Go.RowKit
def chg0 : Chg := ⟨0, ⟨#[]⟩, ⟨#[]⟩, none, 0, 0, [], 0⟩
def names9 : List ByteArray := [⟨#[97, 112, 112]⟩, ⟨#[97, 112, 112, 46, 49]⟩, ⟨#[97, 112, 112, 46, 50]⟩, ⟨#[111, 116, 104, 101, 114]⟩, ⟨#[97, 112, 112, 46, 99]⟩]
end Go.Aw
namespace Go.Proofs.Ytbonkkbpjlikjaa
open Go Go.Aw Go.RowKit
/-- The content of a change is stored. -/
theorem put_data {o : Oper} {r : Env} {mb x F2 m : Hp} {p p4 p6 : Nat} {ch : Chg} {v : Value} {l : List UInt8} {a b : Operand} (h : o.op = .store 22 a b) (hC : CodH mb p 52 (U [x, U [chgB p6 ch, chgB p4 chg0, F2]]) m) (hD : Dj [x, U [chgB p6 ch, chgB p4 chg0, F2]]) (hD2 : Dj [chgB p6 ch, chgB p4 chg0, F2]) (hmb : HpLe mb F2) (ea : ev r a = some (.pointer (some ⟨p6, 3, none⟩))) (eb : ev r b = some v) (hv : RdSl x encB 1 v l) (hl : l.length ≤ 2000) (hn : ch.name.size ≤ 10) (ht : ch.to.size ≤ 10) :
    Ex Try.prog o r m (fun u m' => u = undef ∧ ∃ (ch' : Chg) (F3 : Hp), HpLe F2 F3 ∧ Dj [chgB p6 ch', chgB p4 chg0, F3] ∧ CodH mb p 52 (U [chgB p6 ch', chgB p4 chg0, F3]) m' ∧ ch'.Ok F3 ∧ ch'.data.length ≤ 2000 ∧ ch'.name.size ≤ 10 ∧ ch'.to.size ≤ 10) := by
  obtain ⟨A, cap, rfl, _⟩ := RdSl.form encB_len (by decide) hv
  have hD3 : Dj [x, chgB p6 ch, chgB p4 chg0, F2] := Dj_flat (A := [x]) hD hD2
  rw [show U [x, U [chgB p6 ch, chgB p4 chg0, F2]] = U [x, chgB p6 ch, chgB p4 chg0, F2] from U_flat [x] _] at hC
  obtain ⟨c, hc, rfl, hD4⟩ := hC.outL hD3
  refine exMono (ex_store (L := [c, x, chgB p6 ch, chgB p4 chg0, F2]) (i := 2) h hD4 ea eb Try.sizeOf22 (by simp [Value.cells, Value.oneCell']) rfl (by simp [Value.cells, encC])) fun u m' ⟨h1, h2, h3⟩ => ?_
  subst h2
  refine ⟨h1, ⟨ch.kind, ch.name, ch.to, A, l.length, cap, l, ch.N⟩, U [x, F2], ?_⟩
  replace h3 : Dj [c, x, chgB p6 ⟨ch.kind, ch.name, ch.to, A, l.length, cap, l, ch.N⟩, chgB p4 chg0, F2] := h3
  have hp : U [c, x, chgB p6 ⟨ch.kind, ch.name, ch.to, A, l.length, cap, l, ch.N⟩, chgB p4 chg0, F2] = U [c, chgB p6 ⟨ch.kind, ch.name, ch.to, A, l.length, cap, l, ch.N⟩, chgB p4 chg0, x, F2] ∧ Dj [c, chgB p6 ⟨ch.kind, ch.name, ch.to, A, l.length, cap, l, ch.N⟩, chgB p4 chg0, x, F2] := U_pm [0, 2, 3, 1, 4] rfl h3
  have e1 : U [c, chgB p6 ⟨ch.kind, ch.name, ch.to, A, l.length, cap, l, ch.N⟩, chgB p4 chg0, x, F2] = U [c, chgB p6 ⟨ch.kind, ch.name, ch.to, A, l.length, cap, l, ch.N⟩, chgB p4 chg0, U [x, F2]] := (U_flat [_, _, _] _).symm
  have h5 : Dj [c, chgB p6 ⟨ch.kind, ch.name, ch.to, A, l.length, cap, l, ch.N⟩, chgB p4 chg0, U [x, F2]] := Dj_unflat (A := [_, _, _]) hp.2
  have hx : Dj [x, F2] := hp.2.2.2.2
  have hF : HpLe F2 (U [x, F2]) := le_at 1 hx rfl
  refine ⟨hF, h5.2, ?_, ⟨RdSl.le hv (le_at 0 hx rfl), by show l.length ≤ _; omega, by show ch.name.size ≤ _; omega, by show ch.to.size ≤ _; omega⟩, hl, hn, ht⟩
  show CodH mb p 52 _ (U [c, x, chgB p6 ⟨ch.kind, ch.name, ch.to, A, l.length, cap, l, ch.N⟩, chgB p4 chg0, F2])
  rw [hp.1, e1]
  exact CodH.backL (L := [chgB p6 _, chgB p4 chg0, U [x, F2]]) hc h5 ((hmb.trans hF).trans (le_at 2 h5.2 rfl))
theorem e9 : Enters Try.prog 9 := enters_of Try.func9 (by kernel_rfl) rfl
set_option maxHeartbeats 4000000 in
set_option maxRecDepth 100000 in
theorem F9 (mb : Hp) (p : Nat) (F m : Hp) (k : Nat) (hk : k ≤ 1000) (h : CodH mb p 52 F m) (hmb : HpLe mb F) : GC Try.prog 9 #[.pointer (some ⟨p, 0, none⟩), .int .i64 k] m (fun u m' => ∃ (ch : Chg) (F' : Hp), u = ch.val ∧ HpLe F F' ∧ CodH mb p 52 F' m' ∧ ch.Ok F' ∧ ch.data.length ≤ 2000) := by
  refine gc_intro (vs := [_, _]) Try.func9 rfl Try.ntmps9 (by simp) ?_
  rw [U_one m]
  refine awp_rs ?_
  refine ao_x (ex_alloc rfl (Dj_single m) Try.zeroValue37) rfl fun u m2 ⟨p4, hu, hm2, hD3⟩ => ao_nil ?_
  subst hu hm2
  obtain ⟨hC3, hD4⟩ := h.add hD3
  replace hD4 : Dj [chgB p4 chg0, F] := hD4
  replace hC3 : CodH mb p 52 (U [chgB p4 chg0, F]) (U [chgB p4 chg0, m]) := hC3
  show AWp _ _ _ _ _ (U [chgB p4 chg0, m])
  generalize U [chgB p4 chg0, m] = m3 at hC3
  clear hD3
  rw [U_one m3]
  refine awp_rs ?_
  refine ao_x (ex_buildSlice (cs := (names9.map Value.string).toArray) rfl (Dj_single m3) rfl Try.underlying40 Try.sizeOf9 Try.zeroValue9 (by decide) (by decide) (by kernel_rfl)) rfl fun v m1 ⟨b, hv, hm1, hD⟩ => ao_r (rig_assign rfl rfl) rfl (ao_nil ?_)
  subst hv hm1
  obtain ⟨hC5, hD5⟩ := hC3.add hD
  have hp : U [Go.Aw.one b (.cells (names9.map Value.string).toArray 9 (0, 0)), U [chgB p4 chg0, F]] = U [chgB p4 chg0, U [Go.Aw.one b (.cells (names9.map Value.string).toArray 9 (0, 0)), F]] ∧ Dj [chgB p4 chg0, U [Go.Aw.one b (.cells (names9.map Value.string).toArray 9 (0, 0)), F]] ∧ Dj [Go.Aw.one b (.cells (names9.map Value.string).toArray 9 (0, 0)), F] := by
    have h1 : Dj [Go.Aw.one b (.cells (names9.map Value.string).toArray 9 (0, 0)), chgB p4 chg0, F] := Dj_flat (A := [_]) hD5 hD4
    have h2 : U [Go.Aw.one b (.cells (names9.map Value.string).toArray 9 (0, 0)), chgB p4 chg0, F] = U [chgB p4 chg0, Go.Aw.one b (.cells (names9.map Value.string).toArray 9 (0, 0)), F] ∧ Dj [chgB p4 chg0, Go.Aw.one b (.cells (names9.map Value.string).toArray 9 (0, 0)), F] := U_pm [1, 0, 2] rfl h1
    exact ⟨(U_flat [_] _).trans (h2.1.trans (U_flat [_] _).symm), Dj_unflat (A := [_]) h2.2, h2.2.2⟩
  have hrow : Strs (U [Go.Aw.one b (.cells (names9.map Value.string).toArray 9 (0, 0)), F]) (.slice (some ⟨b, 0, none⟩) 5 5) names9 := by
    refine RdSl.le (m := Go.Aw.one b (.cells (names9.map Value.string).toArray 9 (0, 0))) ?_ U_le_head
    refine ⟨_, 5, 5, rfl, rfl, .inr ⟨b, 0, rfl, ?_⟩⟩
    rw [rows_encS]
    exact cellsAt_one b (names9.map Value.string).toArray 9
  have hF1 : HpLe F (U [Go.Aw.one b (.cells (names9.map Value.string).toArray 9 (0, 0)), F]) := le_at 1 hp.2.2 rfl
  rw [hp.1] at hC5
  have hDB := hp.2.1
  generalize U [Go.Aw.one b (.cells (names9.map Value.string).toArray 9 (0, 0)), F] = F1 at hC5 hrow hF1 hDB
  clear hp hD5 hC3 hD4
  replace hC : CodH mb p 52 (U [chgB p4 chg0, F1]) (U [Go.Aw.one b (.cells (names9.map Value.string).toArray 9 (0, 0)), m3]) := hC5
  show AWp _ _ _ _ _ (U [Go.Aw.one b (.cells (names9.map Value.string).toArray 9 (0, 0)), m3])
  generalize U [Go.Aw.one b (.cells (names9.map Value.string).toArray 9 (0, 0)), m3] = m1 at hC
  clear hC5 hD
  have hS : HpLe F1 (U [chgB p4 chg0, F1]) := le_at 1 hDB rfl
  have hmbB : HpLe mb (U [chgB p4 chg0, F1]) := hmb.trans (hF1.trans hS)
  have hsz : ∀ s ∈ names9, s.size ≤ 10 := by decide
  refine awp_sk fun K1 hK1 => ?_
  have hgo : ∀ (r : Env) (mm : Hp) (p6 : Nat) (ch : Chg), Dj [chgB p6 ch, U [chgB p4 chg0, F1]] → CodH mb p 52 (U [chgB p6 ch, U [chgB p4 chg0, F1]]) mm → ch.name.size ≤ 10 → ch.to.size ≤ 10 → ch.data = [] → RdSl F1 encB 1 (.slice ch.A ch.n ch.cap) ch.data → EnvLe [(0, .pointer (some ⟨p, 0, none⟩)), (1, .int .i64 k), (4, .pointer (some ⟨p4, 0, none⟩)), (6, .pointer (some ⟨p6, 0, none⟩))] r → K1 r mm := by
    intro r mm p6 ch hD0 hC0 hn ht hd0 hrd0 hr
    have hD : Dj [chgB p6 ch, chgB p4 chg0, F1] := Dj_flat (A := [_]) hD0 hDB
    rw [show U [chgB p6 ch, U [chgB p4 chg0, F1]] = U [chgB p6 ch, chgB p4 chg0, F1] from U_flat [_] _] at hC0
    have hmb1 := hmb.trans hF1
    have hok : ch.Ok F1 := ⟨hrd0, by rw [hd0]; decide, by omega, by omega⟩
    refine hK1 _ _ (awp_le _ hr (awp_sk fun K2 hK2 => ?_))
    have hend : ∀ (r : Env) (mm : Hp) (ch : Chg) (F2 : Hp), HpLe F1 F2 → Dj [chgB p6 ch, chgB p4 chg0, F2] → CodH mb p 52 (U [chgB p6 ch, chgB p4 chg0, F2]) mm → ch.Ok F2 → ch.data.length ≤ 2000 → EnvLe [(4, .pointer (some ⟨p4, 0, none⟩)), (6, .pointer (some ⟨p6, 0, none⟩))] r → K2 r mm := by
      intro r mm ch F2 hF2 hD2 hC2 hok2 hl2 hr
      obtain ⟨c, hc, rfl, hD3⟩ := hC2.outL hD2
      refine hK2 _ _ (awp_le _ hr (awp_rs ?_))
      refine ao_r (rig_loadN (vs := encC ch) rfl rfl Try.isAgg37 Try.sizeOf37 (chgB_at 1 hD3 rfl)) rfl ?_
      refine ao_x0 (ex_store (i := 2) rfl hD3 rfl rfl Try.sizeOf37 (encC_one ch) rfl (by simp [Value.cells, encC])) fun u m7 ⟨_, hm7, hD7⟩ => ao_nil ?_
      subst hm7
      replace hD7 : Dj [c, chgB p6 ch, chgB p4 ch, F2] := hD7
      show AWp _ _ _ _ _ (U [c, chgB p6 ch, chgB p4 ch, F2])
      exact awp_ret ⟨_, resC (vs := encC ch) Try.results9 rfl Try.isAgg37 Try.sizeOf37 (chgB_at 2 hD7 rfl), ch, U [chgB p6 ch, chgB p4 ch, F2], rfl, (hF1.trans hF2).trans (le_at 2 hD7.2 rfl), CodH.backL (L := [chgB p6 ch, chgB p4 ch, F2]) hc hD7 ((hmb1.trans hF2).trans (le_at 2 hD7.2 rfl)), hok2.le (le_at 2 hD7.2 rfl), hl2⟩
    obtain ⟨c0, _⟩ := (chgB_at 0 hD rfl).le hC0.le
    refine awp_rs (ao_r (rig_fieldAddr rfl rfl Try.underlying37 rfl Try.sizeOf3 rfl) rfl (ao_r (rig_load1 rfl rfl Try.isAgg3 c0) rfl (ao_nil ?_)))
    refine awp_block ?_
    refine awp_mid (fun r m' => ∃ b : Bool, r = [(0, .pointer (some ⟨p, 0, none⟩)), (1, .int .i64 k), (4, .pointer (some ⟨p4, 0, none⟩)), (6, .pointer (some ⟨p6, 0, none⟩)), (27, .int .i64 ch.kind), (28, .bool b)] ∧ mm = m') ?_ ?_
    · refine awp_rs (ao_r (rig_eql rfl rfl rfl) rfl (ao_r (rig_assign rfl rfl) rfl (ao_nil ?_)))
      refine awp_cond rfl (fun h => ?_) (fun h => ?_)
      · exact awp_skip ⟨[(0, .pointer (some ⟨p, 0, none⟩)), (1, .int .i64 k), (4, .pointer (some ⟨p4, 0, none⟩)), (6, .pointer (some ⟨p6, 0, none⟩)), (27, .int .i64 ch.kind), (28, .bool (decide (ch.kind = 1)))], ⟨rfl, rfl, rfl, rfl, rfl, rfl, trivial⟩, _, rfl, rfl⟩
      · refine awp_region (ao_r (rig_eql rfl rfl rfl) rfl (ao_r (rig_assign rfl rfl) rfl (ao_nil ?_)))
        exact ⟨[(0, .pointer (some ⟨p, 0, none⟩)), (1, .int .i64 k), (4, .pointer (some ⟨p4, 0, none⟩)), (6, .pointer (some ⟨p6, 0, none⟩)), (27, .int .i64 ch.kind), (28, .bool (decide (ch.kind = 8)))], ⟨rfl, rfl, rfl, rfl, rfl, rfl, trivial⟩, _, rfl, rfl⟩
    rintro r m' ⟨b, rfl, rfl⟩
    refine awp_cond rfl (fun h => ?_) (fun h => ?_)
    · refine awp_region (ao_r (rig_move rfl rfl) rfl (ao_r (rig_move rfl rfl) rfl ?_))
      refine ao_x (ex_call rfl rfl e27 (F27 mb p _ _ k hk hC0 (hmb1.trans (le_at 2 hD rfl)))) rfl fun u m5 ⟨l, x, F5, hF5, hD5, hC5, hrd, hl⟩ => ao_r (rig_fieldAddr rfl rfl Try.underlying37 rfl Try.sizeOf22 rfl) rfl ?_
      obtain ⟨F6, hF6, hD6, rfl⟩ := grow_to (cs := [chgB p6 ch, chgB p4 chg0]) hD hF5
      refine ao_x0 (put_data rfl hC5 hD5 hD6 (hmb1.trans hF6) rfl rfl hrd hl hn ht) fun u m7 ⟨_, ch', Fx, hF7, hD7, hC7, hok7, hl7, _, _⟩ => ao_nil ?_
      exact hend _ _ ch' Fx (hF6.trans hF7) hD7 hC7 hok7 hl7 ⟨rfl, rfl, trivial⟩
    refine awp_rs (ao_r (rig_eql rfl rfl rfl) rfl (ao_r (rig_assign rfl rfl) rfl (ao_nil ?_)))
    refine awp_cond rfl (fun h => ?_) (fun h => awp_skip (hend _ _ ch F1 (HpLe.refl _) hD hC0 hok (by rw [hd0]; decide) ⟨rfl, rfl, trivial⟩))
    refine awp_rs (ao_r (rig_move rfl rfl) rfl ?_)
    refine ao_x (ex_call rfl rfl e28 (F28 mb p _ _ hC0)) rfl fun u5 m5 ⟨s5, hu5, hs5, F5, hF5, hC5⟩ => ?_
    subst hu5
    obtain ⟨F6, hF6, hD6, hC6⟩ := hC5.grow (cs := [chgB p6 ch, chgB p4 chg0]) hD hF5
    replace hD6 : Dj [chgB p6 ch, chgB p4 chg0, F6] := hD6
    replace hC6 : CodH mb p 52 (U [chgB p6 ch, chgB p4 chg0, F6]) m5 := hC6
    rw [U_one m5]
    refine ao_x (ex_convSB rfl (Dj_single m5) rfl Try.underlying9 Try.underlying22 Try.underlying5 (by omega)) rfl fun v7 m7 ⟨x7, hO7, hm7, hD7⟩ => ?_
    subst hm7
    have hl5 : s5.data.toList.length ≤ 200 := by rw [Array.length_toList]; exact hs5
    generalize s5.data.toList = l5 at hO7 hl5
    obtain ⟨hC7, hDx⟩ := hC6.add hD7
    generalize U [x7, m5] = m7 at hC7
    clear hD7
    rw [U_one m7]
    refine ao_x (ex_buildSlice (cs := #[.int .u8 10]) rfl (Dj_single m7) rfl Try.underlying22 Try.sizeOf5 Try.zeroValue5 (by decide) (by decide) (by kernel_rfl)) rfl fun v8 m8 ⟨b8, hv8, hm8, hD8⟩ => ?_
    subst hv8 hm8
    obtain ⟨hC8, hDy⟩ := hC7.add hD8
    replace hDy : Dj [Go.Aw.one b8 (.cells #[.int .u8 10] 5 (0, 0)), U [x7, U [chgB p6 ch, chgB p4 chg0, F6]]] := hDy
    have hrd8 : RdSl (Go.Aw.one b8 (.cells #[.int .u8 10] 5 (0, 0))) encB 1 (.slice (some ⟨b8, 0, none⟩) 1 1) [10] := ⟨_, 1, 1, rfl, rfl, .inr ⟨b8, 0, rfl, cellsAt_one b8 #[.int .u8 10] 5⟩⟩
    generalize Go.Aw.one b8 (.cells #[.int .u8 10] 5 (0, 0)) = y8 at hC8 hDy hD8 hrd8
    generalize U [y8, m7] = m8 at hC8
    clear hD8
    have hDz : Dj [y8, x7, U [chgB p6 ch, chgB p4 chg0, F6]] := Dj_flat (A := [y8]) hDy hDx
    rw [show U [y8, U [x7, U [chgB p6 ch, chgB p4 chg0, F6]]] = U [y8, x7, U [chgB p6 ch, chgB p4 chg0, F6]] from U_flat [y8] _] at hC8
    obtain ⟨c, hc, rfl, hDc⟩ := hC8.outL hDz
    refine ao_x (ex_appB (L := [c, y8, x7, U [chgB p6 ch, chgB p4 chg0, F6]]) 2 rfl hDc rfl rfl Try.underlying22 inf5 hO7 rfl (.inl ⟨_, Try.underlying22, RdSl.le hrd8 (le_at 1 hDc rfl)⟩) (by simp; omega)) rfl fun v9 m9 ⟨x9, hO9, hm9, hD9⟩ => ao_r (rig_fieldAddr rfl rfl Try.underlying37 rfl Try.sizeOf22 rfl) rfl ?_
    subst hm9
    replace hD9 : Dj [c, y8, x9, U [chgB p6 ch, chgB p4 chg0, F6]] := hD9
    have hD10 : Dj [c, y8, x9, chgB p6 ch, chgB p4 chg0, F6] := Dj_flat (A := [c, y8, x9]) hD9 hD6
    have e10 : U [c, y8, x9, U [chgB p6 ch, chgB p4 chg0, F6]] = U [c, y8, x9, chgB p6 ch, chgB p4 chg0, F6] := U_flat [c, y8, x9] _
    have hp : U [c, y8, x9, chgB p6 ch, chgB p4 chg0, F6] = U [c, x9, chgB p6 ch, chgB p4 chg0, y8, F6] ∧ Dj [c, x9, chgB p6 ch, chgB p4 chg0, y8, F6] := U_pm [0, 2, 3, 4, 1, 5] rfl hD10
    have e11 : U [c, x9, chgB p6 ch, chgB p4 chg0, y8, F6] = U [c, x9, chgB p6 ch, chgB p4 chg0, U [y8, F6]] := (U_flat [_, _, _, _] _).symm
    have hD11 : Dj [c, x9, chgB p6 ch, chgB p4 chg0, U [y8, F6]] := Dj_unflat (A := [_, _, _, _]) hp.2
    have e12 : U [c, x9, chgB p6 ch, chgB p4 chg0, U [y8, F6]] = U [c, x9, U [chgB p6 ch, chgB p4 chg0, U [y8, F6]]] := (U_flat [_, _] _).symm
    have hD12 : Dj [c, x9, U [chgB p6 ch, chgB p4 chg0, U [y8, F6]]] := Dj_unflat (A := [_, _]) hD11
    have hyF : Dj [y8, F6] := hp.2.2.2.2.2
    have hF8 : HpLe F6 (U [y8, F6]) := le_at 1 hyF rfl
    have hmb8 := (hmb1.trans hF6).trans hF8
    have hC12 : CodH mb p 52 (U [x9, U [chgB p6 ch, chgB p4 chg0, U [y8, F6]]]) (U [c, x9, U [chgB p6 ch, chgB p4 chg0, U [y8, F6]]]) := CodH.backL (L := [x9, U [chgB p6 ch, chgB p4 chg0, U [y8, F6]]]) hc hD12 ((hmb8.trans (le_at 2 hD11.2.2 rfl)).trans (le_at 1 hD12.2 rfl))
    show AOps _ _ _ _ _ (U [c, y8, x9, U [chgB p6 ch, chgB p4 chg0, F6]]) _
    rw [e10, hp.1, e11, e12]
    generalize U [c, x9, U [chgB p6 ch, chgB p4 chg0, U [y8, F6]]] = m12 at hC12
    refine ao_x0 (put_data rfl hC12 hD12.2 hD11.2.2 hmb8 rfl rfl hO9.rd (by simp; omega) hn ht) fun u m13 ⟨_, ch', Fx, hF7, hD13, hC13, hok7, hl7, hn7, ht7⟩ => ao_nil ?_
    have hFF := (hF6.trans hF8).trans hF7
    refine awp_rs (ao_r (rig_move rfl rfl) rfl ?_)
    refine ao_x (ex_call rfl rfl e7 (F7 mb p _ _ 6 hC13)) rfl fun v14 m14 ⟨k14, hv14, _, hC14⟩ => ?_
    subst hv14
    refine ao_r (rig_eql rfl rfl rfl) rfl (ao_nil ?_)
    refine awp_if rfl (fun _ => ?_) (fun _ => awp_skip (hend _ _ ch' Fx hFF hD13 hC14 hok7 hl7 ⟨rfl, rfl, trivial⟩))
    refine awp_region (ao_r (rig_move rfl rfl) rfl ?_)
    refine ao_x (ex_call rfl rfl e29 (F29 mb p _ _ 2 (by decide) hC14)) rfl fun u15 m15 ⟨s15, hu15, hs15, F15, hF15, hC15⟩ => ?_
    subst hu15
    obtain ⟨F16, hF16, hD16, rfl⟩ := grow_to (cs := [chgB p6 ch', chgB p4 chg0]) hD13 hF15
    replace hD16 : Dj [chgB p6 ch', chgB p4 chg0, F16] := hD16
    replace hC15 : CodH mb p 52 (U [chgB p6 ch', chgB p4 chg0, F16]) m15 := hC15
    rw [U_one m15]
    refine ao_x (ex_convSB rfl (Dj_single m15) rfl Try.underlying9 Try.underlying22 Try.underlying5 (by omega)) rfl fun v17 m17 ⟨x17, hO17, hm17, hD17⟩ => ao_r (rig_fieldAddr rfl rfl Try.underlying37 rfl Try.sizeOf22 rfl) rfl ?_
    subst hm17
    have hl15 : s15.data.toList.length ≤ 20 := by rw [Array.length_toList]; exact hs15
    obtain ⟨hC17, hDx17⟩ := hC15.add hD17
    refine ao_x0 (put_data rfl hC17 hDx17 hD16 ((hmb1.trans hFF).trans hF16) rfl rfl hO17.rd (by omega) hn7 ht7) fun u m18 ⟨_, ch'', F18, hF18, hD18, hC18, hok18, hl18, _, _⟩ => ao_nil ?_
    exact hend _ _ ch'' F18 ((hFF.trans hF16).trans hF18) hD18 hC18 hok18 hl18 ⟨rfl, rfl, trivial⟩
  refine St.awp_draw F1 (.p 0 (.p 3 (.p 4 (.p 8 (.p 9 (.p 13 (.b 1 (.p 2 (.b 5 (.p 6 (.p 7 (.b 10 (.p 11 (.p 12 (.b 14 (.p 15 (.p 16 (.p 17 (.s 18 (.s 19 .fin))))) 18 (.s 14 (.p 15 (.p 16 (.p 17 (.s 19 .fin)))))))) 18 (.s 10 (.p 11 (.p 12 (.s 14 (.p 15 (.p 16 (.p 17 (.s 19 .fin))))))))))) 18 (.s 5 (.p 6 (.p 7 (.s 10 (.p 11 (.p 12 (.s 14 (.p 15 (.p 16 (.p 17 (.s 19 .fin))))))))))))) 18 (.s 1 (.p 2 (.s 5 (.p 6 (.p 7 (.s 10 (.p 11 (.p 12 (.s 14 (.p 15 (.p 16 (.p 17 (.s 19 .fin)))))))))))))))))))) [1, 5, 10, 14, 19] (by kernel_rfl) (by kernel_rfl) (hS.trans hC.le) ?_
  refine St.opu rfl (rig_move rfl rfl) rfl (St.opu rfl (rig_move rfl rfl) rfl (St.opu rfl (rig_move rfl rfl) rfl (St.opu rfl (rig_move rfl rfl) rfl (St.opu rfl (rig_move rfl rfl) rfl (St.opu rfl (rig_move rfl rfl) rfl ?_)))))
  refine St.od_b ?_ ?_
  rotate_left
  · rw [U_one m1]
    refine St.os rfl (ex_alloc rfl (Dj_single m1) Try.zeroValue37) rfl fun u mA ⟨p6, hu, hmA, hDA⟩ => ?_
    subst hu hmA
    obtain ⟨hCA, hDx⟩ := hC.add hDA
    refine ⟨fun _ => U_le_tail hDA, hS.trans ((le_at 1 hDx rfl).trans hCA.le), ?_⟩
    refine St.os rfl (ex_call rfl rfl e7 (F7 mb p _ _ 8 hCA)) rfl fun v1 m1x ⟨k1, hv1, hk1, hC1⟩ => ⟨fun h => by simp at h, hS.trans ((le_at 1 hDx rfl).trans hC1.le), ?_⟩
    subst hv1
    refine St.opu rfl (rig_add (c := ((1 + k1 : Nat) : Int)) rfl rfl rfl (by rw [show (1 : Int) + (k1 : Int) = ((1 + k1 : Nat) : Int) by omega]; exact w64 _ (by omega) (by omega))) rfl ?_
    refine St.os rfl (ex_call rfl rfl e7 (F7 mb p _ _ 5 hC1)) rfl fun v5 m5x ⟨k5, hv5, hk5, hC5⟩ => ⟨fun h => by simp at h, hS.trans ((le_at 1 hDx rfl).trans hC5.le), ?_⟩
    subst hv5
    obtain ⟨s5, hx5⟩ := get_lt (l := names9) (i := k5) (by have : names9.length = 5 := rfl; omega)
    obtain ⟨b5, o5, cc5, ee5, hxc5⟩ := RdSl.get_ encS_len (by decide) hrow hx5
    simp only [Value.slice.injEq, Option.some.injEq, Addr.mk.injEq, and_true, true_and] at ee5
    obtain ⟨⟨rfl, rfl⟩, _, rfl⟩ := ee5
    refine St.opu rfl (rig_ix k5 rfl rfl rfl Try.underlying40 Try.sizeOf9 rfl rfl (by show k5 < 5; omega)) rfl (St.opu rfl (rig_load1 rfl rfl Try.isAgg9 hxc5.1) rfl ?_)
    refine St.os rfl (ex_call rfl rfl e7 (F7 mb p _ _ 5 hC5)) rfl fun v10 m10x ⟨k10, hv10, hk10, hC10⟩ => ⟨fun h => by simp at h, hS.trans ((le_at 1 hDx rfl).trans hC10.le), ?_⟩
    subst hv10
    obtain ⟨s10, hx10⟩ := get_lt (l := names9) (i := k10) (by have : names9.length = 5 := rfl; omega)
    obtain ⟨b10, o10, cc10, ee10, hxc10⟩ := RdSl.get_ encS_len (by decide) hrow hx10
    simp only [Value.slice.injEq, Option.some.injEq, Addr.mk.injEq, and_true, true_and] at ee10
    obtain ⟨⟨rfl, rfl⟩, _, rfl⟩ := ee10
    refine St.opu rfl (rig_ix k10 rfl rfl rfl Try.underlying40 Try.sizeOf9 rfl rfl (by show k10 < 5; omega)) rfl (St.opu rfl (rig_load1 rfl rfl Try.isAgg9 hxc10.1) rfl ?_)
    refine St.os rfl (ex_call rfl rfl e7 (F7 mb p _ _ 12 hC10)) rfl fun v14 m14x ⟨k14, hv14, hk14, hC14⟩ => ⟨fun h => by simp at h, hS.trans ((le_at 1 hDx rfl).trans hC14.le), ?_⟩
    subst hv14
    refine St.opu rfl (rig_mul (c := ((8 * k14 : Nat) : Int)) rfl rfl rfl (by rw [show (8 : Int) * (k14 : Int) = ((8 * k14 : Nat) : Int) by omega]; exact w64 _ (by omega) (by omega))) rfl ?_
    refine St.opu rfl (rig_add (c := ((1 + 8 * k14 : Nat) : Int)) rfl rfl rfl (by rw [show (1 : Int) + ((8 * k14 : Nat) : Int) = ((1 + 8 * k14 : Nat) : Int) by omega]; exact w64 _ (by omega) (by omega))) rfl ?_
    refine St.opu rfl (rig_build (pl := #[(0, 1), (1, 1), (2, 1), (3, 1), (4, 1)]) (cs := (encC ⟨(1 + k1 : Nat), s5, s10, none, 0, 0, [], (1 + 8 * k14 : Nat)⟩).toArray) rfl rfl Try.underlying37 Try.zeroValue37 (fun w => by kernel_rfl) rfl) rfl ?_
    replace hDx : Dj [chgB p6 chg0, U [chgB p4 chg0, F1]] := hDx
    obtain ⟨c, hc, em, hdc⟩ := CodH.outL (L := [chgB p6 chg0, U [chgB p4 chg0, F1]]) hC14 hDx
    rw [em]
    refine St.os0 rfl (ex_store (i := 1) rfl hdc rfl rfl Try.sizeOf37 (encC_one _) rfl (by simp [Value.cells, encC])) fun u mZ ⟨_, hmZ, hdZ⟩ => ?_
    subst hmZ
    have hput : putR (encC chg0).toArray 0 (encC ⟨(1 + k1 : Nat), s5, s10, none, 0, 0, [], (1 + 8 * k14 : Nat)⟩) = (encC ⟨(1 + k1 : Nat), s5, s10, none, 0, 0, [], (1 + 8 * k14 : Nat)⟩).toArray := putR_all _ _ rfl
    replace hdZ : Dj [c, Go.Aw.one p6 (.cells (putR (encC chg0).toArray 0 (encC ⟨(1 + k1 : Nat), s5, s10, none, 0, 0, [], (1 + 8 * k14 : Nat)⟩)) 37 (0, 0)), U [chgB p4 chg0, F1]] := hdZ
    show _ ∧ _ ∧ St.AOrd _ _ _ _ _ _ _ _ (U [c, Go.Aw.one p6 (.cells (putR (encC chg0).toArray 0 (encC ⟨(1 + k1 : Nat), s5, s10, none, 0, 0, [], (1 + 8 * k14 : Nat)⟩)) 37 (0, 0)), U [chgB p4 chg0, F1]])
    rw [hput] at hdZ ⊢
    have hCZ : CodH mb p 52 (U [chgB p6 ⟨(1 + k1 : Nat), s5, s10, none, 0, 0, [], (1 + 8 * k14 : Nat)⟩, U [chgB p4 chg0, F1]]) _ := CodH.backL (L := [chgB p6 _, U [chgB p4 chg0, F1]]) hc hdZ (hmbB.trans (le_at 1 hdZ.2 rfl))
    refine ⟨fun h => by simp at h, hS.trans ((le_at 1 hdZ.2 rfl).trans hCZ.le), St.od_fin ?_⟩
    exact hgo _ _ p6 ⟨(1 + k1 : Nat), s5, s10, none, 0, 0, [], (1 + 8 * k14 : Nat)⟩ hdZ.2 hCZ (hsz _ (List.mem_of_getElem? hx5)) (hsz _ (List.mem_of_getElem? hx10)) rfl ⟨none, 0, 0, rfl, rfl, .inl rfl⟩ ⟨rfl, rfl, rfl, rfl, trivial⟩
  refine St.os rfl (ex_call rfl rfl e7 (F7 mb p _ _ 8 hC)) rfl fun v1 m1x ⟨k1, hv1, hk1, hC1⟩ => ⟨fun h => by simp at h, hS.trans hC1.le, ?_⟩
  subst hv1
  refine St.opu rfl (rig_add (c := ((1 + k1 : Nat) : Int)) rfl rfl rfl (by rw [show (1 : Int) + (k1 : Int) = ((1 + k1 : Nat) : Int) by omega]; exact w64 _ (by omega) (by omega))) rfl ?_
  refine St.od_b ?_ ?_
  rotate_left
  · rw [U_one m1x]
    refine St.os rfl (ex_alloc rfl (Dj_single m1x) Try.zeroValue37) rfl fun u mA ⟨p6, hu, hmA, hDA⟩ => ?_
    subst hu hmA
    obtain ⟨hCA, hDx⟩ := hC1.add hDA
    refine ⟨fun _ => U_le_tail hDA, hS.trans ((le_at 1 hDx rfl).trans hCA.le), ?_⟩
    refine St.os rfl (ex_call rfl rfl e7 (F7 mb p _ _ 5 hCA)) rfl fun v5 m5x ⟨k5, hv5, hk5, hC5⟩ => ⟨fun h => by simp at h, hS.trans ((le_at 1 hDx rfl).trans hC5.le), ?_⟩
    subst hv5
    obtain ⟨s5, hx5⟩ := get_lt (l := names9) (i := k5) (by have : names9.length = 5 := rfl; omega)
    obtain ⟨b5, o5, cc5, ee5, hxc5⟩ := RdSl.get_ encS_len (by decide) hrow hx5
    simp only [Value.slice.injEq, Option.some.injEq, Addr.mk.injEq, and_true, true_and] at ee5
    obtain ⟨⟨rfl, rfl⟩, _, rfl⟩ := ee5
    refine St.opu rfl (rig_ix k5 rfl rfl rfl Try.underlying40 Try.sizeOf9 rfl rfl (by show k5 < 5; omega)) rfl (St.opu rfl (rig_load1 rfl rfl Try.isAgg9 hxc5.1) rfl ?_)
    refine St.os rfl (ex_call rfl rfl e7 (F7 mb p _ _ 5 hC5)) rfl fun v10 m10x ⟨k10, hv10, hk10, hC10⟩ => ⟨fun h => by simp at h, hS.trans ((le_at 1 hDx rfl).trans hC10.le), ?_⟩
    subst hv10
    obtain ⟨s10, hx10⟩ := get_lt (l := names9) (i := k10) (by have : names9.length = 5 := rfl; omega)
    obtain ⟨b10, o10, cc10, ee10, hxc10⟩ := RdSl.get_ encS_len (by decide) hrow hx10
    simp only [Value.slice.injEq, Option.some.injEq, Addr.mk.injEq, and_true, true_and] at ee10
    obtain ⟨⟨rfl, rfl⟩, _, rfl⟩ := ee10
    refine St.opu rfl (rig_ix k10 rfl rfl rfl Try.underlying40 Try.sizeOf9 rfl rfl (by show k10 < 5; omega)) rfl (St.opu rfl (rig_load1 rfl rfl Try.isAgg9 hxc10.1) rfl ?_)
    refine St.os rfl (ex_call rfl rfl e7 (F7 mb p _ _ 12 hC10)) rfl fun v14 m14x ⟨k14, hv14, hk14, hC14⟩ => ⟨fun h => by simp at h, hS.trans ((le_at 1 hDx rfl).trans hC14.le), ?_⟩
    subst hv14
    refine St.opu rfl (rig_mul (c := ((8 * k14 : Nat) : Int)) rfl rfl rfl (by rw [show (8 : Int) * (k14 : Int) = ((8 * k14 : Nat) : Int) by omega]; exact w64 _ (by omega) (by omega))) rfl ?_
    refine St.opu rfl (rig_add (c := ((1 + 8 * k14 : Nat) : Int)) rfl rfl rfl (by rw [show (1 : Int) + ((8 * k14 : Nat) : Int) = ((1 + 8 * k14 : Nat) : Int) by omega]; exact w64 _ (by omega) (by omega))) rfl ?_
    refine St.opu rfl (rig_build (pl := #[(0, 1), (1, 1), (2, 1), (3, 1), (4, 1)]) (cs := (encC ⟨(1 + k1 : Nat), s5, s10, none, 0, 0, [], (1 + 8 * k14 : Nat)⟩).toArray) rfl rfl Try.underlying37 Try.zeroValue37 (fun w => by kernel_rfl) rfl) rfl ?_
    replace hDx : Dj [chgB p6 chg0, U [chgB p4 chg0, F1]] := hDx
    obtain ⟨c, hc, em, hdc⟩ := CodH.outL (L := [chgB p6 chg0, U [chgB p4 chg0, F1]]) hC14 hDx
    rw [em]
    refine St.os0 rfl (ex_store (i := 1) rfl hdc rfl rfl Try.sizeOf37 (encC_one _) rfl (by simp [Value.cells, encC])) fun u mZ ⟨_, hmZ, hdZ⟩ => ?_
    subst hmZ
    have hput : putR (encC chg0).toArray 0 (encC ⟨(1 + k1 : Nat), s5, s10, none, 0, 0, [], (1 + 8 * k14 : Nat)⟩) = (encC ⟨(1 + k1 : Nat), s5, s10, none, 0, 0, [], (1 + 8 * k14 : Nat)⟩).toArray := putR_all _ _ rfl
    replace hdZ : Dj [c, Go.Aw.one p6 (.cells (putR (encC chg0).toArray 0 (encC ⟨(1 + k1 : Nat), s5, s10, none, 0, 0, [], (1 + 8 * k14 : Nat)⟩)) 37 (0, 0)), U [chgB p4 chg0, F1]] := hdZ
    show _ ∧ _ ∧ St.AOrd _ _ _ _ _ _ _ _ (U [c, Go.Aw.one p6 (.cells (putR (encC chg0).toArray 0 (encC ⟨(1 + k1 : Nat), s5, s10, none, 0, 0, [], (1 + 8 * k14 : Nat)⟩)) 37 (0, 0)), U [chgB p4 chg0, F1]])
    rw [hput] at hdZ ⊢
    have hCZ : CodH mb p 52 (U [chgB p6 ⟨(1 + k1 : Nat), s5, s10, none, 0, 0, [], (1 + 8 * k14 : Nat)⟩, U [chgB p4 chg0, F1]]) _ := CodH.backL (L := [chgB p6 _, U [chgB p4 chg0, F1]]) hc hdZ (hmbB.trans (le_at 1 hdZ.2 rfl))
    refine ⟨fun h => by simp at h, hS.trans ((le_at 1 hdZ.2 rfl).trans hCZ.le), St.od_fin ?_⟩
    exact hgo _ _ p6 ⟨(1 + k1 : Nat), s5, s10, none, 0, 0, [], (1 + 8 * k14 : Nat)⟩ hdZ.2 hCZ (hsz _ (List.mem_of_getElem? hx5)) (hsz _ (List.mem_of_getElem? hx10)) rfl ⟨none, 0, 0, rfl, rfl, .inl rfl⟩ ⟨rfl, rfl, rfl, rfl, trivial⟩
  refine St.os rfl (ex_call rfl rfl e7 (F7 mb p _ _ 5 hC1)) rfl fun v5 m5x ⟨k5, hv5, hk5, hC5⟩ => ⟨fun h => by simp at h, hS.trans hC5.le, ?_⟩
  subst hv5
  obtain ⟨s5, hx5⟩ := get_lt (l := names9) (i := k5) (by have : names9.length = 5 := rfl; omega)
  obtain ⟨b5, o5, cc5, ee5, hxc5⟩ := RdSl.get_ encS_len (by decide) hrow hx5
  simp only [Value.slice.injEq, Option.some.injEq, Addr.mk.injEq, and_true, true_and] at ee5
  obtain ⟨⟨rfl, rfl⟩, _, rfl⟩ := ee5
  refine St.opu rfl (rig_ix k5 rfl rfl rfl Try.underlying40 Try.sizeOf9 rfl rfl (by show k5 < 5; omega)) rfl (St.opu rfl (rig_load1 rfl rfl Try.isAgg9 hxc5.1) rfl ?_)
  refine St.od_b ?_ ?_
  rotate_left
  · rw [U_one m5x]
    refine St.os rfl (ex_alloc rfl (Dj_single m5x) Try.zeroValue37) rfl fun u mA ⟨p6, hu, hmA, hDA⟩ => ?_
    subst hu hmA
    obtain ⟨hCA, hDx⟩ := hC5.add hDA
    refine ⟨fun _ => U_le_tail hDA, hS.trans ((le_at 1 hDx rfl).trans hCA.le), ?_⟩
    refine St.os rfl (ex_call rfl rfl e7 (F7 mb p _ _ 5 hCA)) rfl fun v10 m10x ⟨k10, hv10, hk10, hC10⟩ => ⟨fun h => by simp at h, hS.trans ((le_at 1 hDx rfl).trans hC10.le), ?_⟩
    subst hv10
    obtain ⟨s10, hx10⟩ := get_lt (l := names9) (i := k10) (by have : names9.length = 5 := rfl; omega)
    obtain ⟨b10, o10, cc10, ee10, hxc10⟩ := RdSl.get_ encS_len (by decide) hrow hx10
    simp only [Value.slice.injEq, Option.some.injEq, Addr.mk.injEq, and_true, true_and] at ee10
    obtain ⟨⟨rfl, rfl⟩, _, rfl⟩ := ee10
    refine St.opu rfl (rig_ix k10 rfl rfl rfl Try.underlying40 Try.sizeOf9 rfl rfl (by show k10 < 5; omega)) rfl (St.opu rfl (rig_load1 rfl rfl Try.isAgg9 hxc10.1) rfl ?_)
    refine St.os rfl (ex_call rfl rfl e7 (F7 mb p _ _ 12 hC10)) rfl fun v14 m14x ⟨k14, hv14, hk14, hC14⟩ => ⟨fun h => by simp at h, hS.trans ((le_at 1 hDx rfl).trans hC14.le), ?_⟩
    subst hv14
    refine St.opu rfl (rig_mul (c := ((8 * k14 : Nat) : Int)) rfl rfl rfl (by rw [show (8 : Int) * (k14 : Int) = ((8 * k14 : Nat) : Int) by omega]; exact w64 _ (by omega) (by omega))) rfl ?_
    refine St.opu rfl (rig_add (c := ((1 + 8 * k14 : Nat) : Int)) rfl rfl rfl (by rw [show (1 : Int) + ((8 * k14 : Nat) : Int) = ((1 + 8 * k14 : Nat) : Int) by omega]; exact w64 _ (by omega) (by omega))) rfl ?_
    refine St.opu rfl (rig_build (pl := #[(0, 1), (1, 1), (2, 1), (3, 1), (4, 1)]) (cs := (encC ⟨(1 + k1 : Nat), s5, s10, none, 0, 0, [], (1 + 8 * k14 : Nat)⟩).toArray) rfl rfl Try.underlying37 Try.zeroValue37 (fun w => by kernel_rfl) rfl) rfl ?_
    replace hDx : Dj [chgB p6 chg0, U [chgB p4 chg0, F1]] := hDx
    obtain ⟨c, hc, em, hdc⟩ := CodH.outL (L := [chgB p6 chg0, U [chgB p4 chg0, F1]]) hC14 hDx
    rw [em]
    refine St.os0 rfl (ex_store (i := 1) rfl hdc rfl rfl Try.sizeOf37 (encC_one _) rfl (by simp [Value.cells, encC])) fun u mZ ⟨_, hmZ, hdZ⟩ => ?_
    subst hmZ
    have hput : putR (encC chg0).toArray 0 (encC ⟨(1 + k1 : Nat), s5, s10, none, 0, 0, [], (1 + 8 * k14 : Nat)⟩) = (encC ⟨(1 + k1 : Nat), s5, s10, none, 0, 0, [], (1 + 8 * k14 : Nat)⟩).toArray := putR_all _ _ rfl
    replace hdZ : Dj [c, Go.Aw.one p6 (.cells (putR (encC chg0).toArray 0 (encC ⟨(1 + k1 : Nat), s5, s10, none, 0, 0, [], (1 + 8 * k14 : Nat)⟩)) 37 (0, 0)), U [chgB p4 chg0, F1]] := hdZ
    show _ ∧ _ ∧ St.AOrd _ _ _ _ _ _ _ _ (U [c, Go.Aw.one p6 (.cells (putR (encC chg0).toArray 0 (encC ⟨(1 + k1 : Nat), s5, s10, none, 0, 0, [], (1 + 8 * k14 : Nat)⟩)) 37 (0, 0)), U [chgB p4 chg0, F1]])
    rw [hput] at hdZ ⊢
    have hCZ : CodH mb p 52 (U [chgB p6 ⟨(1 + k1 : Nat), s5, s10, none, 0, 0, [], (1 + 8 * k14 : Nat)⟩, U [chgB p4 chg0, F1]]) _ := CodH.backL (L := [chgB p6 _, U [chgB p4 chg0, F1]]) hc hdZ (hmbB.trans (le_at 1 hdZ.2 rfl))
    refine ⟨fun h => by simp at h, hS.trans ((le_at 1 hdZ.2 rfl).trans hCZ.le), St.od_fin ?_⟩
    exact hgo _ _ p6 ⟨(1 + k1 : Nat), s5, s10, none, 0, 0, [], (1 + 8 * k14 : Nat)⟩ hdZ.2 hCZ (hsz _ (List.mem_of_getElem? hx5)) (hsz _ (List.mem_of_getElem? hx10)) rfl ⟨none, 0, 0, rfl, rfl, .inl rfl⟩ ⟨rfl, rfl, rfl, rfl, trivial⟩
  refine St.os rfl (ex_call rfl rfl e7 (F7 mb p _ _ 5 hC5)) rfl fun v10 m10x ⟨k10, hv10, hk10, hC10⟩ => ⟨fun h => by simp at h, hS.trans hC10.le, ?_⟩
  subst hv10
  obtain ⟨s10, hx10⟩ := get_lt (l := names9) (i := k10) (by have : names9.length = 5 := rfl; omega)
  obtain ⟨b10, o10, cc10, ee10, hxc10⟩ := RdSl.get_ encS_len (by decide) hrow hx10
  simp only [Value.slice.injEq, Option.some.injEq, Addr.mk.injEq, and_true, true_and] at ee10
  obtain ⟨⟨rfl, rfl⟩, _, rfl⟩ := ee10
  refine St.opu rfl (rig_ix k10 rfl rfl rfl Try.underlying40 Try.sizeOf9 rfl rfl (by show k10 < 5; omega)) rfl (St.opu rfl (rig_load1 rfl rfl Try.isAgg9 hxc10.1) rfl ?_)
  refine St.od_b ?_ ?_
  rotate_left
  · rw [U_one m10x]
    refine St.os rfl (ex_alloc rfl (Dj_single m10x) Try.zeroValue37) rfl fun u mA ⟨p6, hu, hmA, hDA⟩ => ?_
    subst hu hmA
    obtain ⟨hCA, hDx⟩ := hC10.add hDA
    refine ⟨fun _ => U_le_tail hDA, hS.trans ((le_at 1 hDx rfl).trans hCA.le), ?_⟩
    refine St.os rfl (ex_call rfl rfl e7 (F7 mb p _ _ 12 hCA)) rfl fun v14 m14x ⟨k14, hv14, hk14, hC14⟩ => ⟨fun h => by simp at h, hS.trans ((le_at 1 hDx rfl).trans hC14.le), ?_⟩
    subst hv14
    refine St.opu rfl (rig_mul (c := ((8 * k14 : Nat) : Int)) rfl rfl rfl (by rw [show (8 : Int) * (k14 : Int) = ((8 * k14 : Nat) : Int) by omega]; exact w64 _ (by omega) (by omega))) rfl ?_
    refine St.opu rfl (rig_add (c := ((1 + 8 * k14 : Nat) : Int)) rfl rfl rfl (by rw [show (1 : Int) + ((8 * k14 : Nat) : Int) = ((1 + 8 * k14 : Nat) : Int) by omega]; exact w64 _ (by omega) (by omega))) rfl ?_
    refine St.opu rfl (rig_build (pl := #[(0, 1), (1, 1), (2, 1), (3, 1), (4, 1)]) (cs := (encC ⟨(1 + k1 : Nat), s5, s10, none, 0, 0, [], (1 + 8 * k14 : Nat)⟩).toArray) rfl rfl Try.underlying37 Try.zeroValue37 (fun w => by kernel_rfl) rfl) rfl ?_
    replace hDx : Dj [chgB p6 chg0, U [chgB p4 chg0, F1]] := hDx
    obtain ⟨c, hc, em, hdc⟩ := CodH.outL (L := [chgB p6 chg0, U [chgB p4 chg0, F1]]) hC14 hDx
    rw [em]
    refine St.os0 rfl (ex_store (i := 1) rfl hdc rfl rfl Try.sizeOf37 (encC_one _) rfl (by simp [Value.cells, encC])) fun u mZ ⟨_, hmZ, hdZ⟩ => ?_
    subst hmZ
    have hput : putR (encC chg0).toArray 0 (encC ⟨(1 + k1 : Nat), s5, s10, none, 0, 0, [], (1 + 8 * k14 : Nat)⟩) = (encC ⟨(1 + k1 : Nat), s5, s10, none, 0, 0, [], (1 + 8 * k14 : Nat)⟩).toArray := putR_all _ _ rfl
    replace hdZ : Dj [c, Go.Aw.one p6 (.cells (putR (encC chg0).toArray 0 (encC ⟨(1 + k1 : Nat), s5, s10, none, 0, 0, [], (1 + 8 * k14 : Nat)⟩)) 37 (0, 0)), U [chgB p4 chg0, F1]] := hdZ
    show _ ∧ _ ∧ St.AOrd _ _ _ _ _ _ _ _ (U [c, Go.Aw.one p6 (.cells (putR (encC chg0).toArray 0 (encC ⟨(1 + k1 : Nat), s5, s10, none, 0, 0, [], (1 + 8 * k14 : Nat)⟩)) 37 (0, 0)), U [chgB p4 chg0, F1]])
    rw [hput] at hdZ ⊢
    have hCZ : CodH mb p 52 (U [chgB p6 ⟨(1 + k1 : Nat), s5, s10, none, 0, 0, [], (1 + 8 * k14 : Nat)⟩, U [chgB p4 chg0, F1]]) _ := CodH.backL (L := [chgB p6 _, U [chgB p4 chg0, F1]]) hc hdZ (hmbB.trans (le_at 1 hdZ.2 rfl))
    refine ⟨fun h => by simp at h, hS.trans ((le_at 1 hdZ.2 rfl).trans hCZ.le), St.od_fin ?_⟩
    exact hgo _ _ p6 ⟨(1 + k1 : Nat), s5, s10, none, 0, 0, [], (1 + 8 * k14 : Nat)⟩ hdZ.2 hCZ (hsz _ (List.mem_of_getElem? hx5)) (hsz _ (List.mem_of_getElem? hx10)) rfl ⟨none, 0, 0, rfl, rfl, .inl rfl⟩ ⟨rfl, rfl, rfl, rfl, trivial⟩
  refine St.os rfl (ex_call rfl rfl e7 (F7 mb p _ _ 12 hC10)) rfl fun v14 m14x ⟨k14, hv14, hk14, hC14⟩ => ⟨fun h => by simp at h, hS.trans hC14.le, ?_⟩
  subst hv14
  refine St.opu rfl (rig_mul (c := ((8 * k14 : Nat) : Int)) rfl rfl rfl (by rw [show (8 : Int) * (k14 : Int) = ((8 * k14 : Nat) : Int) by omega]; exact w64 _ (by omega) (by omega))) rfl ?_
  refine St.opu rfl (rig_add (c := ((1 + 8 * k14 : Nat) : Int)) rfl rfl rfl (by rw [show (1 : Int) + ((8 * k14 : Nat) : Int) = ((1 + 8 * k14 : Nat) : Int) by omega]; exact w64 _ (by omega) (by omega))) rfl ?_
  refine St.opu rfl (rig_build (pl := #[(0, 1), (1, 1), (2, 1), (3, 1), (4, 1)]) (cs := (encC ⟨(1 + k1 : Nat), s5, s10, none, 0, 0, [], (1 + 8 * k14 : Nat)⟩).toArray) rfl rfl Try.underlying37 Try.zeroValue37 (fun w => by kernel_rfl) rfl) rfl ?_
  rw [U_one m14x]
  refine St.os rfl (ex_alloc rfl (Dj_single m14x) Try.zeroValue37) rfl fun u mA ⟨p6, hu, hmA, hDA⟩ => ?_
  subst hu hmA
  obtain ⟨hCA, hDx⟩ := hC14.add hDA
  refine ⟨fun _ => U_le_tail hDA, hS.trans ((le_at 1 hDx rfl).trans hCA.le), ?_⟩
  replace hDx : Dj [chgB p6 chg0, U [chgB p4 chg0, F1]] := hDx
  obtain ⟨c, hc, em, hdc⟩ := CodH.outL (L := [chgB p6 chg0, U [chgB p4 chg0, F1]]) hCA hDx
  rw [em]
  refine St.os0 rfl (ex_store (i := 1) rfl hdc rfl rfl Try.sizeOf37 (encC_one _) rfl (by simp [Value.cells, encC])) fun u mZ ⟨_, hmZ, hdZ⟩ => ?_
  subst hmZ
  have hput : putR (encC chg0).toArray 0 (encC ⟨(1 + k1 : Nat), s5, s10, none, 0, 0, [], (1 + 8 * k14 : Nat)⟩) = (encC ⟨(1 + k1 : Nat), s5, s10, none, 0, 0, [], (1 + 8 * k14 : Nat)⟩).toArray := putR_all _ _ rfl
  replace hdZ : Dj [c, Go.Aw.one p6 (.cells (putR (encC chg0).toArray 0 (encC ⟨(1 + k1 : Nat), s5, s10, none, 0, 0, [], (1 + 8 * k14 : Nat)⟩)) 37 (0, 0)), U [chgB p4 chg0, F1]] := hdZ
  show _ ∧ _ ∧ St.AOrd _ _ _ _ _ _ _ _ (U [c, Go.Aw.one p6 (.cells (putR (encC chg0).toArray 0 (encC ⟨(1 + k1 : Nat), s5, s10, none, 0, 0, [], (1 + 8 * k14 : Nat)⟩)) 37 (0, 0)), U [chgB p4 chg0, F1]])
  rw [hput] at hdZ ⊢
  have hCZ : CodH mb p 52 (U [chgB p6 ⟨(1 + k1 : Nat), s5, s10, none, 0, 0, [], (1 + 8 * k14 : Nat)⟩, U [chgB p4 chg0, F1]]) _ := CodH.backL (L := [chgB p6 _, U [chgB p4 chg0, F1]]) hc hdZ (hmbB.trans (le_at 1 hdZ.2 rfl))
  refine ⟨fun h => by simp at h, hS.trans ((le_at 1 hdZ.2 rfl).trans hCZ.le), St.od_fin ?_⟩
  exact hgo _ _ p6 ⟨(1 + k1 : Nat), s5, s10, none, 0, 0, [], (1 + 8 * k14 : Nat)⟩ hdZ.2 hCZ (hsz _ (List.mem_of_getElem? hx5)) (hsz _ (List.mem_of_getElem? hx10)) rfl ⟨none, 0, 0, rfl, rfl, .inl rfl⟩ ⟨rfl, rfl, rfl, rfl, trivial⟩
end Go.Proofs.Ytbonkkbpjlikjaa
