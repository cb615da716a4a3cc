/- The law TemplateCounts: its walk. -/
import Derived.Test.YtmofaabndjnhjaaFinding
import Derived.Test.YtmofaabndjnhjaaCompared
import Derived.Test.YtmofaabndjnhjaaOpened
set_option linter.unusedVariables false
namespace Go.Proofs.Ytmofaabndjnhjaa
open Go Go.Aw Go.Pl Go.RowKit
section
variable {P : Program} {r : Env} {m : Hp} {o : Oper} {T T' : TypeId} {x y : Operand}
theorem rig_bneq0 {b : Bool} (h : o.op = .binOp .neq T x y T') (hT : P.underlying T = some .bool) (ex : ev r x = some (.bool b)) (ey : ev r y = some (.bool b)) : Rig P o r m (.bool false) := by
  have := rig_bneq (m := m) h hT ex ey
  simpa using this
theorem rig_neq0 {k : IntKind} {z : Int} (h : o.op = .binOp .neq T x y T') (ex : ev r x = some (.int k z)) (ey : ev r y = some (.int k z)) : Rig P o r m (.bool false) := by
  have := rig_neq (P := P) (m := m) h ex ey
  simpa using this
end
/-- The heap has grown beside the generator. -/
theorem cod_grow {mb F m m' : Hp} {p : Nat} {T : TypeId} (h : CodH mb p T F m) (hl : HpLe m m') : ∃ F', HpLe F F' ∧ CodH mb p T F' m' ∧ ∀ y, HpLe y m' → (∀ k, y k ≠ none → m k = none) → HpLe y F' := by
  obtain ⟨c, hc, hD, rfl, hb⟩ := h
  obtain ⟨F', h1, h2, rfl⟩ := grow_to (cs := [c]) hD hl
  refine ⟨F', h1, ⟨c, hc, h2, rfl, hb.trans h1⟩, fun y hy hn k o hk => ?_⟩
  have h3 := hy k o hk
  have h4 := hn k (by rw [hk]; simp)
  simp only [U, Option.or_eq_none_iff] at h4
  change U [c, F'] k = some o at h3
  simp only [U, hp0, h4.1, Option.none_or, Option.or_none] at h3
  exact h3
theorem cod_grow2 {mb x F m m' : Hp} {p : Nat} {T : TypeId} (h : CodH mb p T (U [x, F]) m) (hD : Dj [x, F]) (hl : HpLe m m') : ∃ F', HpLe F F' ∧ Dj [x, F'] ∧ CodH mb p T (U [x, F']) m' ∧ ∀ y, HpLe y m' → (∀ k, y k ≠ none → m k = none) → HpLe y F' := by
  obtain ⟨c, hc, h1, rfl, hb⟩ := h
  have e : U [c, U [x, F]] = U ([c, x] ++ [F]) := U_flat [c] [x, F]
  have hD2 : Dj ([c, x] ++ [F]) := Dj_flat (A := [c]) h1 hD
  rw [e] at hl
  obtain ⟨F', hF, hD3, rfl⟩ := grow_last hD2 hl
  refine ⟨F', hF, Dj_tail (A := [c]) hD3, ⟨c, hc, Dj_unflat (A := [c]) hD3, (U_flat [c] [x, F']).symm, hb.trans (U_le2 hF)⟩, fun y hy hn k o hk => ?_⟩
  have h3 := hy k o hk
  have h4 := hn k (by rw [hk]; simp)
  rw [e] at h4
  change U [c, x, F] k = none at h4
  change U [c, x, F'] k = some o at h3
  simp only [U, Option.or_eq_none_iff] at h4
  simp only [U, hp0, h4.1, h4.2.1, Option.none_or, Option.or_none] at h3
  exact h3
/-- A piece that is new beside the heap. -/
theorem new_beside {y m : Hp} {L : List Hp} (hD : Dj (y :: L)) (hm : HpLe m (U L)) : ∀ k, y k ≠ none → m k = none := fun k hk => by
  have := hD.1 k hk
  cases h : m k with
  | none => rfl
  | some o => rw [hm k o h] at this; cases this
theorem fill2f : (fun (A B : ByteArray) => Instr.fill (fun i => some (i * 1, 1)) (Array.map (fun x => (Value.string ⟨#[]⟩).cells[x % (Value.string ⟨#[]⟩).cells.size]!) (Array.range (2 * 1))) [(0, Value.string A), (1, Value.string B)]) = fun A B => some #[Value.string A, Value.string B] := by kernel_rfl
theorem fill2 (A B : ByteArray) : Instr.fill (fun i => some (i * 1, 1)) (Array.map (fun x => (Value.string ⟨#[]⟩).cells[x % (Value.string ⟨#[]⟩).cells.size]!) (Array.range (2 * 1))) [(0, Value.string A), (1, Value.string B)] = some #[Value.string A, Value.string B] := congrFun (congrFun fill2f A) B
theorem fill3g : (fun (A B C : Option Addr) (n1 c1 n2 c2 n3 c3 : Nat) => Instr.fill (fun i => some (i * 1, 1)) (Array.map (fun x => (Value.slice none 0 0).cells[x % (Value.slice none 0 0).cells.size]!) (Array.range (3 * 1))) [(0, Value.slice A n1 c1), (1, Value.slice B n2 c2), (2, Value.slice C n3 c3)]) = fun A B C n1 c1 n2 c2 n3 c3 => some #[Value.slice A n1 c1, Value.slice B n2 c2, Value.slice C n3 c3] := by kernel_rfl
theorem fill3t (A B C : Option Addr) (n1 c1 n2 c2 n3 c3 : Nat) : Instr.fill (fun i => some (i * 1, 1)) (Array.map (fun x => (Value.slice none 0 0).cells[x % (Value.slice none 0 0).cells.size]!) (Array.range (3 * 1))) [(0, Value.slice A n1 c1), (1, Value.slice B n2 c2), (2, Value.slice C n3 c3)] = some #[Value.slice A n1 c1, Value.slice B n2 c2, Value.slice C n3 c3] :=
  congrFun (congrFun (congrFun (congrFun (congrFun (congrFun (congrFun (congrFun (congrFun fill3g A) B) C) n1) c1) n2) c2) n3) c3
theorem six_counts (k : Nat) (h : k < 6) : ∃ z : Int, #[Value.int .i64 1, .int .i64 2, .int .i64 3, .int .i64 0, .int .i64 (-1), .int .i64 9223372036854775807][0 + k * 1]? = some (.int .i64 z) ∧ z ≤ 9223372036854775807 := by
  match k, h with
  | 0, _ => exact ⟨1, rfl, by decide⟩
  | 1, _ => exact ⟨2, rfl, by decide⟩
  | 2, _ => exact ⟨3, rfl, by decide⟩
  | 3, _ => exact ⟨0, rfl, by decide⟩
  | 4, _ => exact ⟨-1, rfl, by decide⟩
  | 5, _ => exact ⟨9223372036854775807, rfl, by decide⟩
  | k + 6, h => omega
/-- What the elements keep. -/
def Elm (F : Hp) (t : Tm) : Prop := t.Ok F ∧ t.toks.length ≤ 70 ∧ t.cnt ≤ 9223372036854775807
theorem Elm.le {F F' : Hp} {t : Tm} (h : Elm F t) (hl : HpLe F F') : Elm F' t := ⟨h.1.le hl, h.2⟩
theorem keysO_len60 {out : List Tm} {q : List El} (h : keys out = ofQ q) : ∀ t ∈ out, t.toks.length ≤ 60 := fun t ht => by
  have h1 : t.key ∈ keys out := List.mem_map_of_mem ht
  rw [h] at h1
  exact (allQ_len ((srtE_perm _).mem_iff.1 h1)).2
theorem F31c (m : Hp) (a b : Tm) (ha : a.Ok m) (hb : b.Ok m) (hl : a.toks.length ≤ 1099511627776) : RC Try.prog 31 #[a.val, b.val] m (.bool (decide (cmpE a.key b.key < 0))) := by
  rw [← lessT_cmp]; exact F31 m a b ha hb hl
theorem e7 : Enters Try.prog 7 := enters_of Try.func7 (by kernel_rfl) rfl
set_option maxHeartbeats 8000000 in
set_option maxRecDepth 100000 in
theorem F7 (m : Hp) (A0 A1 : Option Addr) (c0 c1 : Nat) (raw : List Tm) (l1 : List UInt8) (s0 : ByteArray) (h0 : Tms m (.slice A0 raw.length c0) raw) (hr0 : ∀ t ∈ raw, t.Ok m ∧ t.cnt ≤ 9223372036854775807) (h1 : RdSl m encB 1 (.slice A1 l1.length c1) l1) (hc1 : l1.length ≤ c1) (hl1 : l1.length ≤ 1048576) (hs0 : s0.size ≤ 1048576) :
    RC Try.prog 7 #[.slice A0 raw.length c0, .slice A1 l1.length c1, .string s0] m (.bool true) := by
  refine rc_of_gc fun m1 hm => gc_intro (vs := [_, _, _]) Try.func7 rfl Try.ntmps7 (by simp) ?_
  refine awp_rs (ao_r (rig_assign rfl rfl) rfl (ao_nil ?_))
  refine awp_sk fun K1 hK1 => awp_rs ?_
  refine ao_r (rig_call (vs := []) rfl rfl e9 (F9 m1)) rfl (ao_r (rig_not rfl rfl) rfl (ao_nil ?_))
  refine awp_false rfl (awp_skip (hK1 _ _ (awp_sk fun K2 hK2 => awp_rs ?_)))
  refine ao_r (rig_move rfl rfl) rfl (ao_r (rig_lenSl rfl rfl Try.underlying29) rfl (ao_r (rig_gtr rfl rfl rfl) rfl (ao_nil ?_)))
  refine awp_if rfl (fun h => ?_) (fun h => ?_)
  · refine awp_rs (ao_r (rig_assign rfl rfl) rfl (ao_nil ?_))
    exact awp_ret ⟨_, res1 Try.results7 rfl, rfl, HpLe.refl _⟩
  have hrl : raw.length ≤ 20 := by omega
  refine awp_skip (hK2 _ _ (awp_sk fun K3 hK3 => awp_rs ?_))
  refine ao_r (rig_move rfl rfl) rfl (ao_r (rig_lenSl rfl rfl Try.underlying29) rfl (ao_r (rig_move rfl rfl) rfl (ao_nil ?_)))
  refine awp_block ?_
  refine awp_le [(0, .slice A0 raw.length c0), (1, .slice A1 l1.length c1), (2, .string s0), (30, .slice A0 raw.length c0), (31, .int .i64 raw.length), (32, .int .i64 (0 : Nat))] ⟨rfl, rfl, rfl, rfl, rfl, rfl, trivial⟩ ?_
  refine awp_loop (fun kk r mm => ∃ i : Nat, i ≤ raw.length ∧ kk = raw.length - i ∧ r = [(0, .slice A0 raw.length c0), (1, .slice A1 l1.length c1), (2, .string s0), (30, .slice A0 raw.length c0), (31, .int .i64 raw.length), (32, .int .i64 i)] ∧ HpLe m1 mm ∧ ∀ t ∈ raw.take i, t.toks.length ≤ 70) _ ⟨0, by omega, rfl, rfl, HpLe.refl _, by simp⟩ ?_
  rintro kk r mm ⟨i, hi, rfl, rfl, hle, h70⟩
  refine awp_rs (ao_r (rig_lss rfl rfl rfl) rfl (ao_nil ?_))
  refine awp_sk fun K4 hK4 => ?_
  refine awp_if rfl (fun h2 => ?_) (fun h2 => ?_)
  · have hil : i < raw.length := by omega
    obtain ⟨t, ht⟩ := get_lt hil
    have htm := List.mem_of_getElem? ht
    obtain ⟨bt, ot, ct, et, htc⟩ := Tms.get (RdSl.le h0 (hm.trans hle)) ht
    simp only [Value.slice.injEq] at et
    obtain ⟨rfl, _, rfl⟩ := et
    refine awp_skip (hK4 _ _ (awp_sk fun K5 hK5 => awp_block (awp_rs ?_)))
    refine ao_r (rig_ix i rfl rfl rfl Try.underlying29 Try.sizeOf33 rfl rfl hil) rfl (ao_r (rig_loadN (vs := encT t) rfl rfl Try.isAgg33 Try.sizeOf33 htc) rfl ?_)
    refine ao_var Try.zeroValue33 rfl rfl (fun t h => by cases h; rfl) Try.sizeOf33 rfl (encT_one t) fun b8 m8 hl8 hc8 => ao_nil ?_
    obtain ⟨t0, t1, _⟩ := id hc8
    have hn := (hr0 t htm).1.len
    refine awp_rs ?_
    refine ao_r (rig_fieldAddr rfl rfl Try.underlying33 rfl Try.sizeOf22 rfl) rfl (ao_r (rig_load1 rfl rfl Try.isAgg22 t0) rfl (ao_r (rig_lenSl rfl rfl Try.underlying22) rfl (ao_r (rig_gtr rfl rfl rfl) rfl (ao_nil ?_))))
    refine awp_if rfl (fun h3 => ?_) (fun h3 => ?_)
    · refine awp_rs (ao_r (rig_assign rfl rfl) rfl (ao_nil ?_))
      exact awp_ret ⟨_, res1 Try.results7 rfl, rfl, hle.trans hl8⟩
    · refine awp_skip (hK5 _ _ (awp_region ?_))
      refine ao_r (rig_add (c := ((i + 1 : Nat) : Int)) rfl rfl rfl (w64 _ (by omega) (by omega))) rfl (ao_r (rig_move rfl rfl) rfl (ao_nil ?_))
      refine ⟨[(0, .slice _ raw.length _), (1, .slice A1 l1.length c1), (2, .string s0), (30, .slice _ raw.length _), (31, .int .i64 raw.length), (32, .int .i64 (i + 1 : Nat))], _, ⟨rfl, rfl, rfl, rfl, rfl, rfl, trivial⟩, by omega, i + 1, by omega, rfl, rfl, hle.trans hl8, fun u hu => ?_⟩
      rw [take_succ_get ht] at hu
      rcases List.mem_append.1 hu with h4 | h4
      · exact h70 u h4
      · rw [List.mem_singleton.1 h4]; omega
  obtain rfl : i = raw.length := by omega
  rw [List.take_length] at h70
  have hma := hm.trans hle
  refine awp_exit (hK3 _ _ (awp_rs (ao_r (rig_move rfl rfl) rfl ?_)))
  refine ao_x (ex_call (vs := [_, _]) rfl rfl e10 (F10 mm A1 c1 l1 200 (RdSl.le h1 hma) hc1 (by omega) (by decide))) rfl fun u m2 ⟨p, hu, hC2⟩ => ?_
  subst hu
  refine ao_r (rig_assign rfl rfl) rfl (ao_nil (awp_rs (ao_r (rig_assign rfl rfl) rfl (ao_nil ?_))))
  refine awp_sk fun K6 hK6 => awp_rs (ao_r (rig_move rfl rfl) rfl ?_)
  refine ao_x (ex_call (vs := [_, _]) rfl rfl e11 (F11 mm p mm m2 14 (by decide) hC2)) rfl fun vl m3 ⟨ls, x, F', hll, hsz, hOx, hDx, hFx, hC3⟩ => ?_
  obtain ⟨Al, cl, rfl⟩ := hOx.len encS_len (by decide)
  refine ao_r (rig_lenSl rfl rfl Try.underlying22) rfl (ao_r (rig_move rfl rfl) rfl (ao_nil ?_))
  have hst3 : Strs (U [x, F']) (.slice Al ls.length cl) ls := RdSl.le hOx.rd (le_at 0 hDx rfl)
  have hm3 : HpLe mm (U [x, F']) := hFx.trans (le_at 1 hDx rfl)
  have hrw3 : Tms (U [x, F']) (.slice A0 raw.length c0) raw := RdSl.le h0 (hma.trans hm3)
  have hre3 : ∀ t ∈ raw, Elm (U [x, F']) t := fun t ht => ⟨(hr0 t ht).1.le (hma.trans hm3), h70 t ht, (hr0 t ht).2⟩
  generalize U [x, F'] = G at hC3 hst3 hrw3 hre3 hm3
  clear hOx hDx hFx hC2 hK1 hK2 hK3 hK4
  refine awp_block ?_
  refine awp_le [(0, .slice A0 raw.length c0), (2, .string s0), (9, .pointer (some ⟨p, 0, none⟩)), (10, .slice none 0 0), (44, .slice Al ls.length cl), (45, .int .i64 ls.length), (46, .int .i64 (0 : Nat))] ⟨rfl, rfl, rfl, rfl, rfl, rfl, rfl, trivial⟩ ?_
  refine awp_loop (fun kk r mq => ∃ (i : Nat) (v : Value) (l : List Tm) (c F : Hp), i ≤ ls.length ∧ kk = ls.length - i ∧ r = [(0, .slice A0 raw.length c0), (2, .string s0), (9, .pointer (some ⟨p, 0, none⟩)), (10, v), (44, .slice Al ls.length cl), (45, .int .i64 ls.length), (46, .int .i64 i)] ∧ CodH mm p 58 (U [c, F]) mq ∧ Dj [c, F] ∧ HpLe G F ∧ Own 33 2 c v (rows encT l) ∧ (∀ t ∈ l, Elm F t) ∧ l.length ≤ i) _
    ⟨0, _, [], hp0, G, by omega, rfl, rfl, by rw [U_hp0, U_single]; exact hC3, Dj_hp0 (Dj_single G), HpLe.refl _, Own.nil 33 2, by simp, by simp⟩ ?_
  clear hC3
  rintro kk r mq ⟨i, v, l, c, F, hi, rfl, rfl, hC, hD, hF, hO, hE, hli⟩
  refine awp_rs (ao_r (rig_lss rfl rfl rfl) rfl (ao_nil ?_))
  refine awp_sk fun K7 hK7 => ?_
  refine awp_if rfl (fun h3 => ?_) (fun h3 => ?_)
  · have hil : i < ls.length := by omega
    obtain ⟨s, hs⟩ := get_lt hil
    have hsm := List.mem_of_getElem? hs
    have hFq : HpLe F mq := (le_at 1 hD rfl).trans hC.le
    obtain ⟨bs, os_, cs, es, hsc⟩ := Strs.get (RdSl.le hst3 (hF.trans hFq)) hs
    simp only [Value.slice.injEq] at es
    obtain ⟨rfl, _, rfl⟩ := es
    refine awp_skip (hK7 _ _ (awp_sk fun K8 hK8 => awp_block (awp_rs ?_)))
    refine ao_r (rig_ix i rfl rfl rfl Try.underlying22 Try.sizeOf9 rfl rfl hil) rfl (ao_r (rig_load1 rfl rfl Try.isAgg9 hsc) rfl (ao_r (rig_assign rfl rfl) rfl (ao_nil ?_)))
    refine awp_rs (ao_r (rig_move rfl rfl) rfl ?_)
    refine ao_x (ex_call rfl rfl e18 (F18 mq s (Nat.le_trans (hsz s hsm) (by decide)))) rfl fun u1 m9 ⟨c9, F9', hD9, hm9, hR1⟩ => ?_
    have h9 : HpLe mq m9 := by rw [hm9]; exact le_at 2 hD9 rfl
    have hc9 : HpLe c9 m9 := by rw [hm9]; exact le_at 0 hD9 rfl
    have hb9 := new_beside hD9 (le_at 1 hD9.2 rfl)
    obtain ⟨F2, hF2, hD2, hC2, hy2⟩ := cod_grow2 hC hD h9
    have hc92 := hy2 c9 hc9 hb9
    clear hm9
    have hfin : ∀ (v' : Value) (l' : List Tm) (c' F3 : Hp) (m' : Hp), CodH mm p 58 (U [c', F3]) m' → Dj [c', F3] → HpLe F F3 → Own 33 2 c' v' (rows encT l') → (∀ t ∈ l', Elm F3 t) → l'.length ≤ i + 1 → ∀ r', EnvLe [(0, .slice A0 raw.length c0), (2, .string s0), (9, .pointer (some ⟨p, 0, none⟩)), (10, v'), (44, .slice (some ⟨bs, os_, none⟩) ls.length cl), (45, .int .i64 ls.length), (46, .int .i64 i)] r' → K8 r' m' := fun v' l' c' F3 m' hC' hD' hF' hO' hE' hl' r' hr => by
      refine hK8 _ _ (awp_le _ hr (awp_region ?_))
      refine ao_r (rig_add (c := ((i + 1 : Nat) : Int)) rfl rfl rfl (w64 _ (by omega) (by omega))) rfl (ao_r (rig_move rfl rfl) rfl (ao_nil ?_))
      exact ⟨[(0, .slice A0 raw.length c0), (2, .string s0), (9, .pointer (some ⟨p, 0, none⟩)), (10, v'), (44, .slice (some ⟨bs, os_, none⟩) ls.length cl), (45, .int .i64 ls.length), (46, .int .i64 (i + 1 : Nat))], _, ⟨rfl, rfl, rfl, rfl, rfl, rfl, rfl, trivial⟩, by omega, i + 1, v', l', c', F3, by omega, rfl, rfl, hC', hD', hF.trans hF', hO', hE', hl'⟩
    rcases hR1 with ⟨hno, rfl⟩ | ⟨ts, v1, hts, rfl, hOt⟩
    · refine ao_r (rig_move rfl rfl) rfl (ao_r (rig_extract rfl rfl rfl) rfl (ao_r (rig_extract rfl rfl rfl) rfl (ao_r (rig_assign rfl rfl) rfl (ao_r (rig_assign rfl rfl) rfl (ao_nil ?_)))))
      refine awp_rs (ao_r (rig_move rfl rfl) rfl (ao_nil ?_))
      exact awp_false rfl (awp_skip (hfin v l c F2 m9 hC2 hD2 hF2 hO (fun t ht => (hE t ht).le hF2) (by omega) _ ⟨rfl, rfl, rfl, rfl, rfl, rfl, rfl, trivial⟩))
    · refine ao_r (rig_move rfl rfl) rfl (ao_r (rig_extract rfl rfl rfl) rfl (ao_r (rig_extract rfl rfl rfl) rfl (ao_r (rig_assign rfl rfl) rfl (ao_r (rig_assign rfl rfl) rfl (ao_nil ?_)))))
      refine awp_rs (ao_r (rig_move rfl rfl) rfl (ao_nil ?_))
      obtain ⟨A2, cap2, rfl⟩ := hOt.len encS_len (by decide)
      have htl := (toksOf_len hts).2
      refine awp_true rfl (awp_u (awp_region ?_))
      refine ao_r (rig_move rfl rfl) rfl (ao_r (rig_move rfl rfl) rfl ?_)
      refine ao_x (ex_buildSlice (cs := #[.int .i64 1, .int .i64 2, .int .i64 3, .int .i64 0, .int .i64 (-1), .int .i64 9223372036854775807]) rfl (Dj_single m9) rfl Try.underlying49 Try.sizeOf3 Try.zeroValue3 (by decide) (by decide) (by kernel_rfl)) rfl fun u m10 ⟨b5, hu5, hm10, hD10⟩ => ?_
      subst hu5
      have h10 : HpLe m9 m10 := by rw [hm10]; exact le_at 1 hD10 rfl
      have hb10 := new_beside hD10 (le_at 0 hD10.2 rfl)
      have hc10 : HpLe (Go.Aw.one b5 (.cells #[.int .i64 1, .int .i64 2, .int .i64 3, .int .i64 0, .int .i64 (-1), .int .i64 9223372036854775807] 3 (0, 0))) m10 := by rw [hm10]; exact le_at 0 hD10 rfl
      obtain ⟨F3, hF3, hD3, hC3, hy3⟩ := cod_grow2 hC2 hD2 h10
      have hc103 := hy3 _ hc10 hb10
      clear hm10
      refine ao_r (rig_move rfl rfl) rfl ?_
      refine ao_x (ex_call (vs := [_, _]) rfl rfl e20 (F20 mm p (U [c, F3]) m10 6 hC3)) rfl fun u m11 ⟨k, hu, hk, hC4⟩ => ?_
      subst hu
      have hk6 : k < 6 := by omega
      obtain ⟨z, hz, hzm⟩ := six_counts k hk6
      have hz2 : cell m11 b5 (0 + k * 1) = some (.int .i64 z) := cell_le (hc103.trans ((le_at 1 hD3 rfl).trans hC4.le)) (Go.Aw.one_cell b5 _ 3 _ _ hz)
      refine ao_r (rig_ix k rfl rfl rfl Try.underlying49 Try.sizeOf3 rfl rfl hk6) rfl (ao_r (rig_load1 rfl rfl Try.isAgg3 hz2) rfl ?_)
      refine ao_r (rig_build (pl := #[(0, 1), (1, 1)]) (cs := #[.slice A2 ts.length cap2, .int .i64 z]) rfl rfl Try.underlying33 Try.zeroValue33 (fun w => by kernel_rfl) rfl) rfl ?_
      have e11 : m11 = U [m11] := (U_single m11).symm
      rw [e11]
      refine ao_x (ex_buildSlice rfl (Dj_single m11) rfl Try.underlying29 Try.sizeOf33 Try.zeroValue33 (by decide) (by decide) (fill_one rfl (rangeMap_size _ _))) rfl fun u m12 ⟨b4, hu4, hm12, hD12⟩ => ?_
      subst hu4
      have h12 : HpLe m11 m12 := by rw [hm12]; exact le_at 1 hD12 rfl
      have hb12 := new_beside hD12 (le_at 0 hD12.2 rfl)
      have hc12 : HpLe (Go.Aw.one b4 (.cells #[.slice A2 ts.length cap2, .int .i64 z] 33 (0, 0))) m12 := by rw [hm12]; exact le_at 0 hD12 rfl
      obtain ⟨F5, hF5, hD5, hC5, hy5⟩ := cod_grow2 hC4 hD3 h12
      have hc125 := hy5 _ hc12 hb12
      clear hm12
      obtain ⟨cc, hcc, rfl, hDc⟩ := CodH.out hC5 hD5
      have hmF5 : HpLe mm F5 := hm3.trans (hF.trans (hF2.trans (hF3.trans hF5)))
      have hsrc : Go.Aw.Src (U [cc, c, F5]) 2 (.slice (some ⟨b4, 0, none⟩) 1 1) (rows encT [⟨A2, ts.length, cap2, ts, z⟩]) := src_one encT_len ((cellsAt_one b4 #[.slice A2 ts.length cap2, .int .i64 z] 33).le (hc125.trans (le_at 2 hDc rfl)))
      refine ao_x (ex_append 1 (by_ := 32) rfl hDc rfl rfl Try.underlying29 inf33 rfl (by decide) (by decide) hO rfl hsrc (one_rows encT_one _) (by rw [rows_length encT_len, rows_length encT_len]; simp; omega)) rfl fun u5 m13 ⟨c5, hO5, hm13, hD13⟩ => ?_
      subst hm13
      rw [← rows_append] at hO5
      refine ao_r (rig_assign rfl rfl) rfl (ao_nil ?_)
      obtain ⟨hC6, hD6⟩ := CodH.back hcc hD13 hmF5
      refine hfin u5 (l ++ [⟨A2, ts.length, cap2, ts, z⟩]) c5 F5 _ hC6 hD6 (hF2.trans (hF3.trans hF5)) hO5 (fun t ht => ?_) (by simp; omega) _ ⟨rfl, rfl, rfl, rfl, rfl, rfl, rfl, trivial⟩
      rcases List.mem_append.1 ht with h | h
      · exact (hE t h).le (hF2.trans (hF3.trans hF5))
      · rw [List.mem_singleton.1 h]
        exact ⟨RdSl.le hOt.rd (hc92.trans (hF3.trans hF5)), by show ts.length ≤ 70; omega, hzm⟩
  obtain rfl : i = ls.length := by omega
  refine awp_exit (hK6 _ _ (awp_u (awp_sk fun K9 hK9 => awp_rs ?_)))
  obtain ⟨Av, cv, rfl⟩ := hO.len encT_len (by decide)
  have hGU : HpLe F mq := (le_at 1 hD rfl).trans hC.le
  have hvl : Tms (U [c, F]) (.slice Av l.length cv) l := RdSl.le hO.rd (le_at 0 hD rfl)
  have hEU : ∀ t ∈ l, Elm (U [c, F]) t := fun t ht => (hE t ht).le (le_at 1 hD rfl)
  have hrwU : Tms (U [c, F]) (.slice A0 raw.length c0) raw := RdSl.le hrw3 (hF.trans (le_at 1 hD rfl))
  have hreU : ∀ t ∈ raw, Elm (U [c, F]) t := fun t ht => (hre3 t ht).le (hF.trans (le_at 1 hD rfl))
  have hmU : HpLe mm (U [c, F]) := hm3.trans (hF.trans (le_at 1 hD rfl))
  generalize U [c, F] = J at hC hvl hEU hrwU hreU hmU
  clear hO hE hD hrw3 hre3 hst3 hF hm3
  have hqU : HpLe mq (U [mq]) := by rw [U_single]; exact HpLe.refl _
  refine ao_r (rig_move rfl rfl) rfl (ao_r (rig_move rfl rfl) rfl (ao_r (rig_move rfl rfl) rfl ?_))
  refine ao_x (ex_appendNil (by_ := 32) rfl (Dj_single mq) rfl rfl Try.underlying29 inf33 rfl (by decide) (by decide) (Go.Aw.Src.le hvl (hC.le.trans hqU)) (one_rows encT_one _) (by rw [rows_length encT_len]; omega)) rfl fun v4 m4 ⟨y, hOy, hm4, hDy⟩ => ?_
  subst hm4
  refine ao_r (rig_move rfl rfl) rfl ?_
  refine ao_x (ex_append 0 (by_ := 32) rfl hDy rfl rfl Try.underlying29 inf33 rfl (by decide) (by decide) hOy rfl (Go.Aw.Src.le hrwU (hC.le.trans (le_at 1 hDy rfl))) (one_rows encT_one _) (by rw [rows_length encT_len, rows_length encT_len]; omega)) rfl fun v5 m5 ⟨z, hOz, hm5, hDz⟩ => ?_
  subst hm5
  rw [← rows_append] at hOz
  obtain ⟨Az, cz, rfl⟩ := hOz.len encT_len (by decide)
  refine ao_x (ex_buildSlice (cs := #[.slice A0 raw.length c0, .slice Av l.length cv, .slice Az (l ++ raw).length cz]) rfl hDz rfl Try.underlying50 Try.sizeOf29 Try.zeroValue29 (by decide) (by decide) (fill3t ..)) rfl fun u m6 ⟨b, hu, hm6, hD6⟩ => ?_
  subst hu
  have hq6 : HpLe mq m6 := by rw [hm6]; exact le_at 2 hD6 rfl
  have hz6 : HpLe z m6 := by rw [hm6]; exact le_at 1 hD6 rfl
  have ho6 : HpLe (Go.Aw.one b (.cells #[.slice A0 raw.length c0, .slice Av l.length cv, .slice Az (l ++ raw).length cz] 29 (0, 0))) m6 := by rw [hm6]; exact le_at 0 hD6 rfl
  clear hm6
  obtain ⟨J6, hJ6, hC6, hy6⟩ := cod_grow hC hq6
  have hz7 := hy6 z hz6 (new_beside hD6.2 (le_at 0 hD6.2.2 rfl))
  have ho7 := hy6 _ ho6 (new_beside hD6 (le_at 1 hD6.2 rfl))
  refine ao_r (rig_lenSl rfl rfl Try.underlying50) rfl (ao_r (rig_move rfl rfl) rfl (ao_nil ?_))
  have hsel : ∀ j, j < 3 → ∃ v xs, cell J6 b (0 + j * 1) = some v ∧ Tms J6 v xs ∧ (∀ t ∈ xs, Elm J6 t) ∧ xs.length ≤ 34 := fun j hj => by
    match j, hj with
    | 0, _ => exact ⟨_, raw, cell_le ho7 (Go.Aw.one_cell b _ 29 _ _ rfl), RdSl.le hrwU hJ6, fun t ht => (hreU t ht).le hJ6, by omega⟩
    | 1, _ => exact ⟨_, l, cell_le ho7 (Go.Aw.one_cell b _ 29 _ _ rfl), RdSl.le hvl hJ6, fun t ht => (hEU t ht).le hJ6, by omega⟩
    | 2, _ => exact ⟨_, l ++ raw, cell_le ho7 (Go.Aw.one_cell b _ 29 _ _ rfl), RdSl.le hOz.rd hz7, fun t ht => by
        rcases List.mem_append.1 ht with h | h
        · exact (hEU t h).le hJ6
        · exact (hreU t h).le hJ6, by rw [List.length_append]; omega⟩
    | j + 3, h => omega
  have hmJ6 : HpLe mm J6 := hmU.trans hJ6
  clear hvl hEU hrwU hreU hmU hC hOz hz7 ho7 hq6 hz6 ho6 hGU
  refine awp_block ?_
  refine awp_le [(2, .string s0), (9, .pointer (some ⟨p, 0, none⟩)), (73, .slice (some ⟨b, 0, none⟩) 3 3), (74, .int .i64 (3 : Nat)), (75, .int .i64 (0 : Nat))] ⟨rfl, rfl, rfl, rfl, rfl, trivial⟩ ?_
  refine awp_loop (fun kk r mz => ∃ (j : Nat) (J : Hp), j ≤ 3 ∧ kk = 3 - j ∧ r = [(2, .string s0), (9, .pointer (some ⟨p, 0, none⟩)), (73, .slice (some ⟨b, 0, none⟩) 3 3), (74, .int .i64 (3 : Nat)), (75, .int .i64 j)] ∧ HpLe J6 J ∧ CodH mm p 58 J mz) _ ⟨0, J6, by omega, rfl, rfl, HpLe.refl _, hC6⟩ ?_
  clear hC6
  rintro kk r mz ⟨j, J, hj, rfl, rfl, hJ, hC⟩
  refine awp_rs (ao_r (rig_lss rfl rfl rfl) rfl (ao_nil ?_))
  refine awp_sk fun K10 hK10 => ?_
  refine awp_if rfl (fun h4 => ?_) (fun h4 => ?_)
  · refine awp_skip (hK10 _ _ (awp_sk fun K11 hK11 => awp_block (awp_rs ?_)))
    obtain ⟨v, xs, hcv, hxs, hxe, hxl⟩ := hsel j (by omega)
    obtain ⟨Ax, cx, rfl, _⟩ := RdSl.form encT_len (by decide) hxs
    have hJz : HpLe J6 mz := hJ.trans hC.le
    refine ao_r (rig_ix j rfl rfl rfl Try.underlying50 Try.sizeOf29 rfl rfl (by omega)) rfl (ao_r (rig_load1 rfl rfl Try.isAgg29 (cell_le hJz hcv)) rfl (ao_r (rig_assign rfl rfl) rfl (ao_nil ?_)))
    refine awp_rs (ao_r (rig_move rfl rfl) rfl ?_)
    refine ao_x (ex_call rfl rfl e21 (F21 mz _ xs (RdSl.le hxs hJz) (fun t ht => (hxe t ht).1.le hJz) (fun t ht => (hxe t ht).2.2) (by omega))) rfl fun va m7 ⟨o1, q1, G1, hO1, hm7, hD7, hG1, hT1, hk1, hn1⟩ => ?_
    have h7 : HpLe mz m7 := by rw [hm7]; exact hG1.trans (le_at 1 hD7 rfl)
    have hv1 : Tms m7 va o1 := by rw [hm7]; exact RdSl.le hO1.rd (le_at 0 hD7 rfl)
    have hT7 : ∀ t ∈ o1, t.Ok m7 := fun t ht => by rw [hm7]; exact (hT1 t ht).le (le_at 1 hD7 rfl)
    clear hm7
    refine ao_r (rig_assign rfl rfl) rfl (ao_nil ?_)
    refine awp_sk fun K12 hK12 => awp_rs ?_
    refine ao_r (rig_move rfl rfl) rfl (ao_r (rig_move rfl rfl) rfl ?_)
    have hJ7 := hJz.trans h7
    refine ao_x (ex_call rfl rfl e29 (F29 m7 _ xs (RdSl.le hxs hJ7) (fun t ht => (hxe t ht).1.le hJ7) (fun t ht => (hxe t ht).2.2) (by omega))) rfl fun vb m8 ⟨o2, h8, hv2, hT2, hk2, hn2⟩ => ?_
    have h14 := F14 m8 va vb o1 o2 (RdSl.le hv1 h8) hv2 (fun t ht => (hT7 t ht).le h8) hT2 (by omega) (fun t ht => Nat.le_trans (keysO_len60 hk1 t ht) (by decide))
    rw [decide_eq_true (show keys o1 = keys o2 by rw [hk1, hk2])] at h14
    refine ao_r (rig_call rfl rfl e14 h14) rfl (ao_r (rig_not rfl rfl) rfl (ao_nil ?_))
    obtain ⟨J2, hJ2, hC2, _⟩ := cod_grow hC (h7.trans h8)
    clear hC hv1 hT7 h14 hv2 hT2 hk1 hk2 hJz hJ7
    have hJ8 : HpLe J6 J2 := hJ.trans hJ2
    have hJm8 : HpLe J6 m8 := hJ8.trans hC2.le
    refine awp_false rfl (awp_skip (hK12 _ _ (awp_sk fun K13 hK13 => awp_rs (ao_r (rig_assign rfl rfl) rfl (ao_nil ?_)))))
    refine awp_block ?_
    refine awp_le [(2, .string s0), (9, .pointer (some ⟨p, 0, none⟩)), (16, .slice Ax xs.length cx), (18, .int .i64 (1 : Nat)), (73, .slice (some ⟨b, 0, none⟩) 3 3), (74, .int .i64 (3 : Nat)), (75, .int .i64 j)] ⟨rfl, rfl, rfl, rfl, rfl, rfl, rfl, trivial⟩ ?_
    refine awp_loop (fun kk r mq => ∃ (i : Nat), 1 ≤ i ∧ i ≤ xs.length + 1 ∧ kk = xs.length + 1 - i ∧ r = [(2, .string s0), (9, .pointer (some ⟨p, 0, none⟩)), (16, .slice Ax xs.length cx), (18, .int .i64 i), (73, .slice (some ⟨b, 0, none⟩) 3 3), (74, .int .i64 (3 : Nat)), (75, .int .i64 j)] ∧ mq = m8) _ ⟨1, by omega, by omega, rfl, rfl, rfl⟩ ?_
    rintro kk r mq ⟨i, hi1, hi2, rfl, rfl, rfl⟩
    refine awp_sk fun K14 hK14 => awp_rs ?_
    refine ao_r (rig_move rfl rfl) rfl (ao_r (rig_move rfl rfl) rfl (ao_r (rig_lenSl rfl rfl Try.underlying29) rfl (ao_r (rig_lss rfl rfl rfl) rfl (ao_nil ?_))))
    refine awp_if rfl (fun h5 => ?_) (fun h5 => ?_)
    · have hil : i < xs.length := by omega
      have hil0 : i - 1 < xs.length := by omega
      obtain ⟨t, ht⟩ := get_lt hil
      obtain ⟨t', ht'⟩ := get_lt hil0
      obtain ⟨bt, ot, ct, et, htc⟩ := Tms.get (RdSl.le hxs hJm8) ht
      obtain ⟨bt', ot', ct', et', htc'⟩ := Tms.get (RdSl.le hxs hJm8) ht'
      simp only [Value.slice.injEq] at et et'
      obtain ⟨rfl, _, rfl⟩ := et
      obtain ⟨et', _, rfl⟩ := et'
      simp only [Option.some.injEq, Addr.mk.injEq] at et'
      obtain ⟨rfl, rfl, _⟩ := et'
      have hEt := (hxe t (List.mem_of_getElem? ht)).le hJm8
      have hEt' := (hxe t' (List.mem_of_getElem? ht')).le hJm8
      have l30 := F30 mq t' t hEt'.1 hEt.1 (by have := hEt'.2.1; omega)
      have l31 := F31c mq t' t hEt'.1 hEt.1 (by have := hEt'.2.1; omega)
      have r30 := F30 mq t t' hEt.1 hEt'.1 (by have := hEt.2.1; omega)
      have r31 := F31c mq t t' hEt.1 hEt'.1 (by have := hEt.2.1; omega)
      refine awp_skip (hK14 _ _ (awp_sk fun K15 hK15 => awp_block ?_))
      refine awp_ds (.q 0 (.q 1 (.q 2 (.q 3 (.q 4 (.q 5 (.q 6 (.q 7 (.q 8 (.q 9 (.q 10 (.q 11 (.q 12 (.q 13 (.q 14 (.q 15 (.q 16 (.q 17 (.q 18 (.q 19 (.q 20 (.q 21 (.q 22 (.q 23 (.q 24 (.q 25 (.q 26 (.q 27 (.q 28 (.q 29 (.q 30 (.q 31 (.q 32 (.q 33 (.q 34 (.q 35 (.q 36 (.q 37 (.q 38 (.q 39 (.q 40 (.q 41 (.q 42 (.q 43 .fin)))))))))))))))))))))))))))))))))))))))))))) [] (by kernel_rfl) (by kernel_rfl) ?_
      refine oq rfl (rig_move rfl rfl) rfl (oq rfl (rig_move rfl rfl) rfl (oq rfl (rig_sub (c := ((i - 1 : Nat) : Int)) rfl rfl rfl (by rw [w64 _ (by omega) (by omega)]; omega)) rfl (oq rfl (rig_ix (i - 1) rfl rfl rfl Try.underlying29 Try.sizeOf33 rfl rfl hil0) rfl (oq rfl (rig_loadN (vs := encT t') rfl rfl Try.isAgg33 Try.sizeOf33 htc') rfl ?_))))
      refine oq rfl (rig_move rfl rfl) rfl (oq rfl (rig_move rfl rfl) rfl (oq rfl (rig_ix i rfl rfl rfl Try.underlying29 Try.sizeOf33 rfl rfl hil) rfl (oq rfl (rig_loadN (vs := encT t) rfl rfl Try.isAgg33 Try.sizeOf33 htc) rfl (oq rfl (rig_call rfl rfl e30 l30) rfl ?_))))
      refine oq rfl (rig_move rfl rfl) rfl (oq rfl (rig_move rfl rfl) rfl (oq rfl (rig_sub (c := ((i - 1 : Nat) : Int)) rfl rfl rfl (by rw [w64 _ (by omega) (by omega)]; omega)) rfl (oq rfl (rig_ix (i - 1) rfl rfl rfl Try.underlying29 Try.sizeOf33 rfl rfl hil0) rfl (oq rfl (rig_loadN (vs := encT t') rfl rfl Try.isAgg33 Try.sizeOf33 htc') rfl ?_))))
      refine oq rfl (rig_move rfl rfl) rfl (oq rfl (rig_move rfl rfl) rfl (oq rfl (rig_ix i rfl rfl rfl Try.underlying29 Try.sizeOf33 rfl rfl hil) rfl (oq rfl (rig_loadN (vs := encT t) rfl rfl Try.isAgg33 Try.sizeOf33 htc) rfl (oq rfl (rig_call rfl rfl e31 l31) rfl ?_))))
      refine oq rfl (rig_bneq0 rfl Try.underlying4 rfl rfl) rfl (oq rfl (rig_move rfl rfl) rfl ?_)
      refine oqon rfl rfl rfl (rig_move rfl rfl) rfl ?_
      refine oqon rfl rfl rfl (rig_move rfl rfl) rfl ?_
      refine oqon rfl rfl rfl (rig_ix i rfl rfl rfl Try.underlying29 Try.sizeOf33 rfl rfl hil) rfl ?_
      refine oqon rfl rfl rfl (rig_loadN (vs := encT t) rfl rfl Try.isAgg33 Try.sizeOf33 htc) rfl ?_
      refine oqon rfl rfl rfl (rig_move rfl rfl) rfl ?_
      refine oqon rfl rfl rfl (rig_move rfl rfl) rfl ?_
      refine oqon rfl rfl rfl (rig_sub (c := ((i - 1 : Nat) : Int)) rfl rfl rfl (by rw [w64 _ (by omega) (by omega)]; omega)) rfl ?_
      refine oqon rfl rfl rfl (rig_ix (i - 1) rfl rfl rfl Try.underlying29 Try.sizeOf33 rfl rfl hil0) rfl ?_
      refine oqon rfl rfl rfl (rig_loadN (vs := encT t') rfl rfl Try.isAgg33 Try.sizeOf33 htc') rfl ?_
      refine oqon rfl rfl rfl (rig_call rfl rfl e30 r30) rfl ?_
      refine oqon rfl rfl rfl (rig_move rfl rfl) rfl ?_
      refine oqon rfl rfl rfl (rig_move rfl rfl) rfl ?_
      refine oqon rfl rfl rfl (rig_ix i rfl rfl rfl Try.underlying29 Try.sizeOf33 rfl rfl hil) rfl ?_
      refine oqon rfl rfl rfl (rig_loadN (vs := encT t) rfl rfl Try.isAgg33 Try.sizeOf33 htc) rfl ?_
      refine oqon rfl rfl rfl (rig_move rfl rfl) rfl ?_
      refine oqon rfl rfl rfl (rig_move rfl rfl) rfl ?_
      refine oqon rfl rfl rfl (rig_sub (c := ((i - 1 : Nat) : Int)) rfl rfl rfl (by rw [w64 _ (by omega) (by omega)]; omega)) rfl ?_
      refine oqon rfl rfl rfl (rig_ix (i - 1) rfl rfl rfl Try.underlying29 Try.sizeOf33 rfl rfl hil0) rfl ?_
      refine oqon rfl rfl rfl (rig_loadN (vs := encT t') rfl rfl Try.isAgg33 Try.sizeOf33 htc') rfl ?_
      refine oqon rfl rfl rfl (rig_call rfl rfl e31 r31) rfl ?_
      refine oqon rfl rfl rfl (rig_bneq0 rfl Try.underlying4 rfl rfl) rfl ?_
      refine oq rfl (rig_pickF rfl rfl rfl) rfl (od_fin ?_)
      refine awp_false rfl (awp_skip (hK15 _ _ (awp_region ?_)))
      refine ao_r (rig_move rfl rfl) rfl (ao_r (rig_add (c := ((i + 1 : Nat) : Int)) rfl rfl rfl (w64 _ (by omega) (by omega))) rfl (ao_r (rig_assign rfl rfl) rfl (ao_nil ?_)))
      exact ⟨[(2, .string s0), (9, .pointer (some ⟨p, 0, none⟩)), (16, .slice _ xs.length _), (18, .int .i64 (i + 1 : Nat)), (73, .slice (some ⟨b, 0, none⟩) 3 3), (74, .int .i64 (3 : Nat)), (75, .int .i64 j)], _, ⟨rfl, rfl, rfl, rfl, rfl, rfl, rfl, trivial⟩, by omega, i + 1, by omega, by omega, rfl, rfl, rfl⟩
    · refine awp_exit (hK13 _ _ (awp_rs ?_))
      refine ao_r (rig_move rfl rfl) rfl (ao_r (rig_move rfl rfl) rfl ?_)
      refine ao_x (ex_call rfl rfl e32 (F32 mm p J2 mq hC2)) rfl fun u m10 ⟨sl, hu, hsl, J3, hJ3, hC3⟩ => ?_
      subst hu
      have e10 : m10 = U [m10] := (U_single m10).symm
      rw [e10]
      refine ao_x (ex_buildSlice (cs := #[.string s0, .string sl]) rfl (Dj_single m10) rfl Try.underlying22 Try.sizeOf9 Try.zeroValue9 (by decide) (by decide) (fill2 ..)) rfl fun u m11 ⟨b9, hu9, hm11, hD11⟩ => ?_
      subst hu9
      have h11 : HpLe m10 m11 := by rw [hm11]; exact le_at 1 hD11 rfl
      have hc11 : HpLe (Go.Aw.one b9 (.cells #[.string s0, .string sl] 9 (0, 0))) m11 := by rw [hm11]; exact le_at 0 hD11 rfl
      clear hm11
      obtain ⟨J4, hJ4, hC4, _⟩ := cod_grow hC3 h11
      have hJ12 : HpLe J6 J4 := hJ8.trans (hJ3.trans hJ4)
      have hJm : HpLe J6 m11 := hJ12.trans hC4.le
      have hsel2 : ∀ i, i < 2 → ∃ s : ByteArray, cell m11 b9 (0 + i * 1) = some (.string s) ∧ s.size ≤ 16777216 := fun i hi => by
        match i, hi with
        | 0, _ => exact ⟨s0, cell_le hc11 (Go.Aw.one_cell b9 _ 9 _ _ rfl), by omega⟩
        | 1, _ => exact ⟨sl, cell_le hc11 (Go.Aw.one_cell b9 _ 9 _ _ rfl), by omega⟩
        | i + 2, h => omega
      refine ao_r (rig_lenSl rfl rfl Try.underlying22) rfl (ao_r (rig_move rfl rfl) rfl (ao_nil ?_))
      refine awp_block ?_
      refine awp_le [(2, .string s0), (9, .pointer (some ⟨p, 0, none⟩)), (16, .slice Ax xs.length cx), (73, .slice (some ⟨b, 0, none⟩) 3 3), (74, .int .i64 (3 : Nat)), (75, .int .i64 j), (139, .slice (some ⟨b9, 0, none⟩) 2 2), (140, .int .i64 (2 : Nat)), (141, .int .i64 (0 : Nat))] ⟨rfl, rfl, rfl, rfl, rfl, rfl, rfl, rfl, rfl, trivial⟩ ?_
      refine awp_loop (fun kk r mq => ∃ (i : Nat), i ≤ 2 ∧ kk = 2 - i ∧ r = [(2, .string s0), (9, .pointer (some ⟨p, 0, none⟩)), (16, .slice Ax xs.length cx), (73, .slice (some ⟨b, 0, none⟩) 3 3), (74, .int .i64 (3 : Nat)), (75, .int .i64 j), (139, .slice (some ⟨b9, 0, none⟩) 2 2), (140, .int .i64 (2 : Nat)), (141, .int .i64 i)] ∧ mq = m11) _ ⟨0, by omega, rfl, rfl, rfl⟩ ?_
      clear hi1 hi2 h5
      rintro kk r mq ⟨i, hi, rfl, rfl, rfl⟩
      refine awp_rs (ao_r (rig_lss rfl rfl rfl) rfl (ao_nil ?_))
      refine awp_sk fun K16 hK16 => ?_
      refine awp_if rfl (fun h5 => ?_) (fun h5 => ?_)
      · obtain ⟨s, hcs, hss⟩ := hsel2 i (by omega)
        have h33 := F33 mq (.slice Ax xs.length cx) xs s (RdSl.le hxs hJm) (fun t ht => (hxe t ht).1.le hJm) (by omega) (fun t ht => by have := (hxe t ht).2.1; omega) hss
        have h34 := F34 mq (.slice Ax xs.length cx) xs s (RdSl.le hxs hJm) (fun t ht => (hxe t ht).1.le hJm) (by omega) (fun t ht => by have := (hxe t ht).2.1; omega) hss
        refine awp_skip (hK16 _ _ (awp_sk fun K17 hK17 => awp_block (awp_rs ?_)))
        refine ao_r (rig_ix i rfl rfl rfl Try.underlying22 Try.sizeOf9 rfl rfl (by omega)) rfl (ao_r (rig_load1 rfl rfl Try.isAgg9 hcs) rfl (ao_r (rig_assign rfl rfl) rfl (ao_nil ?_)))
        refine awp_rs ?_
        refine ao_r (rig_move rfl rfl) rfl (ao_r (rig_move rfl rfl) rfl (ao_r (rig_call rfl rfl e33 h33) rfl (ao_r (rig_move rfl rfl) rfl (ao_r (rig_extract rfl rfl rfl) rfl (ao_r (rig_extract rfl rfl rfl) rfl (ao_r (rig_assign rfl rfl) rfl (ao_r (rig_assign rfl rfl) rfl (ao_nil ?_))))))))
        refine awp_rs ?_
        refine ao_r (rig_move rfl rfl) rfl (ao_r (rig_move rfl rfl) rfl (ao_r (rig_call rfl rfl e34 h34) rfl (ao_r (rig_move rfl rfl) rfl (ao_r (rig_extract rfl rfl rfl) rfl (ao_r (rig_extract rfl rfl rfl) rfl (ao_r (rig_assign rfl rfl) rfl (ao_r (rig_assign rfl rfl) rfl (ao_nil ?_))))))))
        refine awp_rs ?_
        refine ao_r (rig_move rfl rfl) rfl (ao_r (rig_move rfl rfl) rfl (ao_r (rig_neq0 rfl rfl rfl) rfl (ao_r (rig_move rfl rfl) rfl ?_)))
        refine ao_on rfl rfl (ao_r (rig_move rfl rfl) rfl ?_)
        refine ao_on rfl rfl (ao_r (rig_move rfl rfl) rfl ?_)
        refine ao_on rfl rfl (ao_r (rig_bneq0 rfl Try.underlying4 rfl rfl) rfl ?_)
        refine ao_r (rig_pickF rfl rfl rfl) rfl (ao_nil ?_)
        refine awp_false rfl (awp_skip (hK17 _ _ (awp_region ?_)))
        refine ao_r (rig_add (c := ((i + 1 : Nat) : Int)) rfl rfl rfl (w64 _ (by omega) (by omega))) rfl (ao_r (rig_move rfl rfl) rfl (ao_nil ?_))
        exact ⟨[(2, .string s0), (9, .pointer (some ⟨p, 0, none⟩)), (16, .slice Ax xs.length cx), (73, .slice (some ⟨b, 0, none⟩) 3 3), (74, .int .i64 (3 : Nat)), (75, .int .i64 j), (139, .slice (some ⟨b9, 0, none⟩) 2 2), (140, .int .i64 (2 : Nat)), (141, .int .i64 (i + 1 : Nat))], _, ⟨rfl, rfl, rfl, rfl, rfl, rfl, rfl, rfl, rfl, trivial⟩, by omega, i + 1, by omega, rfl, rfl, rfl⟩
      · refine awp_exit (hK11 _ _ (awp_region ?_))
        refine ao_r (rig_add (c := ((j + 1 : Nat) : Int)) rfl rfl rfl (w64 _ (by omega) (by omega))) rfl (ao_r (rig_move rfl rfl) rfl (ao_nil ?_))
        exact ⟨[(2, .string s0), (9, .pointer (some ⟨p, 0, none⟩)), (73, .slice (some ⟨b, 0, none⟩) 3 3), (74, .int .i64 (3 : Nat)), (75, .int .i64 (j + 1 : Nat))], _, ⟨rfl, rfl, rfl, rfl, rfl, trivial⟩, by omega, j + 1, J4, by omega, rfl, rfl, hJ12, hC4⟩
  · refine awp_exit (hK9 _ _ (awp_rs (ao_r (rig_assign rfl rfl) rfl (ao_nil ?_))))
    exact awp_ret ⟨_, res1 Try.results7 rfl, rfl, hle.trans (hmJ6.trans (hJ.trans hC.le))⟩
end Go.Proofs.Ytmofaabndjnhjaa
/- The law TemplateCounts holds: 'TemplateCountsUptoSaid'; no condition but the row's own: what the arguments hold together is of bulk at most 1048576. -/
set_option linter.unusedVariables false
namespace Go.Proofs.Ytmofaabndjnhjaa.templateCounts
open Go.ChangeShapes Go.WideShapes Go.ChangeAt Go.RowKit
set_option maxRecDepth 100000 in
theorem contract (H : Type) (enc : TypeId × Value → H) (W : World) (base : Nat) (args : Array Value) (ds gs : List (DataW H)) (before : List MemPlace)
    (hval : ∀ (j : Nat) t v, Try.f7.params[j]? = some t → args[j]? = some v → Value.okWide Try.prog W .any base t v)
    (hW : DataW.Whole enc Try.prog Try.f7.params.toList Rows.templateCountsSpec.vars false W args.toList ds gs before) (hk : Rows.uptoSmall H (ds ++ gs) = true) :
    Calls Try.prog 7 args W fun e W' => ∃ v, e = .returned v ∧ Rows.templateCountsSpec.post enc Try.prog Try.f7 false true false false W args v W' := by
  have hW' := hW
  obtain ⟨p, q, hA0, hV, rfl, hfz, hnd⟩ := hW
  have hA : DataW.TrodAll enc Try.prog W 0 (fun _ => true) true Try.f7.params.toList args.toList ds p := hA0
  obtain ⟨rfl, rfl⟩ := trodVars_none hV
  have hb := bulk_bound hk
  rw [List.append_nil] at hb
  rw [Try.params7] at hA hval
  obtain ⟨v0, vs0, d0, ds0, p0, q0, hargs, rfl, rfl, h0, r0⟩ := trodAll_cons hA
  obtain ⟨v1, vs1, d1, ds1, p1, q1, rfl, rfl, rfl, h1, r1⟩ := trodAll_cons r0
  obtain ⟨v2, vs2, d2, ds2, p2, q2, rfl, rfl, rfl, h2, r2⟩ := trodAll_cons r1
  obtain ⟨rfl, rfl, rfl⟩ := trodAll_nil r2
  obtain rfl : args = #[v0, v1, v2] := by cases args; simp_all
  obtain ⟨A0, c0, raw, rfl, hr0, hz0, hl0, hc0⟩ := open_tms (hval 0 29 v0 rfl rfl) h0 (Nat.le_trans (bulk_mem (List.mem_cons_self ..)) hb)
  obtain ⟨A1, c1, l1, rfl, hr1, hc1, hl1⟩ := open_bytes (hval 1 23 v1 rfl rfl) h1 (Nat.le_trans (bulk_mem (List.mem_cons_of_mem _ (List.mem_cons_self ..))) hb)
  obtain ⟨s0, rfl, hs0⟩ := open_str (hval 2 9 v2 rfl rfl) h2 (Nat.le_trans (bulk_mem (List.mem_cons_of_mem _ (List.mem_cons_of_mem _ (List.mem_cons_self ..)))) hb)
  refine (F7 (Go.Aw.all W) A0 A1 c0 c1 raw l1 s0 hr0 (fun t ht => ⟨(hz0 t ht).1, (hz0 t ht).2.2.2.2⟩) hr1 hc1 hl1 hs0 W W (Go.Aw.sat_all W)).mono fun e W' ⟨he, hbel⟩ => ⟨_, he, law_post rfl (by kernel_rfl) rfl ?_ hW' hbel.toBelow⟩
  rw [Try.params7]
  intro t ht
  simp at ht
  rcases ht with rfl | rfl | rfl <;> exact ⟨by kernel_rfl, of_decide_eq_true (by kernel_rfl)⟩
set_option maxRecDepth 100000 in
theorem lifted (os : Os) (started : os.Started) (H : Type) (enc : TypeId × Value → H) (F : Stop.Interp) :
    ReturnsInHanded {} Try.checked os 7 .any ((Rows.OpenSpec.upto Rows.templateCountsSpec).pre6 enc Try.prog Try.f7 Rows.templateCountsUptoRow.domain false) (((Rows.OpenSpec.upto Rows.templateCountsSpec).at F).post enc Try.prog Try.f7 false true false false) := by
  refine returnsInHanded_of_cond (C := Try.checked) (s := Rows.OpenSpec.upto Rows.templateCountsSpec) (k := Rows.uptoSmall) rfl ownK started (by kernel_rfl) Try.func7
    (OpenSpec.witness (enc := enc) (C := Try.checked) (s := Rows.OpenSpec.upto Rows.templateCountsSpec) (k := Rows.uptoSmall) rfl false ⟨#[], #[.slice none 0 0, .slice none 0 0, .string ⟨#[]⟩], []⟩ 8 (by kernel_rfl) (by kernel_rfl) (by kernel_rfl)
      (x := ([.nil, .nil, .lit (.string [])], [], [])) (by kernel_rfl) rfl (by kernel_rfl)) ?_
  intro W base args ds gs before hval hW _ hk _
  exact contract H enc W base args ds gs before hval hW hk
theorem over : Rows.templateCountsUptoRow.holds Try.pinned (Rows.OpenSpec.upto Rows.templateCountsSpec) :=
  OpenClaim.holds_of_cond 7 Try.f7 rfl rfl rfl rfl rfl rfl rfl ⟨rfl, rfl, rfl, rfl, rfl⟩ rfl rfl rfl rfl rfl (by kernel_rfl) Try.func7 (by kernel_rfl)
    (of_decide_eq_true (by kernel_rfl)) (by unfold Func.isWrapper; first | (rw [if_pos (by decide +kernel)]; kernel_rfl) | (rw [if_neg (by decide +kernel)]; exact ⟨rfl, rfl⟩))
    (fun os started H enc _ F => lifted os started H enc F)
theorem proved : Rows.TemplateCountsUptoSaid :=
  over
end Go.Proofs.Ytmofaabndjnhjaa.templateCounts
namespace Go.Proofs.Ytmofaabndjnhjaa
theorem templateCounts_holds : Rows.TemplateCountsUptoSaid := templateCounts.proved
end Go.Proofs.Ytmofaabndjnhjaa
