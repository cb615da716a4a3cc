/- The law MinerSteps: its walk. -/
import Derived.Test.YtmofaabndjnhjaaGreatMerging
import Derived.Test.YtmofaabndjnhjaaGreatSplit
import Derived.Test.YtmofaabndjnhjaaGreatArgs
set_option linter.unusedVariables false
set_option linter.unusedSimpArgs false
namespace Go.Proofs.YtmofaabndjnhjaaGreat
open Go Go.Aw Go.Pl Go.RowKit
set_option maxHeartbeats 2000000 in
set_option maxRecDepth 100000 in
/-- The states of the law; what is new lies in pieces of its own. -/
theorem Fz6n (mb : Hp) (p : Nat) (F m : Hp) (most : Nat) (hmost : most ≤ 50) (h : CodH mb p 44 F m) : GC Tryz.prog 6 #[.pointer (some ⟨p, 0, none⟩), .int .i64 most] m (fun u m' => ∃ (va vl : Value) (ts : List Tm) (ls : List ByteArray) (x N : Hp), u = .tuple #[va, vl] ∧ ls.length ≤ most ∧ (∀ s ∈ ls, s.size ≤ 200) ∧ Own 9 1 x vl (rows encS ls) ∧ Dj [x, F, N] ∧ CodH mb p 44 (U [x, F, N]) m' ∧ Tms N va ts ∧ (∀ t ∈ ts, t.Ok N) ∧ Sto (keys ts) ls) := by
  refine gc_intro (vs := [_, _]) Tryz.func6 rfl Tryz.ntmps6 (by simp) ?_
  have hmb : HpLe mb F := by obtain ⟨_, _, _, _, h⟩ := h; exact h
  refine awp_rs (ao_r (rig_assign rfl rfl) rfl (ao_r (rig_assign rfl rfl) rfl (ao_nil ?_)))
  refine awp_rs (ao_r (rig_assign rfl rfl) rfl (ao_nil ?_))
  refine awp_rs (ao_r (rig_assign rfl rfl) rfl (ao_nil ?_))
  refine awp_sk fun K1 hK1 => ?_
  refine awp_rs ?_
  refine ao_r (rig_move rfl rfl) rfl (ao_r (rig_move rfl rfl) rfl (ao_r (rig_add rfl rfl rfl (w64 _ (by omega) (by omega))) rfl ?_))
  refine ao_x (ex_call rfl rfl ez7 (Fz7 mb p F _ _ h)) rfl fun v m1 ⟨k, hv, hk, h⟩ => ?_
  subst hv
  refine ao_r (rig_assign rfl rfl) rfl (ao_nil ?_)
  refine awp_block ?_
  refine awp_le [(0, .pointer (some ⟨p, 0, none⟩)), (6, .slice none 0 0), (7, .slice none 0 0), (8, .int .i64 k)] ⟨rfl, rfl, rfl, rfl, trivial⟩ ?_
  have hF0 : U [hp0, F, hp0] = F := by rw [U_hp0]; funext q; simp [U, hp0]
  have hD0 : Dj [hp0, F, hp0] := Dj_hp0 ⟨fun q _ => by simp [U, hp0], Dj_single hp0⟩
  refine awp_loop (fun k r mm => ∃ (va vl : Value) (ts : List Tm) (ls : List ByteArray) (x N : Hp), ls.length + k ≤ most ∧ r = [(0, .pointer (some ⟨p, 0, none⟩)), (6, va), (7, vl), (8, .int .i64 (k : Nat))] ∧ (∀ s ∈ ls, s.size ≤ 200) ∧ Own 9 1 x vl (rows encS ls) ∧ Dj [x, F, N] ∧ CodH mb p 44 (U [x, F, N]) mm ∧ Tms N va ts ∧ (∀ t ∈ ts, t.Ok N) ∧ Sto (keys ts) ls) k
    ⟨_, _, [], [], hp0, hp0, by simp; omega, rfl, by simp, Own.nil 9 1, hD0, by rw [hF0]; exact h, ⟨none, 0, 0, rfl, rfl, .inl rfl⟩, by simp, Sto.nil⟩ ?_
  rintro k r mm ⟨va, vl, ts, ls, x, N, hk2, rfl, hsz, hO, hD, h, hT, hok, hS⟩
  refine awp_sk fun K2 hK2 => awp_rs ?_
  refine ao_r (rig_move rfl rfl) rfl (ao_r (rig_gtr rfl rfl rfl) rfl (ao_nil ?_))
  refine awp_if rfl (fun h1 => ?_) (fun h1 => ?_)
  · obtain ⟨j, rfl⟩ : ∃ j, k = j + 1 := ⟨k - 1, by omega⟩
    refine awp_skip (hK2 _ _ (awp_sk fun K3 hK3 => awp_block (awp_rs ?_)))
    refine ao_r (rig_move rfl rfl) rfl ?_
    refine ao_x (ex_call rfl rfl ez8 (Fz8 mb p _ _ h)) rfl fun w m2 ⟨s, hw, hs, F2, hF2, h⟩ => ?_
    subst hw
    obtain ⟨N1, hN1, hD1, rfl⟩ := grow_to (cs := [x, F]) hD hF2
    obtain ⟨c, hc, rfl, hD4⟩ := outL h hD1
    refine ao_r (rig_assign rfl rfl) rfl (ao_nil ?_)
    refine awp_region ?_
    have h46 := Fz13g [c, x, F] N1 va ts s hD4 (RdSl.le hT hN1) (fun t ht => ⟨(hok t ht).le hN1, by have := hS.elm (by omega) t ht; exact ⟨by omega, this.2⟩⟩) hS.asc (by have := hS.tlen; omega) (by omega)
    refine ao_r (rig_move rfl rfl) rfl (ao_r (rig_move rfl rfl) rfl ?_)
    refine ao_x (ex_call rfl rfl ez13 h46) rfl fun u m5 ⟨ts', N2, hN2, hD5, hm5, hT5, hok5, hq5⟩ => ?_
    subst hm5
    refine ao_r (rig_move rfl rfl) rfl (ao_r (rig_move rfl rfl) rfl ?_)
    refine ao_x (ex_buildSlice rfl hD5 rfl Tryz.underlying27 Tryz.sizeOf9 Tryz.zeroValue9 (by decide) (by decide) (fill_one rfl (rangeMap_size _ _))) rfl fun w2 m2 ⟨b2, hw2, hm2, hD6⟩ => ?_
    subst hw2 hm2
    refine ao_x (ex_append 2 (by_ := 16) rfl hD6 rfl rfl Tryz.underlying27 inf9 rfl (by decide) (by decide) hO rfl (src_one (enc := encS) (x := s) encS_len ((cellsAt_one _ _ _).le U_le_head)) (one_rows encS_one _) (by rw [rows_length encS_len, rows_length encS_len]; simp; omega)) rfl fun w3 m3 ⟨c3, hO3, hm3, hD7⟩ => ?_
    subst hm3
    refine ao_r (rig_assign rfl rfl) rfl (ao_r (rig_assign rfl rfl) rfl (ao_nil ?_))
    rw [← rows_append] at hO3
    replace hD7 : Dj [Go.Aw.one b2 (.cells (Value.string s).cells 9 (0, 0)), c, c3, F, N2] := hD7
    have e8 : U [Go.Aw.one b2 (.cells (Value.string s).cells 9 (0, 0)), c, c3, F, N2] = U [c, c3, F, U [Go.Aw.one b2 (.cells (Value.string s).cells 9 (0, 0)), N2]] ∧ Dj [c, c3, F, U [Go.Aw.one b2 (.cells (Value.string s).cells 9 (0, 0)), N2]] ∧ HpLe N2 (U [Go.Aw.one b2 (.cells (Value.string s).cells 9 (0, 0)), N2]) := by
      have h : U [Go.Aw.one b2 (.cells (Value.string s).cells 9 (0, 0)), c, c3, F, N2] = U [c, c3, F, Go.Aw.one b2 (.cells (Value.string s).cells 9 (0, 0)), N2] ∧ Dj [c, c3, F, Go.Aw.one b2 (.cells (Value.string s).cells 9 (0, 0)), N2] := U_pm [1, 2, 3, 0, 4] rfl hD7
      exact ⟨h.1.trans (U_flat [c, c3, F] _).symm, Dj_unflat (A := [c, c3, F]) h.2, le_at 1 h.2.2.2.2 rfl⟩
    obtain ⟨e8, hD8, hN8⟩ := e8
    show K3 _ (U [Go.Aw.one b2 (.cells (Value.string s).cells 9 (0, 0)), c, c3, F, N2])
    rw [e8]
    refine hK3 _ _ (awp_region ?_)
    have hC8 := backL (p := p) (T := 44) hc hD8 (hmb.trans (le_at 1 hD8.2 rfl))
    refine ao_r (rig_move rfl rfl) rfl (ao_r (rig_sub rfl rfl rfl (show IntKind.i64.wrap (((j + 1 : Nat) : Int) - 1) = (j : Int) by rw [show (((j + 1 : Nat) : Int) - 1) = (j : Int) by omega]; exact w64 _ (by omega) (by omega))) rfl (ao_r (rig_assign rfl rfl) rfl (ao_nil ?_)))
    refine ⟨[(0, .pointer (some ⟨p, 0, none⟩)), (6, u), (7, w3), (8, .int .i64 (j : Nat))], j, ⟨rfl, rfl, rfl, rfl, trivial⟩, by omega, u, w3, ts', ls ++ [s], c3, _, by simp; omega, rfl, ?_, hO3, hD8.2, hC8, RdSl.le hT5 hN8, fun t ht => (hok5 t ht).le hN8, by rw [hq5]; exact hS.add s (by omega)⟩
    intro y hy
    rcases List.mem_append.1 hy with h | h
    · exact hsz y h
    · rw [List.mem_singleton.1 h]; exact hs
  · refine awp_exit (hK1 _ _ (awp_rs ?_))
    refine ao_r (rig_move rfl rfl) rfl (ao_r (rig_move rfl rfl) rfl (ao_r (rig_assign rfl rfl) rfl (ao_r (rig_assign rfl rfl) rfl (ao_nil ?_))))
    exact awp_ret ⟨_, res2 Tryz.results6 rfl rfl, va, vl, ts, ls, x, N, rfl, by omega, hsz, hO, hD, h, hT, hok, hS⟩
/-! Contracts that only let the heap grow. -/
theorem Fz9h (G : Hp) (va : Value) (l : List Tm) (s : ByteArray) (ha : Tms G va l) (hok : ∀ t ∈ l, t.Ok G) (hS : Sta (keys l)) (hl : l.length ≤ 1048576) (hs : s.size ≤ 16777216) :
    GC Tryz.prog 9 #[va, .string s] G (fun u m' => ∃ v b out, u = .tuple #[v, .bool b] ∧ HpLe G m' ∧ Tms m' v out ∧ (∀ t ∈ out, t.Ok m') ∧ RemR s (keys l) (keys out) b) := by
  have h := Fz9g [] G va l s (Dj_single G) ha (hS.ok hok) hS.asc hl hs
  rw [List.nil_append, U_single] at h
  refine h.mono fun u m' ⟨v, b, out, G', hu, hG, _, hm, hT, hO, hR⟩ => ?_
  rw [List.nil_append, U_single] at hm
  subst hm
  exact ⟨v, b, out, hu, hG, hT, hO, hR⟩
theorem Fz12h (G : Hp) (va : Value) (l : List Tm) (s : ByteArray) (ha : Tms G va l) (hok : ∀ t ∈ l, t.Ok G) (hS : Sta (keys l)) (hl : l.length ≤ 1048576) (hs : s.size ≤ 16777216) :
    GC Tryz.prog 12 #[va, .string s] G (fun u m' => ∃ out, HpLe G m' ∧ Tms m' u out ∧ (∀ t ∈ out, t.Ok m') ∧ keys out = addS s (keys l)) := by
  have h := Fz12g [] G va l s (Dj_single G) ha (hS.ok hok) hS.asc hl hs
  rw [List.nil_append, U_single] at h
  refine h.mono fun u m' ⟨out, G', hG, _, hm, hT, hO, hR⟩ => ?_
  rw [List.nil_append, U_single] at hm
  subst hm
  exact ⟨out, hG, hT, hO, hR⟩
theorem Fz13h (G : Hp) (va : Value) (l : List Tm) (s : ByteArray) (ha : Tms G va l) (hok : ∀ t ∈ l, t.Ok G) (hS : Sta (keys l)) (hl : l.length ≤ 1048576) (hs : s.size ≤ 16777216) :
    GC Tryz.prog 13 #[va, .string s] G (fun u m' => ∃ out, HpLe G m' ∧ Tms m' u out ∧ (∀ t ∈ out, t.Ok m') ∧ keys out = addS s (keys l)) := by
  have h := Fz13g [] G va l s (Dj_single G) ha (hS.ok hok) hS.asc hl hs
  rw [List.nil_append, U_single] at h
  refine h.mono fun u m' ⟨out, G', hG, _, hm, hT, hO, hR⟩ => ?_
  rw [List.nil_append, U_single] at hm
  subst hm
  exact ⟨out, hG, hT, hO, hR⟩
theorem addS_len (s : ByteArray) (q : List El) : (addS s q).length ≤ q.length + 1 := by
  unfold addS; split
  · omega
  · exact addE_len _ _ _
theorem addS_tok {s : ByteArray} {q : List El} (h : Sta q) : ∀ a ∈ addS s q, a.1.length ≤ 60 := fun a ha => by
  unfold addS at ha
  split at ha
  · exact (h.tok a ha).2.1
  · rename_i ts hts
    rcases addE_mem ha with e | ⟨c, hc, e⟩
    · rw [e]; exact (toksOf_len hts).2
    · rw [← e]; exact (h.tok c hc).2.1
theorem tok_of_keys {out : List Tm} {q : List El} (hk : keys out = q) (h : ∀ a ∈ q, a.1.length ≤ 60) : ∀ t ∈ out, t.toks.length ≤ 1099511627776 := fun t ht => by
  have h1 : t.key ∈ q := by rw [← hk]; exact List.mem_map_of_mem ht
  exact Nat.le_trans (h _ h1) (by decide)
theorem RemR.sub {s : ByteArray} {q q' : List El} {b : Bool} (h : RemR s q q' b) : (∀ a ∈ q', ∃ c ∈ q, c.1 = a.1) ∧ q'.length ≤ q.length := by
  rcases h with ⟨_, rfl, _⟩ | ⟨_, ts, x, _, _, rfl⟩
  · exact ⟨fun a ha => ⟨a, ha, rfl⟩, Nat.le_refl _⟩
  · exact ⟨fun a ha => remE_mem ha, remE_len _ _⟩
theorem keysO60 {out : List Tm} {q : List El} (h : keys out = ofQ q) : ∀ t ∈ out, t.toks.length ≤ 60 := fun t ht => by
  have h1 : t.key ∈ keys out := List.mem_map_of_mem ht
  rw [h] at h1
  exact (allQ_len ((srtE_perm _).mem_iff.1 h1)).2
theorem toks_size {s : ByteArray} {ts : List ByteArray} (h : toksOf s = some ts) : ∀ t ∈ ts, t.size ≤ s.size := fun t ht => by
  unfold toksOf at h
  split at h
  · cases h
  · rw [← Option.some.inj h] at ht
    obtain ⟨x, hx, rfl⟩ := List.mem_map.1 ht
    unfold varB
    split
    · exact Nat.zero_le _
    · exact fieldsB_size hx
theorem Sto.toksz {l : List Tm} {ls : List ByteArray} (h : Sto (keys l) ls) (hsz : ∀ s ∈ ls, s.size ≤ 200) : ∀ t ∈ l, ∀ y ∈ t.toks, y.size ≤ 200 := fun t ht y hy => by
  have hm : t.key ∈ keys l := List.mem_map_of_mem ht
  have hp := (h.pos _ hm).1
  have he : (t.toks, (1 : Int)) ∈ expE (keys l) := List.mem_flatMap.2 ⟨t.key, hm, List.mem_replicate.2 ⟨by have : (1 : Int) ≤ t.key.2 := hp; omega, rfl⟩⟩
  obtain ⟨s, hs, h2⟩ := List.mem_filterMap.1 (h.exp.mem_iff.1 he)
  obtain ⟨ts, hts, h3⟩ := Option.map_eq_some_iff.1 h2
  have e : ts = t.toks := congrArg Prod.fst h3
  exact Nat.le_trans (toks_size hts y (by rw [e]; exact hy)) (hsz s hs)
/-- The list of the two pieces that the generator lives beside. -/
theorem sort5 {x F N x2 N2 : Hp} (hD1 : Dj [x, F, N]) (hD2 : Dj [x2, U [x, F, N], N2]) : U [x2, U [x, F, N], N2] = U [x, U [x2, N2, F, N]] ∧ Dj [x, U [x2, N2, F, N]] ∧ Dj [x2, N2, F, N] := by
  have h1 : U [x2, U [x, F, N], N2] = U [x2, N2, U [x, F, N]] ∧ Dj [x2, N2, U [x, F, N]] := U_pm [0, 2, 1] rfl hD2
  have h2 : Dj ([x2, N2] ++ [x, F, N]) := Dj_flat (A := [x2, N2]) h1.2 hD1
  have h3 : U [x2, N2, x, F, N] = U [x, x2, N2, F, N] ∧ Dj [x, x2, N2, F, N] := U_pm [2, 0, 1, 3, 4] rfl h2
  exact ⟨h1.1.trans ((U_flat [x2, N2] [x, F, N]).trans (h3.1.trans (U_flat [x] [x2, N2, F, N]).symm)), Dj_unflat (A := [x]) h3.2, h3.2.2⟩
theorem ao_u {P : Program} {n : Nat} {ops : Array Oper} {os : List Oper} {r : Env} {m : Hp} {K : Env → Hp → Prop} (h : AOps P n ops os r (U [m]) K) : AOps P n ops os r m K := by rw [U_single] at h; exact h
theorem ez3 : Enters Tryz.prog 3 := enters_of Tryz.func3 (by kernel_rfl) rfl
set_option maxHeartbeats 8000000 in
set_option maxRecDepth 100000 in
theorem Fz3 (m : Hp) (A0 A2 : Option Addr) (c0 c2 : Nat) (l0 : List UInt8) (s : ByteArray) (raw : List Tm) (h0 : RdSl m encB 1 (.slice A0 l0.length c0) l0) (h2 : Tms m (.slice A2 raw.length c2) raw) (hraw : ∀ t ∈ raw, t.Ok m ∧ t.toks.length ≤ 1048576 ∧ ∀ s ∈ t.toks, s.size ≤ 1048576) (hc0 : l0.length ≤ c0) (hl0 : l0.length ≤ 1048576) (hs : s.size ≤ 1048576) :
    RC Tryz.prog 3 #[.slice A0 l0.length c0, .string s, .slice A2 raw.length c2] m (.bool true) := by
  refine rc_of_gc fun m1 hm => gc_intro (vs := [_, _, _]) Tryz.func3 rfl Tryz.ntmps3 (by simp) ?_
  refine awp_rs (ao_r (rig_assign rfl rfl) rfl (ao_nil ?_))
  refine awp_sk fun K5 hK5 => awp_rs ?_
  refine ao_r (rig_call (vs := []) rfl rfl ez4 (Fz4 m1)) rfl (ao_r (rig_not rfl rfl) rfl (ao_nil ?_))
  refine awp_false rfl (awp_skip (hK5 _ _ ?_))
  refine awp_sk fun K6 hK6 => awp_rs (ao_r (rig_move rfl rfl) rfl (ao_r (rig_lenSl rfl rfl Tryz.underlying23) rfl (ao_r (rig_gtr rfl rfl rfl) rfl (ao_nil ?_))))
  refine awp_if rfl (fun hbig => ?_) (fun hbig => ?_)
  · exact awp_rs (ao_r (rig_assign rfl rfl) rfl (ao_nil (awp_ret ⟨_, res1 Tryz.results3 rfl, rfl, HpLe.refl _⟩)))
  refine awp_skip (hK6 _ _ (awp_rs (ao_r (rig_move rfl rfl) rfl ?_)))
  refine ao_x (ex_call (vs := [_, _]) rfl rfl ez5 (Fz5 m1 A0 c0 l0 240 (RdSl.le h0 hm) hc0 (by omega) (by decide))) rfl fun u m2 ⟨p, hu, hC2⟩ => ?_
  subst hu
  refine ao_r (rig_assign rfl rfl) rfl (ao_nil ?_)
  refine awp_rs (ao_r (rig_move rfl rfl) rfl ?_)
  refine ao_x (ex_call (vs := [_, _]) rfl rfl ez6 (Fz6n m1 p m1 m2 12 (by decide) hC2)) rfl fun u m3 ⟨va, vl, ts, ls, x, N, hu, hll, hsz, hOx, hDx, hC3, hTs, hoks, hSs⟩ => ?_
  subst hu
  refine ao_r (rig_move rfl rfl) rfl (ao_r (rig_extract rfl rfl rfl) rfl (ao_r (rig_extract rfl rfl rfl) rfl (ao_r (rig_assign rfl rfl) rfl (ao_r (rig_assign rfl rfl) rfl (ao_nil ?_)))))
  refine awp_rs (ao_r (rig_move rfl rfl) rfl ?_)
  refine ao_x (ex_call (vs := [_, _]) rfl rfl ez6 (Fz6n m1 p (U [x, m1, N]) m3 8 (by decide) hC3)) rfl fun u m4 ⟨vo, vl2, o, ls2, x2, N2, hu, hll2, _, _, hDx2, hC4, hTo, hoko, hSo⟩ => ?_
  subst hu
  refine ao_r (rig_move rfl rfl) rfl (ao_r (rig_extract rfl rfl rfl) rfl (ao_r (rig_extract rfl rfl rfl) rfl (ao_r (rig_assign rfl rfl) rfl (ao_r (rig_assign rfl rfl) rfl (ao_nil ?_)))))
  obtain ⟨e5, hDG, hD5⟩ := sort5 hDx hDx2
  rw [e5] at hC4
  have hm1G : HpLe m1 (U [x2, N2, m1, N]) := le_at 2 hD5 rfl
  have hTsG : Tms (U [x2, N2, m1, N]) va ts := RdSl.le hTs (le_at 3 hD5 rfl)
  have hoksG : ∀ t ∈ ts, t.Ok (U [x2, N2, m1, N]) := fun t ht => (hoks t ht).le (le_at 3 hD5 rfl)
  have hToG : Tms (U [x2, N2, m1, N]) vo o := RdSl.le hTo (le_at 1 hD5 rfl)
  have hokoG : ∀ t ∈ o, t.Ok (U [x2, N2, m1, N]) := fun t ht => (hoko t ht).le (le_at 1 hD5 rfl)
  generalize U [x2, N2, m1, N] = G at hC4 hDG hm1G hTsG hoksG hToG hokoG
  clear e5 hD5 hDx hDx2 hC3 hC2 hTs hoks hTo hoko
  have htl : ts.length ≤ 12 := Nat.le_trans hSs.tlen hll
  have hotl : o.length ≤ 8 := Nat.le_trans hSo.tlen hll2
  have hSS := hSs.sta
  have htz := hSs.toksz hsz
  have hOS := hSo.sta
  refine awp_sk fun K8 hK8 => ?_
  -- behind the change of a count
  have hnext : ∀ (vm : Value) (l : List Tm) (G' mm : Hp), CodH m1 p 44 (U [x, G']) mm → Dj [x, G'] → HpLe G G' → Tms G' vm l → (∀ t ∈ l, t.Ok G') → Sta (keys l) → l.length ≤ 12 → (∀ t ∈ l, ∀ y ∈ t.toks, y.size ≤ 200) → ∀ r', EnvLe [(1, .string s), (2, .slice A2 raw.length c2), (7, .pointer (some ⟨p, 0, none⟩)), (8, vm), (9, vl), (10, vo)] r' → K8 r' mm := by
    intro vm l G' mm hC hD hGG hT hok hS hl htz r' hr
    refine hK8 _ _ (awp_le _ hr (awp_sk fun K9 hK9 => awp_rs ?_))
    refine ao_r (rig_move rfl rfl) rfl (ao_r (rig_move rfl rfl) rfl (ao_r (rig_move rfl rfl) rfl ?_))
    refine ao_x (ex_call rfl rfl ez8 (Fz8 m1 p _ _ hC)) rfl fun u m5 ⟨ln, hu, hln, F2, hF2, hC5⟩ => ?_
    subst hu
    obtain ⟨G2, hG2, hD2, rfl⟩ := grow_to (cs := [x]) hD hF2
    obtain ⟨cg, hcg, rfl, hDg⟩ := outL hC5 hD2
    refine ao_x (ex_buildSlice (cs := #[.string s, .string ln]) rfl hDg rfl Tryz.underlying27 Tryz.sizeOf9 Tryz.zeroValue9 (by decide) (by decide) (by kernel_rfl)) rfl fun w2 m2 ⟨b2, hw2, hm2, hD6⟩ => ?_
    subst hw2 hm2
    have hsrc : Go.Aw.Src (U [Go.Aw.one b2 (.cells #[.string s, .string ln] 9 (0, 0)), cg, x, G2]) 1 (.slice (some ⟨b2, 0, none⟩) 2 2) (rows encS [s, ln]) :=
      ⟨_, 2, 2, rfl, rfl, .inr ⟨b2, 0, rfl, (cellsAt_one b2 _ 9).le U_le_head⟩⟩
    refine ao_x (ex_append 2 (by_ := 16) rfl hD6 rfl rfl Tryz.underlying27 inf9 rfl (by decide) (by decide) hOx rfl hsrc (one_rows encS_one _) (by rw [rows_length encS_len, rows_length encS_len]; simp; omega)) rfl fun w m7 ⟨x3, hO3, hm7, hD7⟩ => ?_
    subst hm7
    rw [← rows_append] at hO3
    have hrd : Strs (U [Go.Aw.one b2 (.cells #[.string s, .string ln] 9 (0, 0)), cg, x3, G2]) w (ls ++ [s, ln]) := RdSl.le hO3.rd (le_at 2 hD7 rfl)
    have hGH : HpLe G' (U [Go.Aw.one b2 (.cells #[.string s, .string ln] 9 (0, 0)), cg, x3, G2]) := hG2.trans (le_at 3 hD7 rfl)
    show AOps _ _ _ _ _ (U [Go.Aw.one b2 (.cells #[.string s, .string ln] 9 (0, 0)), cg, x3, G2]) _
    generalize U [Go.Aw.one b2 (.cells #[.string s, .string ln] 9 (0, 0)), cg, x3, G2] = H0 at hrd hGH
    have hsz2 : ∀ y ∈ ls ++ [s, ln], y.size ≤ 16777216 := fun y hy => by
      rcases List.mem_append.1 hy with h | h
      · have := hsz y h; omega
      · simp at h
        rcases h with rfl | rfl <;> omega
    have hTH := RdSl.le hT hGH
    have hokH : ∀ t ∈ l, t.Ok H0 := fun t ht => (hok t ht).le hGH
    have hToH := RdSl.le hToG (hGG.trans hGH)
    have hokoH : ∀ t ∈ o, t.Ok H0 := fun t ht => (hokoG t ht).le (hGG.trans hGH)
    have hm1H : HpLe m1 H0 := hm1G.trans (hGG.trans hGH)
    clear hsrc hD7 hD6 hO3 hDg hcg hD2 hC5 hC hD hT hok hF2
    obtain ⟨Aw, cw, rfl, _⟩ := RdSl.form encS_len (by decide) hrd
    refine ao_r (rig_lenSl rfl rfl Tryz.underlying27) rfl (ao_r (rig_move rfl rfl) rfl (ao_nil ?_))
    refine awp_block ?_
    refine awp_le [(2, .slice A2 raw.length c2), (8, vm), (10, vo), (57, .slice Aw (ls ++ [s, ln]).length cw), (58, .int .i64 (ls ++ [s, ln]).length), (59, .int .i64 (0 : Nat))] ⟨rfl, rfl, rfl, rfl, rfl, rfl, trivial⟩ ?_
    have hln14 : (ls ++ [s, ln]).length ≤ 14 := by simp; omega
    refine awp_loop (fun kk r mm => ∃ (i : Nat), i ≤ (ls ++ [s, ln]).length ∧ kk = (ls ++ [s, ln]).length - i ∧ r = [(2, .slice A2 raw.length c2), (8, vm), (10, vo), (57, .slice Aw (ls ++ [s, ln]).length cw), (58, .int .i64 (ls ++ [s, ln]).length), (59, .int .i64 i)] ∧ HpLe H0 mm) _ ⟨0, by omega, rfl, rfl, HpLe.refl _⟩ ?_
    rintro kk r mm ⟨i, hi, rfl, rfl, hle⟩
    refine awp_rs (ao_r (rig_lss rfl rfl rfl) rfl (ao_nil ?_))
    refine awp_sk fun K10 hK10 => ?_
    refine awp_if rfl (fun h => ?_) (fun h => ?_)
    · refine awp_skip (hK10 _ _ (awp_sk fun K11 hK11 => awp_block (awp_rs ?_)))
      obtain ⟨y, hy⟩ := get_lt (l := ls ++ [s, ln]) (i := i) (by omega)
      have hys := hsz2 y (List.mem_of_getElem? hy)
      obtain ⟨b, off, cap', e, hyc⟩ := Strs.get (RdSl.le hrd hle) hy
      simp only [Value.slice.injEq] at e
      obtain ⟨rfl, _, rfl⟩ := e
      refine ao_r (rig_ix i rfl rfl rfl Tryz.underlying27 Tryz.sizeOf9 rfl rfl (by omega)) rfl (ao_r (rig_load1 rfl rfl Tryz.isAgg9 hyc) rfl (ao_r (rig_assign rfl rfl) rfl (ao_nil ?_)))
      refine awp_rs (ao_r (rig_move rfl rfl) rfl (ao_r (rig_move rfl rfl) rfl ?_))
      refine ao_x (ex_call rfl rfl ez9 (Fz9h mm vm l y (RdSl.le hTH hle) (fun t ht => (hokH t ht).le hle) hS (by omega) hys)) rfl fun u m8 ⟨v1, b1, o1, hu, hL1, hT1, hok1, hR1⟩ => ?_
      subst hu
      refine ao_r (rig_move rfl rfl) rfl (ao_r (rig_extract rfl rfl rfl) rfl (ao_r (rig_extract rfl rfl rfl) rfl (ao_r (rig_assign rfl rfl) rfl (ao_r (rig_assign rfl rfl) rfl (ao_nil ?_)))))
      have hle8 := hle.trans hL1
      refine awp_rs (ao_r (rig_move rfl rfl) rfl (ao_r (rig_move rfl rfl) rfl ?_))
      refine ao_x (ex_call rfl rfl ez10 (Fz10 m8 vm l y (RdSl.le hTH hle8) (fun t ht => (hokH t ht).le hle8) hS (by omega) hys)) rfl fun u m9 ⟨v2, b2, o2, hu, hL2, hT2, hok2, hl2, hR2⟩ => ?_
      subst hu
      refine ao_r (rig_move rfl rfl) rfl (ao_r (rig_extract rfl rfl rfl) rfl (ao_r (rig_extract rfl rfl rfl) rfl (ao_r (rig_assign rfl rfl) rfl (ao_r (rig_assign rfl rfl) rfl (ao_nil ?_)))))
      have hle9 := hle8.trans hL2
      obtain ⟨rfl, hk12⟩ := hR1.one hR2
      have hsub := hR1.sub
      have ho1l : o1.length ≤ 12 := by have := hsub.2; rw [keys_len, keys_len] at this; omega
      have hS11 := Fz11 m9 v1 v2 o1 o2 (RdSl.le hT1 hL2) hT2 (fun t ht => (hok1 t ht).le hL2) hok2 (by omega) (fun t ht => by
        obtain ⟨c, hc, e⟩ := hsub.1 t.key (List.mem_map_of_mem ht)
        have h1 := (hS.tok c hc).2.1
        rw [e] at h1
        exact Nat.le_trans h1 (by decide))
      rw [decide_eq_true hk12] at hS11
      refine awp_rs (ao_r (rig_move rfl rfl) rfl (ao_r (rig_move rfl rfl) rfl (ao_r (rig_bneqS rfl Tryz.underlying4 rfl rfl) rfl (ao_r (rig_move rfl rfl) rfl ?_))))
      refine ao_on rfl rfl (ao_r (rig_move rfl rfl) rfl (ao_on rfl rfl (ao_r (rig_move rfl rfl) rfl (ao_on rfl rfl (ao_r (rig_call rfl rfl ez11 hS11) rfl (ao_on rfl rfl (ao_r (rig_not rfl rfl) rfl (ao_r (rig_pickF rfl rfl rfl) rfl (ao_r (rig_move rfl rfl) rfl ?_)))))))))
      refine ao_on rfl rfl (ao_r (rig_move rfl rfl) rfl (ao_on rfl rfl (ao_r (rig_move rfl rfl) rfl (ao_on rfl rfl ?_))))
      refine ao_x (ex_call rfl rfl ez12 (Fz12h m9 vm l y (RdSl.le hTH hle9) (fun t ht => (hokH t ht).le hle9) hS (by omega) hys)) rfl fun v3 m10 ⟨o3, hL3, hT3, hok3, hk3⟩ => ?_
      have hle10 := hle9.trans hL3
      refine ao_on rfl rfl (ao_r (rig_move rfl rfl) rfl (ao_on rfl rfl (ao_r (rig_move rfl rfl) rfl (ao_on rfl rfl ?_))))
      refine ao_x (ex_call rfl rfl ez13 (Fz13h m10 vm l y (RdSl.le hTH hle10) (fun t ht => (hokH t ht).le hle10) hS (by omega) hys)) rfl fun v4 m11 ⟨o4, hL4, hT4, hok4, hk4⟩ => ?_
      have hle11 := hle10.trans hL4
      have ho3l : o3.length ≤ 13 := by have := addS_len y (keys l); rw [← hk3, keys_len, keys_len] at this; omega
      have hS12 := Fz11 m11 v3 v4 o3 o4 (RdSl.le hT3 hL4) hT4 (fun t ht => (hok3 t ht).le hL4) hok4 (by omega) (tok_of_keys hk3 (addS_tok hS))
      rw [decide_eq_true (hk3.trans hk4.symm)] at hS12
      refine ao_on rfl rfl (ao_r (rig_call rfl rfl ez11 hS12) rfl (ao_on rfl rfl (ao_r (rig_not rfl rfl) rfl (ao_r (rig_pickF rfl rfl rfl) rfl (ao_nil ?_)))))
      refine awp_false rfl (awp_skip (hK11 _ _ (awp_region ?_)))
      refine ao_r (rig_add (c := ((i + 1 : Nat) : Int)) rfl rfl rfl (w64 _ (by omega) (by omega))) rfl (ao_r (rig_move rfl rfl) rfl (ao_nil ?_))
      exact ⟨[(2, .slice A2 raw.length c2), (8, vm), (10, vo), (57, .slice (some ⟨b, off, none⟩) (ls ++ [s, ln]).length cw), (58, .int .i64 (ls ++ [s, ln]).length), (59, .int .i64 (i + 1 : Nat))], _, ⟨rfl, rfl, rfl, rfl, rfl, rfl, trivial⟩, by omega, i + 1, by omega, rfl, rfl, hle11⟩
    · refine awp_exit (hK9 _ _ (awp_rs ?_))
      have hMS : Sta (mrgE (keys l) (keys o)) := mrg_sta hS fun a ha => mrg_good hOS (j := o.length) a (by rwa [List.take_length])
      have hTm := RdSl.le hTH hle
      have hokm : ∀ t ∈ l, t.Ok mm := fun t ht => (hokH t ht).le hle
      refine ao_r (rig_move rfl rfl) rfl (ao_r (rig_move rfl rfl) rfl ?_)
      refine ao_x (ex_call rfl rfl ez14 (Fz14 mm vm vo l o hTm (RdSl.le hToH hle) hokm (fun t ht => (hokoH t ht).le hle) hS hOS (by omega) (by omega))) rfl fun v1 m5 ⟨o1, hL1, hT1, hok1, hk1⟩ => ?_
      refine ao_r (rig_move rfl rfl) rfl (ao_r (rig_move rfl rfl) rfl ?_)
      refine ao_x (ex_call rfl rfl ez15 (Fz15 m5 vm vo l o (RdSl.le hTm hL1) (RdSl.le hToH (hle.trans hL1)) (fun t ht => (hokm t ht).le hL1) (fun t ht => (hokoH t ht).le (hle.trans hL1)) hS hOS (by omega) (by omega))) rfl fun v2 m6 ⟨o2, hL2, hT2, hok2, hk2⟩ => ?_
      have ho1l : o1.length ≤ 20 := by have := mrg_len (keys o) (keys l); rw [← hk1, keys_len, keys_len, keys_len] at this; omega
      have h11 := Fz11 m6 v1 v2 o1 o2 (RdSl.le hT1 hL2) hT2 (fun t ht => (hok1 t ht).le hL2) hok2 (by omega) (tok_of_keys hk1 fun a ha => (hMS.tok a ha).2.1)
      rw [decide_eq_true (hk1.trans hk2.symm)] at h11
      refine ao_r (rig_call rfl rfl ez11 h11) rfl (ao_r (rig_move rfl rfl) rfl ?_)
      have hL6 := hL1.trans hL2
      have helm := hS.elm
      refine ao_on rfl rfl (ao_r (rig_move rfl rfl) rfl (ao_on rfl rfl ?_))
      refine ao_x (ex_call rfl rfl ez16 (Fz16 m6 vm l (RdSl.le hTm hL6) (fun t ht => (hokm t ht).le hL6) (fun t ht => (helm t ht).2.1.2) (by omega))) rfl fun v3 m7 ⟨o3, q3, G3, hO3, hm7, hD7, hG3, hok3, hk3, hn3⟩ => ?_
      subst hm7
      have hL7 : HpLe m6 (U [q3, G3]) := hG3.trans (le_at 1 hD7 rfl)
      have hT3 : Tms (U [q3, G3]) v3 o3 := RdSl.le hO3.rd (le_at 0 hD7 rfl)
      have hok3' : ∀ t ∈ o3, t.Ok (U [q3, G3]) := fun t ht => (hok3 t ht).le (le_at 1 hD7 rfl)
      generalize U [q3, G3] = m7 at hL7 hT3 hok3'
      have hL67 := hL6.trans hL7
      refine ao_on rfl rfl (ao_r (rig_move rfl rfl) rfl (ao_on rfl rfl ?_))
      refine ao_x (ex_call rfl rfl ez17 (Fz17 m7 vm l (RdSl.le hTm hL67) (fun t ht => (hokm t ht).le hL67) (fun t ht => (helm t ht).2.1.2) (by omega))) rfl fun v4 m8 ⟨o4, hL8, hT4, hok4, hk4, hn4⟩ => ?_
      have h11b := Fz11 m8 v3 v4 o3 o4 (RdSl.le hT3 hL8) hT4 (fun t ht => (hok3' t ht).le hL8) hok4 (by omega) (fun t ht => Nat.le_trans (keysO60 hk3 t ht) (by decide))
      rw [decide_eq_true (hk3.trans hk4.symm)] at h11b
      refine ao_on rfl rfl (ao_r (rig_call rfl rfl ez11 h11b) rfl (ao_r (rig_pickT rfl rfl rfl) rfl (ao_r (rig_move rfl rfl) rfl ?_)))
      have hL := hL67.trans hL8
      have hTl := RdSl.le hTm hL
      have hokl : ∀ t ∈ l, t.Ok m8 := fun t ht => (hokm t ht).le hL
      have hrw : Tms m8 (.slice A2 raw.length c2) raw := RdSl.le h2 (hm.trans (hm1H.trans (hle.trans hL)))
      have hrok : ∀ t ∈ raw, t.Ok m8 := fun t ht => (hraw t ht).1.le (hm.trans (hm1H.trans (hle.trans hL)))
      have hend : HpLe m1 m8 := hm1H.trans (hle.trans hL)
      clear hT4 hok4 hT3 hok3' hO3 hok3 hD7 hG3 h11 h11b hT1 hT2 hok1 hok2
      have h18 := Fz18 m8 vm l hTl (by omega) (fun t ht => (helm t ht).2.1)
      have h19 := Fz19 m8 vm l hTl (by omega) (fun t ht => (helm t ht).2.1)
      refine ao_on rfl rfl (ao_r (rig_move rfl rfl) rfl (ao_on rfl rfl (ao_r (rig_call rfl rfl ez18 h18) rfl (ao_on rfl rfl (ao_r (rig_move rfl rfl) rfl (ao_on rfl rfl (ao_r (rig_call rfl rfl ez19 h19) rfl (ao_on rfl rfl (ao_r (rig_eql rfl rfl rfl) rfl ?_)))))))))
      rw [decide_eq_true rfl]
      refine ao_r (rig_pickT rfl rfl rfl) rfl (ao_r (rig_move rfl rfl) rfl ?_)
      have h20 := Fz20 m8 vm l hTl (fun t ht => ⟨hokl t ht, by have := (helm t ht).1; omega⟩) (by omega)
      rw [hS.chk] at h20
      refine ao_on rfl rfl (ao_r (rig_move rfl rfl) rfl (ao_on rfl rfl (ao_r (rig_call rfl rfl ez20 h20) rfl (ao_r (rig_pickT rfl rfl rfl) rfl (ao_r (rig_move rfl rfl) rfl ?_)))))
      have hraw16 : ∀ t ∈ raw, t.toks.length ≤ 16777216 := fun t ht => by have := (hraw t ht).2.1; omega
      have h20r := Fz20 m8 _ raw hrw (fun t ht => ⟨hrok t ht, hraw16 t ht⟩) (by omega)
      have h21r := Fz21 m8 _ raw hrw (fun t ht => ⟨hrok t ht, hraw16 t ht, fun y hy => Nat.le_trans ((hraw t ht).2.2 y hy) (by decide)⟩) (by omega)
      refine ao_on rfl rfl (ao_r (rig_move rfl rfl) rfl (ao_on rfl rfl (ao_r (rig_call rfl rfl ez20 h20r) rfl (ao_on rfl rfl (ao_r (rig_move rfl rfl) rfl (ao_on rfl rfl (ao_r (rig_call rfl rfl ez21 h21r) rfl (ao_on rfl rfl (ao_r (rig_beql rfl Tryz.underlying4 rfl rfl) rfl ?_)))))))))
      rw [decide_eq_true rfl]
      refine ao_r (rig_pickT rfl rfl rfl) rfl (ao_r (rig_move rfl rfl) rfl (ao_u ?_))
      have hboth : ∀ t ∈ l ++ raw, t.Ok m8 ∧ t.toks.length ≤ 16777216 ∧ ∀ y ∈ t.toks, y.size ≤ 1099511627776 := fun t ht => by
        rcases List.mem_append.1 ht with h | h
        · refine ⟨hokl t h, by have := (helm t h).1; omega, fun y hy => ?_⟩
          have := htz t h y hy; omega
        · exact ⟨hrok t h, hraw16 t h, fun y hy => Nat.le_trans ((hraw t h).2.2 y hy) (by decide)⟩
      have hbl : (rows encT l).length + (rows encT raw).length ≤ 1099511627776 := by rw [rows_length encT_len, rows_length encT_len]; omega
      have hsl : Go.Aw.Src (U [m8]) 2 vm (rows encT l) := by rw [U_single]; exact hTl
      refine ao_on rfl rfl (ao_r (rig_move rfl rfl) rfl (ao_on rfl rfl ?_))
      refine ao_x (ex_appendNil (by_ := 32) rfl (Dj_single m8) rfl rfl Tryz.underlying23 inf32 rfl (by decide) (by decide) hsl (one_rows encT_one _) (by omega)) rfl fun w1 m9 ⟨y1, hO1, hm9, hD9⟩ => ?_
      subst hm9
      refine ao_on rfl rfl (ao_r (rig_move rfl rfl) rfl (ao_on rfl rfl ?_))
      refine ao_x (ex_append 0 (by_ := 32) rfl hD9 rfl rfl Tryz.underlying23 inf32 rfl (by decide) (by decide) hO1 rfl (RdSl.le hrw (le_at 1 hD9 rfl)) (one_rows encT_one _) hbl) rfl fun w2 m10 ⟨y2, hO2, hm10, hD10⟩ => ?_
      subst hm10
      rw [← rows_append] at hO2
      replace hD10 : Dj [y2, m8] := hD10
      have hle10 : HpLe m8 (U [y2, m8]) := le_at 1 hD10 rfl
      have h20b := Fz20 (U [y2, m8]) w2 (l ++ raw) (RdSl.le hO2.rd (le_at 0 hD10 rfl)) (fun t ht => ⟨(hboth t ht).1.le hle10, (hboth t ht).2.1⟩) (by rw [List.length_append]; omega)
      refine ao_on rfl rfl (ao_r (rig_call rfl rfl ez20 h20b) rfl (ao_on rfl rfl (ao_r (rig_move rfl rfl) rfl (ao_on rfl rfl ?_))))
      refine ao_x (ex_appendNil (L := [y2, m8]) (by_ := 32) rfl hD10 rfl rfl Tryz.underlying23 inf32 rfl (by decide) (by decide) (RdSl.le hTl hle10) (one_rows encT_one _) (by omega)) rfl fun w3 m11 ⟨y3, hO3, hm11, hD11⟩ => ?_
      subst hm11
      refine ao_on rfl rfl (ao_r (rig_move rfl rfl) rfl (ao_on rfl rfl ?_))
      refine ao_x (ex_append 0 (by_ := 32) rfl hD11 rfl rfl Tryz.underlying23 inf32 rfl (by decide) (by decide) hO3 rfl (RdSl.le hrw (le_at 2 hD11 rfl)) (one_rows encT_one _) hbl) rfl fun w4 m12 ⟨y4, hO4, hm12, hD12⟩ => ?_
      subst hm12
      rw [← rows_append] at hO4
      replace hD12 : Dj [y4, y2, m8] := hD12
      have hle12 : HpLe m8 (U [y4, y2, m8]) := le_at 2 hD12 rfl
      have h21b := Fz21 (U [y4, y2, m8]) w4 (l ++ raw) (RdSl.le hO4.rd (le_at 0 hD12 rfl)) (fun t ht => ⟨(hboth t ht).1.le hle12, (hboth t ht).2⟩) (by rw [List.length_append]; omega)
      refine ao_on rfl rfl (ao_r (rig_call rfl rfl ez21 h21b) rfl (ao_on rfl rfl (ao_r (rig_beql rfl Tryz.underlying4 rfl rfl) rfl ?_)))
      rw [decide_eq_true rfl]
      refine ao_r (rig_pickT rfl rfl rfl) rfl (ao_r (rig_assign rfl rfl) rfl (ao_nil ?_))
      exact awp_ret ⟨_, res1 Tryz.results3 rfl, rfl, hend.trans hle12⟩
  -- the change of a count
  refine awp_rs (ao_r (rig_move rfl rfl) rfl ?_)
  obtain ⟨Aa, ca, rfl, _⟩ := RdSl.form encT_len (by decide) hTsG
  refine ao_r (rig_lenSl rfl rfl Tryz.underlying23) rfl (ao_r (rig_gtr rfl rfl rfl) rfl ?_)
  by_cases hpos : (0 : Int) < (ts.length : Int)
  · rw [decide_eq_true hpos]
    refine ao_r (rig_move rfl rfl) rfl (ao_on rfl rfl (ao_r (rig_move rfl rfl) rfl (ao_on rfl rfl ?_)))
    refine ao_x (ex_call (vs := [_, _]) rfl rfl ez7 (Fz7 m1 p _ m4 5 hC4)) rfl fun u m5 ⟨k, hu, hk, hC5⟩ => ?_
    subst hu
    refine ao_on rfl rfl (ao_r (rig_eql rfl rfl rfl) rfl (ao_r (rig_pickT rfl rfl rfl) rfl (ao_nil ?_)))
    refine awp_if rfl (fun h4 => ?_) (fun h4 => awp_skip (hnext _ ts G m5 hC5 hDG (HpLe.refl _) hTsG hoksG hSS htl htz _ ⟨rfl, rfl, rfl, rfl, rfl, rfl, trivial⟩))
    obtain ⟨cg, hcg, rfl, hDg⟩ := outL hC5 hDG
    refine awp_rs (ao_r (rig_move rfl rfl) rfl ?_)
    refine ao_x (ex_appendNil (by_ := 32) rfl hDg rfl rfl Tryz.underlying23 inf32 rfl (by decide) (by decide) (RdSl.le hTsG (le_at 2 hDg rfl)) (one_rows encT_one _) (by rw [rows_length encT_len]; omega)) rfl fun w1 m6 ⟨Yn, hOn, hm6, hD6⟩ => ao_r (rig_assign rfl rfl) rfl (ao_nil ?_)
    subst hm6
    obtain ⟨e7, hD7⟩ := U_swap 0 hD6
    replace hD7 : Dj [cg, Yn, x, G] := hD7
    have hC7 : CodH m1 p 44 (U [Yn, x, G]) (U [cg, Yn, x, G]) := backL hcg hD7 (hm1G.trans (le_at 2 hD7.2 rfl))
    rw [e7]
    show AWp _ _ _ _ _ (U [cg, Yn, x, G])
    obtain ⟨g, cap3, sp, rfl, rfl, hsp, hnc, hcm⟩ := hOn.some_ encT_len (by decide) (by omega)
    generalize U [cg, Go.Aw.one g (.cells (rows encT ts ++ sp).toArray 32 (0, 0)), x, G] = m7 at hC7
    refine awp_region (ao_r (rig_move rfl rfl) rfl (ao_r (rig_move rfl rfl) rfl (ao_r (rig_move rfl rfl) rfl (ao_r (rig_lenSl rfl rfl Tryz.underlying23) rfl ?_))))
    refine ao_x (ex_call (vs := [_, _]) rfl rfl ez7 (Fz7 m1 p _ m7 _ hC7)) rfl fun u m8 ⟨k2, hu, hk2, hC8⟩ => ?_
    subst hu
    have hk3 : k2 < ts.length := by omega
    obtain ⟨y, hy⟩ := get_lt hk3
    obtain ⟨cg8, hcg8, rfl, hD8⟩ := outL hC8 hD7.2
    refine ao_r (rig_ix k2 rfl rfl rfl Tryz.underlying23 Tryz.sizeOf32 rfl rfl hk3) rfl (ao_r (rig_fieldAddr rfl rfl Tryz.underlying32 rfl Tryz.sizeOf3 rfl) rfl ?_)
    refine ao_x0 (ex_store (i := 1) rfl hD8 rfl rfl Tryz.sizeOf3 (by simp [Value.cells, Value.oneCell']) rfl (by simp [Value.cells, rows_length encT_len]; omega)) fun u m9 ⟨_, hm9, hD9⟩ => ao_nil ?_
    subst hm9
    have erow : putR (rows encT ts ++ sp).toArray (0 + k2 * 2 + 1) [.int .i64 9223372036854775807] = (rows encT (ts.set k2 { y with cnt := 9223372036854775807 }) ++ sp).toArray := by
      rw [Nat.zero_add]; exact putR_cnt ts _ y _ sp hy
    have key : ∃ Yn', HpLe Yn' Yn' ∧ U ([cg8, Go.Aw.one g (.cells (rows encT ts ++ sp).toArray 32 (0, 0)), x, G].set 1 (Go.Aw.one g (.cells (putR (rows encT ts ++ sp).toArray (0 + k2 * 2 + 1) (Value.int .i64 9223372036854775807).cells.toList) 32 (0, 0)))) = U [cg8, x, U [Yn', G]] ∧ Dj [cg8, x, U [Yn', G]] ∧ HpLe G (U [Yn', G]) ∧ Tms (U [Yn', G]) (.slice (some ⟨g, 0, none⟩) ts.length cap3) (ts.set k2 { y with cnt := 9223372036854775807 }) := by
      refine ⟨Go.Aw.one g (.cells (rows encT (ts.set k2 { y with cnt := 9223372036854775807 }) ++ sp).toArray 32 (0, 0)), HpLe.refl _, ?_⟩
      have h9 : Dj [cg8, Go.Aw.one g (.cells (rows encT (ts.set k2 { y with cnt := 9223372036854775807 }) ++ sp).toArray 32 (0, 0)), x, G] := by rw [← erow]; exact hD9
      have h10 : U [cg8, Go.Aw.one g (.cells (rows encT (ts.set k2 { y with cnt := 9223372036854775807 }) ++ sp).toArray 32 (0, 0)), x, G] = U [cg8, x, Go.Aw.one g (.cells (rows encT (ts.set k2 { y with cnt := 9223372036854775807 }) ++ sp).toArray 32 (0, 0)), G] ∧ Dj [cg8, x, Go.Aw.one g (.cells (rows encT (ts.set k2 { y with cnt := 9223372036854775807 }) ++ sp).toArray 32 (0, 0)), G] := U_pm [0, 2, 1, 3] rfl h9
      have h11 := h10.1.trans (U_flat [cg8, x] _).symm
      rw [← erow] at h11
      refine ⟨?_, Dj_unflat (A := [cg8, x]) h10.2, le_at 1 h10.2.2.2 rfl, ?_⟩
      · rw [erow] at h11
        show U [cg8, Go.Aw.one g (.cells (putR (rows encT ts ++ sp).toArray (0 + k2 * 2 + 1) [.int .i64 9223372036854775807]) 32 (0, 0)), x, G] = _
        rw [erow]; exact h11
      · have hO := Own.mk_ (E := 32) (g := g) (cap := cap3) (sp := sp) (l := ts.set k2 { y with cnt := 9223372036854775807 }) encT_len (by rw [List.length_append, rows_length encT_len] at hsp ⊢; rw [List.length_set]; exact hsp) (by rw [List.length_set]; exact hnc) hcm
        rw [List.length_set] at hO
        exact RdSl.le hO.rd U_le_head
    obtain ⟨Yn', _, e9, hD10, hG10, hT10⟩ := key
    show K8 _ (U ([cg8, Go.Aw.one g (.cells (rows encT ts ++ sp).toArray 32 (0, 0)), x, G].set 1 (Go.Aw.one g (.cells (putR (rows encT ts ++ sp).toArray (0 + k2 * 2 + 1) (Value.int .i64 9223372036854775807).cells.toList) 32 (0, 0)))))
    rw [e9]
    have hC10 : CodH m1 p 44 (U [x, U [Yn', G]]) (U [cg8, x, U [Yn', G]]) := backL hcg8 hD10 (hm1G.trans (hG10.trans (le_at 1 hD10.2 rfl)))
    refine hnext _ _ _ _ hC10 hD10.2 hG10 hT10 (fun t ht => ?_) ?_ (by rw [List.length_set]; exact htl) (fun t ht => by
        rcases List.mem_or_eq_of_mem_set ht with h | h
        · exact htz t h
        · rw [h]; exact htz y (List.mem_of_getElem? hy)) _ ⟨rfl, rfl, rfl, rfl, rfl, rfl, trivial⟩
    · rcases List.mem_or_eq_of_mem_set ht with h | h
      · exact (hoksG t h).le hG10
      · rw [h]; exact (hoksG y (List.mem_of_getElem? hy)).le hG10
    · rw [keys, List.map_set]
      exact hSS.set (ts := y.toks) (x := y.cnt) (keys_get hy) ⟨by show (1 : Int) ≤ 9223372036854775807; decide, by show (9223372036854775807 : Int) ≤ 9223372036854775807; decide⟩
  · rw [decide_eq_false hpos]
    refine ao_r (rig_move rfl rfl) rfl (ao_no rfl rfl rfl rfl (ao_no rfl rfl rfl rfl (ao_no rfl rfl rfl rfl (ao_r (rig_pickF rfl rfl rfl) rfl (ao_nil ?_)))))
    exact awp_false rfl (awp_skip (hnext _ ts G m4 hC4 hDG (HpLe.refl _) hTsG hoksG hSS htl htz _ ⟨rfl, rfl, rfl, rfl, rfl, rfl, trivial⟩))
end Go.Proofs.YtmofaabndjnhjaaGreat
/- The law MinerSteps holds: 'MinerStepsUptoSaid'; no condition but the row's own: what the arguments hold together is of bulk at most 1048576. -/
set_option linter.unusedVariables false
namespace Go.Proofs.YtmofaabndjnhjaaGreat.minerSteps
open Go.ChangeShapes Go.WideShapes Go.ChangeAt Go.RowKit
set_option maxRecDepth 100000 in
theorem contract (H : Type) (enc : TypeId × Value → H) (W : World) (base : Nat) (args : Array Value) (ds gs : List (DataW H)) (before : List MemPlace)
    (hval : ∀ (j : Nat) t v, Tryz.f3.params[j]? = some t → args[j]? = some v → Value.okWide Tryz.prog W .any base t v)
    (hW : DataW.Whole enc Tryz.prog Tryz.f3.params.toList Rows.minerStepsSpec.vars false W args.toList ds gs before) (hk : Rows.uptoSmall H (ds ++ gs) = true) :
    Calls Tryz.prog 3 args W fun e W' => ∃ v, e = .returned v ∧ Rows.minerStepsSpec.post enc Tryz.prog Tryz.f3 false true false false W args v W' := by
  have hW' := hW
  obtain ⟨p, q, hA0, hV, rfl, hfz, hnd⟩ := hW
  have hA : DataW.TrodAll enc Tryz.prog W 0 (fun _ => true) true Tryz.f3.params.toList args.toList ds p := hA0
  obtain ⟨rfl, rfl⟩ := trodVars_none hV
  have hb := bulk_bound hk
  rw [List.append_nil] at hb
  rw [Tryz.params3] at hA hval
  obtain ⟨v0, vs0, d0, ds0, p0, q0, hargs, rfl, rfl, h0, r0⟩ := trodAll_cons hA
  obtain ⟨v1, vs1, d1, ds1, p1, q1, rfl, rfl, rfl, h1, r1⟩ := trodAll_cons r0
  obtain ⟨v2, vs2, d2, ds2, p2, q2, rfl, rfl, rfl, h2, r2⟩ := trodAll_cons r1
  obtain ⟨rfl, rfl, rfl⟩ := trodAll_nil r2
  obtain rfl : args = #[v0, v1, v2] := by cases args; simp_all
  obtain ⟨A0, c0, l0, rfl, hr0, hc0, hl0⟩ := open_bytes (hval 0 22 v0 rfl rfl) h0 (Nat.le_trans (bulk_mem (List.mem_cons_self ..)) hb)
  obtain ⟨s0, rfl, hs0⟩ := open_str (hval 1 9 v1 rfl rfl) h1 (Nat.le_trans (bulk_mem (List.mem_cons_of_mem _ (List.mem_cons_self ..))) hb)
  obtain ⟨A2, c2, raw, rfl, hr2, hz2, hl2, hc2⟩ := open_tms (hval 2 23 v2 rfl rfl) h2 (Nat.le_trans (bulk_mem (List.mem_cons_of_mem _ (List.mem_cons_of_mem _ (List.mem_cons_self ..)))) hb)
  refine (Fz3 (Go.Aw.all W) A0 A2 c0 c2 l0 s0 raw hr0 hr2 (fun t ht => ⟨(hz2 t ht).1, (hz2 t ht).2.1, (hz2 t ht).2.2.1⟩) hc0 hl0 hs0 W W (Go.Aw.sat_all W)).mono fun e W' ⟨he, hbel⟩ => ⟨_, he, law_post rfl (by kernel_rfl) rfl ?_ hW' hbel.toBelow⟩
  rw [Tryz.params3]
  intro t ht
  simp at ht
  rcases ht with rfl | rfl | rfl <;> exact ⟨by kernel_rfl, of_decide_eq_true (by kernel_rfl)⟩
set_option maxRecDepth 100000 in
theorem lifted (os : Os) (started : os.Started) (H : Type) (enc : TypeId × Value → H) (F : Stop.Interp) :
    ReturnsInHanded {} Tryz.checked os 3 .any ((Rows.OpenSpec.upto Rows.minerStepsSpec).pre6 enc Tryz.prog Tryz.f3 Rows.minerStepsUptoRow.domain false) (((Rows.OpenSpec.upto Rows.minerStepsSpec).at F).post enc Tryz.prog Tryz.f3 false true false false) := by
  refine returnsInHanded_of_cond (C := Tryz.checked) (s := Rows.OpenSpec.upto Rows.minerStepsSpec) (k := Rows.uptoSmall) rfl ownK started (by kernel_rfl) Tryz.func3
    (OpenSpec.witness (enc := enc) (C := Tryz.checked) (s := Rows.OpenSpec.upto Rows.minerStepsSpec) (k := Rows.uptoSmall) rfl false ⟨#[], #[.slice none 0 0, .string ⟨#[]⟩, .slice none 0 0], []⟩ 8 (by kernel_rfl) (by kernel_rfl) (by kernel_rfl)
      (x := ([.nil, .lit (.string []), .nil], [], [])) (by kernel_rfl) rfl (by kernel_rfl)) ?_
  intro W base args ds gs before hval hW _ hk _
  exact contract H enc W base args ds gs before hval hW hk
theorem over : Rows.minerStepsUptoRow.holds Tryz.pinned (Rows.OpenSpec.upto Rows.minerStepsSpec) :=
  OpenClaim.holds_of_cond 3 Tryz.f3 rfl rfl rfl rfl rfl rfl rfl ⟨rfl, rfl, rfl, rfl, rfl⟩ rfl rfl rfl rfl rfl (by kernel_rfl) Tryz.func3 (by kernel_rfl)
    (of_decide_eq_true (by kernel_rfl)) (by unfold Func.isWrapper; first | (rw [if_pos (by decide +kernel)]; kernel_rfl) | (rw [if_neg (by decide +kernel)]; exact ⟨rfl, rfl⟩))
    (fun os started H enc _ F => lifted os started H enc F)
theorem proved : Rows.MinerStepsUptoSaid :=
  over
end Go.Proofs.YtmofaabndjnhjaaGreat.minerSteps
namespace Go.Proofs.YtmofaabndjnhjaaGreat
theorem minerSteps_holds : Rows.MinerStepsUptoSaid := minerSteps.proved
end Go.Proofs.YtmofaabndjnhjaaGreat
