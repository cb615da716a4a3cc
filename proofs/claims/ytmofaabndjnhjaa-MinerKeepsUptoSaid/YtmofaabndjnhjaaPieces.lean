/- The law TemplateCounted: its walk. -/
import Derived.Test.YtmofaabndjnhjaaOrder
import Derived.Test.YtmofaabndjnhjaaPlain
set_option linter.unusedVariables false
namespace Go.Proofs.Ytmofaabndjnhjaa
open Go Go.Aw Go.Pl Go.RowKit
theorem outL {mb m : Hp} {p : Nat} {T : TypeId} {L : List Hp} (h : CodH mb p T (U L) m) (hD : Dj L) : ∃ c, Cod mb p T c ∧ m = U (c :: L) ∧ Dj (c :: L) := by
  obtain ⟨c, hc, h1, rfl, _⟩ := h
  exact ⟨c, hc, U_flat [c] L, Dj_flat (A := [c]) h1 hD⟩
theorem backL {mb c : Hp} {p : Nat} {T : TypeId} {L : List Hp} (hc : Cod mb p T c) (hD : Dj (c :: L)) (hl : HpLe mb (U L)) : CodH mb p T (U L) (U (c :: L)) :=
  ⟨c, hc, Dj_unflat (A := [c]) hD, (U_flat [c] L).symm, hl⟩
/-- A new piece joins what is only read beside the generator and two rows. -/
theorem sinkG {x c a b F : Hp} (hD : Dj [x, c, a, b, F]) : U [x, c, a, b, F] = U [c, a, b, U [x, F]] ∧ Dj [c, a, b, U [x, F]] ∧ HpLe F (U [x, F]) ∧ HpLe x (U [x, F]) := by
  have h : U [x, c, a, b, F] = U [c, a, b, x, F] ∧ Dj [c, a, b, x, F] := U_pm [1, 2, 3, 0, 4] rfl hD
  exact ⟨h.1.trans (U_flat [c, a, b] _).symm, Dj_unflat (A := [c, a, b]) h.2, le_at 1 h.2.2.2.2 rfl, U_le_head⟩
theorem sinkG2 {x y c a b F : Hp} (hD : Dj [x, y, c, a, b, F]) : U [x, y, c, a, b, F] = U [c, a, b, U [x, y, F]] ∧ Dj [c, a, b, U [x, y, F]] ∧ HpLe F (U [x, y, F]) ∧ HpLe x (U [x, y, F]) := by
  have h : U [x, y, c, a, b, F] = U [c, a, b, x, y, F] ∧ Dj [c, a, b, x, y, F] := U_pm [2, 3, 4, 0, 1, 5] rfl hD
  exact ⟨h.1.trans (U_flat [c, a, b] _).symm, Dj_unflat (A := [c, a, b]) h.2, le_at 2 h.2.2.2.2 rfl, U_le_head⟩
theorem lineE_app (a b : List ByteArray) : lineE (a ++ b) = lineE a ++ lineE b := List.filterMap_append
theorem lineE_rep (n : Nat) (s : ByteArray) : lineE (List.replicate n s) = match toksOf s with | some ts => List.replicate n (ts, 1) | none => [] := by
  rw [lineE, List.filterMap_replicate]
  cases toksOf s <;> rfl
theorem posE_app {a b : List El} (ha : posE a) (hb : posE b) : posE (a ++ b) := fun t ht => by
  rcases List.mem_append.1 ht with h | h
  · exact ha t h
  · exact hb t h
theorem expE_ones (n : Nat) (x : List ByteArray) : expE (List.replicate n ((x, 1) : El)) = List.replicate n (x, 1) := by
  induction n with
  | zero => rfl
  | succ n ih => rw [List.replicate_succ, expE_cons, ih]; rfl
/-- What the loop over the lines keeps. -/
structure Cn (m3 : Hp) (p2 : Nat) (va vt : Value) (all : List ByteArray) (t : List Tm) (Ya Yt F mm : Hp) : Prop where
  gen : CodH m3 p2 58 (U [Ya, Yt, F]) mm
  dj : Dj [Ya, Yt, F]
  le : HpLe m3 F
  oa : Own 9 1 Ya va (rows encS all)
  ot : Own 33 2 Yt vt (rows encT t)
  ok : ∀ x ∈ t, x.Ok F
theorem Cn.leF {m3 Ya Yt F : Hp} (hD : Dj [Ya, Yt, F]) (h : HpLe m3 F) : HpLe m3 (U [Ya, Yt, F]) := h.trans (le_at 2 hD rfl)
theorem e5 : Enters Try.prog 5 := enters_of Try.func5 (by kernel_rfl) rfl
set_option maxHeartbeats 8000000 in
set_option maxRecDepth 100000 in
theorem F5 (m : Hp) (A0 A1 : Option Addr) (c0 c1 : Nat) (l0 l1 : List UInt8) (h0 : RdSl m encB 1 (.slice A0 l0.length c0) l0) (h1 : RdSl m encB 1 (.slice A1 l1.length c1) l1) (hc0 : l0.length ≤ c0) (hc1 : l1.length ≤ c1) (hl0 : l0.length ≤ 1048576) (hl1 : l1.length ≤ 1048576) :
    RC Try.prog 5 #[.slice A0 l0.length c0, .slice A1 l1.length c1] m (.bool true) := by
  refine rc_of_gc fun m1 hm => gc_intro (vs := [_, _]) Try.func5 rfl Try.ntmps5 (by simp) ?_
  refine awp_rs (ao_r (rig_assign rfl rfl) rfl (ao_nil ?_))
  refine awp_sk fun K5 hK5 => awp_rs ?_
  refine ao_r (rig_call (vs := []) rfl rfl e9 (F9 m1)) rfl (ao_r (rig_not rfl rfl) rfl (ao_nil ?_))
  refine awp_false rfl (awp_skip (hK5 _ _ (awp_rs ?_)))
  refine ao_r (rig_move rfl rfl) rfl ?_
  refine ao_x (ex_call (vs := [_, _]) rfl rfl e10 (F10 m1 A0 c0 l0 200 (RdSl.le h0 hm) hc0 (by omega) (by decide))) rfl fun u m2 ⟨p, hu, hC2⟩ => ?_
  subst hu
  refine ao_x (ex_call (vs := [_, _]) rfl rfl e11 (F11 m1 p m1 m2 16 (by decide) hC2)) rfl fun vl m3 ⟨ls, x, F', hll, hsz, hOx, hDx, hFx, hC3⟩ => ?_
  refine ao_r (rig_assign rfl rfl) rfl (ao_nil ?_)
  have hx3 : HpLe x m3 := (le_at 0 hDx rfl).trans hC3.le
  have h13 : HpLe m1 m3 := hFx.trans ((le_at 1 hDx rfl).trans hC3.le)
  have hst3 : Strs m3 vl ls := RdSl.le hOx.rd hx3
  refine awp_rs (ao_r (rig_move rfl rfl) rfl ?_)
  refine ao_x (ex_call (vs := [_, _]) rfl rfl e10 (F10 m3 A1 c1 l1 40 (RdSl.le h1 (hm.trans h13)) hc1 (by omega) (by decide))) rfl fun u m4 ⟨p2, hu, hC4⟩ => ?_
  subst hu
  refine ao_r (rig_assign rfl rfl) rfl (ao_nil ?_)
  have hCn0 : Cn m3 p2 (.slice none 0 0) (.slice none 0 0) [] [] hp0 hp0 m3 m4 := by
    have e : U [hp0, hp0, m3] = m3 := by rw [U_hp0, U_hp0, U_single]
    exact ⟨by rw [e]; exact hC4, Dj_hp0 (Dj_hp0 (Dj_single m3)), HpLe.refl _, Own.nil 9 1, Own.nil 33 2, by simp⟩
  refine awp_rs (ao_r (rig_assign rfl rfl) rfl (ao_nil ?_))
  refine awp_rs (ao_r (rig_assign rfl rfl) rfl (ao_nil ?_))
  obtain ⟨Al, cl, rfl⟩ := hOx.len encS_len (by decide)
  refine awp_sk fun K6 hK6 => awp_rs ?_
  refine ao_r (rig_move rfl rfl) rfl (ao_r (rig_lenSl rfl rfl Try.underlying22) rfl (ao_r (rig_move rfl rfl) rfl (ao_nil ?_)))
  refine awp_block ?_
  refine awp_le [(6, .pointer (some ⟨p2, 0, none⟩)), (7, .slice none 0 0), (8, .slice none 0 0), (23, .slice Al ls.length cl), (24, .int .i64 ls.length), (25, .int .i64 (0 : Nat))] ⟨rfl, rfl, rfl, rfl, rfl, rfl, trivial⟩ ?_
  refine awp_loop (fun kk r mm => ∃ (i : Nat) (va vt : Value) (all : List ByteArray) (t : List Tm) (Ya Yt F : Hp), i ≤ ls.length ∧ kk = ls.length - i ∧ r = [(6, .pointer (some ⟨p2, 0, none⟩)), (7, va), (8, vt), (23, .slice Al ls.length cl), (24, .int .i64 ls.length), (25, .int .i64 i)] ∧
      Cn m3 p2 va vt all t Ya Yt F mm ∧ all.length ≤ 3 * i ∧ t.length ≤ 3 * i ∧ (∀ s ∈ all, s ∈ ls) ∧ posE (keys t) ∧ expE (keys t) = lineE all) _
    ⟨0, _, _, [], [], hp0, hp0, m3, by omega, rfl, rfl, hCn0, by simp, by simp, by simp, (fun x hx => by cases hx), rfl⟩ ?_
  clear hCn0 hC4 hC2
  rintro kk r mm ⟨i, va, vt, all, t, Ya, Yt, F, hi, rfl, rfl, hN, hla, hlt, hmem, hpos, hexp⟩
  refine awp_rs (ao_r (rig_lss rfl rfl rfl) rfl (ao_nil ?_))
  refine awp_sk fun K7 hK7 => ?_
  refine awp_if rfl (fun h => ?_) (fun h => ?_)
  · refine awp_skip (hK7 _ _ (awp_sk fun K8 hK8 => awp_block (awp_rs ?_)))
    obtain ⟨s, hs⟩ := get_lt (l := ls) (i := i) (by omega)
    have hsm := List.mem_of_getElem? hs
    obtain ⟨b, off, cap', e, hsc⟩ := Strs.get (RdSl.le hst3 ((Cn.leF hN.dj hN.le).trans hN.gen.le)) hs
    simp only [Value.slice.injEq] at e
    obtain ⟨rfl, _, rfl⟩ := e
    refine ao_r (rig_ix i rfl rfl rfl Try.underlying22 Try.sizeOf9 rfl rfl (by omega)) rfl (ao_r (rig_load1 rfl rfl Try.isAgg9 hsc) rfl (ao_r (rig_assign rfl rfl) rfl (ao_nil ?_)))
    obtain ⟨cg, hcg, rfl, hDg⟩ := outL hN.gen hN.dj
    refine awp_rs (ao_r (rig_move rfl rfl) rfl ?_)
    refine ao_x (ex_call rfl rfl e17 (F17 (U [cg, Ya, Yt, F]) s (Nat.le_trans (hsz s hsm) (by decide)))) rfl fun u m2 hfr => ?_
    obtain ⟨c2, F2, hD2, rfl, hR⟩ := Fresh.at hDg hfr
    obtain ⟨e3, hD3, hF3, hc3⟩ := sinkG2 hD2
    -- the end of a round
    have hfin : ∀ (va' vt' : Value) (all' : List ByteArray) (t' : List Tm) (Ya' Yt' F' mm' : Hp), Cn m3 p2 va' vt' all' t' Ya' Yt' F' mm' → all'.length ≤ 3 * (i + 1) → t'.length ≤ 3 * (i + 1) → (∀ s ∈ all', s ∈ ls) → posE (keys t') → expE (keys t') = lineE all' → ∀ r', EnvLe [(6, .pointer (some ⟨p2, 0, none⟩)), (7, va'), (8, vt'), (23, .slice (some ⟨b, off, none⟩) ls.length cl), (24, .int .i64 ls.length), (25, .int .i64 i)] r' → K8 r' mm' := fun va' vt' all' t' Ya' Yt' F' mm' hN' h1' h2' h3' h4' h5' r' hr => by
      refine hK8 _ _ (awp_le _ hr (awp_region ?_))
      refine ao_r (rig_add (c := ((i + 1 : Nat) : Int)) rfl rfl rfl (w64 _ (by omega) (by omega))) rfl (ao_r (rig_move rfl rfl) rfl (ao_nil ?_))
      exact ⟨[(6, .pointer (some ⟨p2, 0, none⟩)), (7, va'), (8, vt'), (23, .slice (some ⟨b, off, none⟩) ls.length cl), (24, .int .i64 ls.length), (25, .int .i64 (i + 1 : Nat))], _, ⟨rfl, rfl, rfl, rfl, rfl, rfl, trivial⟩, by omega, i + 1, va', vt', all', t', Ya', Yt', F', by omega, rfl, rfl, hN', h1', h2', h3', h4', h5'⟩
    have hleN : ∀ {Y1 Y2 G : Hp}, Dj [cg, Y1, Y2, G] → HpLe F G → HpLe m3 (U [Y1, Y2, G]) := fun hd hl => Cn.leF hd.2 (hN.le.trans hl)
    have hC5 := backL hcg hD3 (hleN hD3 hF3)
    have hN5 : Cn m3 p2 va vt all t Ya Yt (U [c2, F2, F]) (U [cg, Ya, Yt, U [c2, F2, F]]) := ⟨hC5, hD3.2, hN.le.trans hF3, hN.oa, hN.ot, fun x hx => (hN.ok x hx).le hF3⟩
    generalize U [c2, F2, F] = G at hN5 hF3 hc3 e3
    obtain ⟨vt1, bo, hu, hR2⟩ : ∃ (v1 : Value) (bo : Bool), u = .tuple #[v1, .bool bo] ∧ ((bo = false ∧ toksOf s = none) ∨ (bo = true ∧ ∃ ts, toksOf s = some ts ∧ Own 9 1 c2 v1 (rows encS ts))) := by
      rcases hR with ⟨h1, rfl⟩ | ⟨ts, v, h1, rfl, h2⟩
      · exact ⟨_, _, rfl, .inl ⟨rfl, h1⟩⟩
      · exact ⟨_, _, rfl, .inr ⟨rfl, ts, h1, h2⟩⟩
    subst hu
    refine ao_r (rig_move rfl rfl) rfl (ao_r (rig_extract rfl rfl rfl) rfl (ao_r (rig_extract rfl rfl rfl) rfl (ao_r (rig_assign rfl rfl) rfl (ao_r (rig_assign rfl rfl) rfl (ao_nil ?_)))))
    rw [e3]
    generalize U [cg, Ya, Yt, G] = mm5 at hN5
    refine awp_rs (ao_r (rig_move rfl rfl) rfl ?_)
    refine ao_x (ex_call (vs := [_, _]) rfl rfl e20 (F20 m3 p2 (U [Ya, Yt, G]) mm5 3 hN5.gen)) rfl fun u m6 ⟨k, hu, hk, hC6⟩ => ?_
    subst hu
    refine ao_r (rig_add (c := ((k + 1 : Nat) : Int)) rfl rfl rfl (by rw [Int.add_comm]; exact w64 _ (by omega) (by omega))) rfl (ao_r (rig_assign rfl rfl) rfl (ao_nil ?_))
    have hN6 : Cn m3 p2 va vt all t Ya Yt G m6 := ⟨hC6, hN5.dj, hN5.le, hN5.oa, hN5.ot, hN5.ok⟩
    have hk3 : k ≤ 2 := by omega
    clear hN5 hC6 hC5 e3 hfr hR hD2 hD3
    refine awp_sk fun K9 hK9 => awp_rs (ao_r (rig_assign rfl rfl) rfl (ao_nil ?_))
    refine awp_block ?_
    refine awp_le [(6, .pointer (some ⟨p2, 0, none⟩)), (7, va), (8, vt), (10, .string s), (11, vt1), (12, .bool bo), (13, .int .i64 (k + 1 : Nat)), (14, .int .i64 (0 : Nat)), (23, .slice (some ⟨b, off, none⟩) ls.length cl), (24, .int .i64 ls.length), (25, .int .i64 i)] ⟨rfl, rfl, rfl, rfl, rfl, rfl, rfl, rfl, rfl, rfl, rfl, trivial⟩ ?_
    refine awp_loop (fun kk r mm => ∃ (j : Nat) (va' : Value) (Ya' F' : Hp), j ≤ k + 1 ∧ kk = k + 1 - j ∧ r = [(6, .pointer (some ⟨p2, 0, none⟩)), (7, va'), (8, vt), (10, .string s), (11, vt1), (12, .bool bo), (13, .int .i64 (k + 1 : Nat)), (14, .int .i64 j), (23, .slice (some ⟨b, off, none⟩) ls.length cl), (24, .int .i64 ls.length), (25, .int .i64 i)] ∧ Cn m3 p2 va' vt (all ++ List.replicate j s) t Ya' Yt F' mm ∧ HpLe G F') _
      ⟨0, va, Ya, G, by omega, rfl, rfl, by simpa using hN6, HpLe.refl _⟩ ?_
    clear hN6
    rintro kk r mm ⟨j, va', Ya', F', hj, rfl, rfl, hN7, hGF⟩
    refine awp_sk fun K10 hK10 => awp_rs ?_
    refine ao_r (rig_move rfl rfl) rfl (ao_r (rig_move rfl rfl) rfl (ao_r (rig_lss rfl rfl rfl) rfl (ao_nil ?_)))
    refine awp_if rfl (fun h2 => ?_) (fun h2 => ?_)
    · refine awp_skip (hK10 _ _ (awp_sk fun K11 hK11 => awp_block (awp_region ?_)))
      obtain ⟨cg7, hcg7, rfl, hD7⟩ := outL hN7.gen hN7.dj
      refine ao_r (rig_move rfl rfl) rfl (ao_r (rig_move rfl rfl) rfl ?_)
      refine ao_x (ex_buildSlice rfl hD7 rfl Try.underlying22 Try.sizeOf9 Try.zeroValue9 (by decide) (by decide) (fill_one rfl (rangeMap_size _ _))) rfl fun u m8 ⟨b8, hu, hm8, hD8⟩ => ?_
      subst hu hm8
      have hsrc : Go.Aw.Src (U (Go.Aw.one b8 (.cells (Value.string s).cells 9 (0, 0)) :: [cg7, Ya', Yt, F'])) 1 (.slice (some ⟨b8, 0, none⟩) 1 1) (rows encS [s]) := src_one encS_len ((cellsAt_one b8 #[.string s] 9).le U_le_head)
      refine ao_x (ex_append 2 (by_ := 16) rfl hD8 rfl rfl Try.underlying22 inf9 rfl (by decide) (by decide) hN7.oa rfl hsrc (one_rows encS_one _) (by rw [rows_length encS_len, rows_length encS_len]; simp; omega)) rfl fun u9 m9 ⟨Y9, hO9, hm9, hD9⟩ => ?_
      subst hm9
      rw [← rows_append] at hO9
      refine ao_r (rig_assign rfl rfl) rfl (ao_nil ?_)
      obtain ⟨e10, hD10, hF10, _⟩ := sinkG (x := Go.Aw.one b8 (.cells (Value.string s).cells 9 (0, 0))) (c := cg7) (a := Y9) (b := Yt) (F := F') hD9
      have hN10 : Cn m3 p2 u9 vt (all ++ List.replicate (j + 1) s) t Y9 Yt (U [Go.Aw.one b8 (.cells (Value.string s).cells 9 (0, 0)), F']) (U [cg7, Y9, Yt, U [Go.Aw.one b8 (.cells (Value.string s).cells 9 (0, 0)), F']]) :=
        ⟨backL hcg7 hD10 (Cn.leF hD10.2 (hN7.le.trans hF10)), hD10.2, hN7.le.trans hF10, by rw [List.replicate_succ', ← List.append_assoc]; exact hO9, hN7.ot, fun x hx => (hN7.ok x hx).le hF10⟩
      refine hK11 _ _ (awp_L e10 (awp_region ?_))
      refine ao_r (rig_move rfl rfl) rfl (ao_r (rig_add (c := ((j + 1 : Nat) : Int)) rfl rfl rfl (w64 _ (by omega) (by omega))) rfl (ao_r (rig_assign rfl rfl) rfl (ao_nil ?_)))
      exact ⟨[(6, .pointer (some ⟨p2, 0, none⟩)), (7, u9), (8, vt), (10, .string s), (11, vt1), (12, .bool bo), (13, .int .i64 (k + 1 : Nat)), (14, .int .i64 (j + 1 : Nat)), (23, .slice (some ⟨b, off, none⟩) ls.length cl), (24, .int .i64 ls.length), (25, .int .i64 i)], _, ⟨rfl, rfl, rfl, rfl, rfl, rfl, rfl, rfl, rfl, rfl, rfl, trivial⟩, by omega, j + 1, u9, Y9, _, by omega, rfl, rfl, hN10, hGF.trans hF10⟩
    · obtain rfl : j = k + 1 := by omega
      refine awp_exit (hK9 _ _ (awp_sk fun K12 hK12 => awp_rs ?_))
      have hla' : (all ++ List.replicate (k + 1) s).length ≤ 3 * (i + 1) := by rw [List.length_append, List.length_replicate]; omega
      have hmem' : ∀ x ∈ all ++ List.replicate (k + 1) s, x ∈ ls := fun x hx => by
        rcases List.mem_append.1 hx with h | h
        · exact hmem x h
        · rw [(List.mem_replicate.1 h).2]; exact hsm
      refine ao_r (rig_move rfl rfl) rfl (ao_r (rig_not rfl rfl) rfl (ao_nil ?_))
      rcases hR2 with ⟨rfl, hno⟩ | ⟨rfl, ts, hts, hOt⟩
      · refine awp_true rfl (awp_exit ?_)
        exact hfin va' vt _ t Ya' Yt F' mm hN7 hla' (by omega) hmem' hpos (by rw [lineE_app, lineE_rep, hno, hexp]; simp) _ ⟨rfl, rfl, rfl, rfl, rfl, rfl, trivial⟩
      · refine awp_false rfl (awp_skip (hK12 _ _ (awp_sk fun K13 hK13 => awp_rs ?_)))
        obtain ⟨At, ct, rfl⟩ := hOt.len encS_len (by decide)
        have hts8 : ∀ G', HpLe F' G' → Strs G' (.slice At ts.length ct) ts := fun G' hg => RdSl.le hOt.rd (hc3.trans (hGF.trans hg))
        refine ao_r (rig_move rfl rfl) rfl ?_
        refine ao_x (ex_call (vs := [_, _]) rfl rfl e20 (F20 m3 p2 (U [Ya', Yt, F']) mm 2 hN7.gen)) rfl fun u m8 ⟨k8, hu, hk8, hC8⟩ => ?_
        subst hu
        refine ao_r (rig_eql rfl rfl rfl) rfl (ao_nil ?_)
        have hN8 : Cn m3 p2 va' vt (all ++ List.replicate (k + 1) s) t Ya' Yt F' m8 := ⟨hC8, hN7.dj, hN7.le, hN7.oa, hN7.ot, hN7.ok⟩
        clear hN7 hC8
        refine awp_if rfl (fun h3 => ?_) (fun h3 => ?_)
        · refine awp_rs ?_
          obtain ⟨cg9, hcg9, rfl, hD9⟩ := outL hN8.gen hN8.dj
          refine ao_r (rig_move rfl rfl) rfl (ao_r (rig_move rfl rfl) rfl (ao_r (rig_move rfl rfl) rfl (ao_r (rig_build (pl := #[(0, 1), (1, 1)]) (cs := #[.slice At ts.length ct, .int .i64 (k + 1 : Nat)]) rfl rfl Try.underlying33 Try.zeroValue33 (fun w => by kernel_rfl) rfl) rfl ?_)))
          refine ao_x (ex_buildSlice rfl hD9 rfl Try.underlying29 Try.sizeOf33 Try.zeroValue33 (by decide) (by decide) (fill_one rfl (rangeMap_size _ _))) rfl fun u m10 ⟨b10, hu, hm10, hD10⟩ => ?_
          subst hu hm10
          have hsrc : Go.Aw.Src (U [Go.Aw.one b10 (.cells #[.slice At ts.length ct, .int .i64 (k + 1 : Nat)] 33 (0, 0)), cg9, Ya', Yt, F']) 2 (.slice (some ⟨b10, 0, none⟩) 1 1) (rows encT [⟨At, ts.length, ct, ts, (k + 1 : Nat)⟩]) := src_one encT_len ((cellsAt_one b10 #[.slice At ts.length ct, .int .i64 (k + 1 : Nat)] 33).le U_le_head)
          refine ao_x (ex_append 3 (by_ := 32) rfl hD10 rfl rfl Try.underlying29 inf33 rfl (by decide) (by decide) hN8.ot rfl hsrc (one_rows encT_one _) (by rw [rows_length encT_len, rows_length encT_len]; simp; omega)) rfl fun u11 m11 ⟨Y11, hO11, hm11, hD11⟩ => ?_
          subst hm11
          rw [← rows_append] at hO11
          refine ao_r (rig_assign rfl rfl) rfl (ao_nil ?_)
          obtain ⟨e12, hD12, hF12, _⟩ := sinkG (x := Go.Aw.one b10 (.cells #[.slice At ts.length ct, .int .i64 (k + 1 : Nat)] 33 (0, 0))) (c := cg9) (a := Ya') (b := Y11) (F := F') hD11
          refine awp_exit ?_
          have hN12 : Cn m3 p2 va' u11 (all ++ List.replicate (k + 1) s) (t ++ [⟨At, ts.length, ct, ts, (k + 1 : Nat)⟩]) Ya' Y11 _ (U [cg9, Ya', Y11, U [Go.Aw.one b10 (.cells #[.slice At ts.length ct, .int .i64 (k + 1 : Nat)] 33 (0, 0)), F']]) :=
            ⟨backL hcg9 hD12 (Cn.leF hD12.2 (hN8.le.trans hF12)), hD12.2, hN8.le.trans hF12, hN8.oa, hO11, fun x hx => by
              rcases List.mem_append.1 hx with h | h
              · exact (hN8.ok x h).le hF12
              · rw [List.mem_singleton.1 h]; exact hts8 _ hF12⟩
          have hk' : keys (t ++ [(⟨At, ts.length, ct, ts, (k + 1 : Nat)⟩ : Tm)]) = keys t ++ [(ts, ((k + 1 : Nat) : Int))] := by rw [keys, List.map_append]; rfl
          have := hfin va' u11 _ _ Ya' Y11 _ _ hN12 hla' (by rw [List.length_append]; simp; omega) hmem' (by
            rw [hk']
            refine posE_app hpos fun x hx => ?_
            rw [List.mem_singleton.1 hx]
            show (1 : Int) ≤ ((k + 1 : Nat) : Int) ∧ ((k + 1 : Nat) : Int) ≤ 9223372036854775807
            omega) (by rw [hk', expE_append, hexp, lineE_app, lineE_rep, hts]; simp [expE])
          rw [← e12] at this
          exact this _ ⟨rfl, rfl, rfl, rfl, rfl, rfl, trivial⟩
        · refine awp_skip (hK13 _ _ (awp_rs (ao_r (rig_assign rfl rfl) rfl (ao_nil ?_))))
          refine awp_block ?_
          refine awp_le [(6, .pointer (some ⟨p2, 0, none⟩)), (7, va'), (8, vt), (11, .slice At ts.length ct), (13, .int .i64 (k + 1 : Nat)), (15, .int .i64 (0 : Nat)), (23, .slice (some ⟨b, off, none⟩) ls.length cl), (24, .int .i64 ls.length), (25, .int .i64 i)] ⟨rfl, rfl, rfl, rfl, rfl, rfl, rfl, rfl, rfl, trivial⟩ ?_
          refine awp_loop (fun kk r mm => ∃ (j : Nat) (vt' : Value) (t' : List Tm) (Yt' F9 : Hp), j ≤ k + 1 ∧ kk = k + 1 - j ∧ r = [(6, .pointer (some ⟨p2, 0, none⟩)), (7, va'), (8, vt'), (11, .slice At ts.length ct), (13, .int .i64 (k + 1 : Nat)), (15, .int .i64 j), (23, .slice (some ⟨b, off, none⟩) ls.length cl), (24, .int .i64 ls.length), (25, .int .i64 i)] ∧ Cn m3 p2 va' vt' (all ++ List.replicate (k + 1) s) t' Ya' Yt' F9 mm ∧ HpLe F' F9 ∧ keys t' = keys t ++ List.replicate j (ts, 1)) _
            ⟨0, vt, t, Yt, F', by omega, rfl, rfl, hN8, HpLe.refl _, by simp⟩ ?_
          clear hN8
          rintro kk r mm ⟨q, vt', t', Yt', F9, hq, rfl, rfl, hN9, hF9, hk9⟩
          have hl9 : t'.length = t.length + q := by
            have h5 := congrArg List.length hk9
            simpa [keys] using h5
          refine awp_sk fun K14 hK14 => awp_rs ?_
          refine ao_r (rig_move rfl rfl) rfl (ao_r (rig_move rfl rfl) rfl (ao_r (rig_lss rfl rfl rfl) rfl (ao_nil ?_)))
          refine awp_if rfl (fun h4 => ?_) (fun h4 => ?_)
          · refine awp_skip (hK14 _ _ (awp_sk fun K15 hK15 => awp_block (awp_region ?_)))
            obtain ⟨cg9, hcg9, rfl, hD9⟩ := outL hN9.gen hN9.dj
            refine ao_r (rig_move rfl rfl) rfl (ao_r (rig_move rfl rfl) rfl (ao_r (rig_build (pl := #[(0, 1), (1, 1)]) (cs := #[.slice At ts.length ct, .int .i64 1]) rfl rfl Try.underlying33 Try.zeroValue33 (fun w => by kernel_rfl) rfl) rfl ?_))
            refine ao_x (ex_buildSlice rfl hD9 rfl Try.underlying29 Try.sizeOf33 Try.zeroValue33 (by decide) (by decide) (fill_one rfl (rangeMap_size _ _))) rfl fun u m10 ⟨b10, hu, hm10, hD10⟩ => ?_
            subst hu hm10
            have hsrc : Go.Aw.Src (U [Go.Aw.one b10 (.cells #[.slice At ts.length ct, .int .i64 1] 33 (0, 0)), cg9, Ya', Yt', F9]) 2 (.slice (some ⟨b10, 0, none⟩) 1 1) (rows encT [⟨At, ts.length, ct, ts, 1⟩]) := src_one encT_len ((cellsAt_one b10 #[.slice At ts.length ct, .int .i64 1] 33).le U_le_head)
            refine ao_x (ex_append 3 (by_ := 32) rfl hD10 rfl rfl Try.underlying29 inf33 rfl (by decide) (by decide) hN9.ot rfl hsrc (one_rows encT_one _) (by rw [rows_length encT_len, rows_length encT_len]; simp; omega)) rfl fun u11 m11 ⟨Y11, hO11, hm11, hD11⟩ => ?_
            subst hm11
            rw [← rows_append] at hO11
            refine ao_r (rig_assign rfl rfl) rfl (ao_nil ?_)
            obtain ⟨e12, hD12, hF12, _⟩ := sinkG (x := Go.Aw.one b10 (.cells #[.slice At ts.length ct, .int .i64 1] 33 (0, 0))) (c := cg9) (a := Ya') (b := Y11) (F := F9) hD11
            have hN12 : Cn m3 p2 va' u11 (all ++ List.replicate (k + 1) s) (t' ++ [⟨At, ts.length, ct, ts, 1⟩]) Ya' Y11 _ (U [cg9, Ya', Y11, U [Go.Aw.one b10 (.cells #[.slice At ts.length ct, .int .i64 1] 33 (0, 0)), F9]]) :=
              ⟨backL hcg9 hD12 (Cn.leF hD12.2 (hN9.le.trans hF12)), hD12.2, hN9.le.trans hF12, hN9.oa, hO11, fun x hx => by
                rcases List.mem_append.1 hx with h | h
                · exact (hN9.ok x h).le hF12
                · rw [List.mem_singleton.1 h]; exact hts8 _ (hF9.trans hF12)⟩
            refine hK15 _ _ (awp_L e12 (awp_region ?_))
            refine ao_r (rig_move rfl rfl) rfl (ao_r (rig_add (c := ((q + 1 : Nat) : Int)) rfl rfl rfl (w64 _ (by omega) (by omega))) rfl (ao_r (rig_assign rfl rfl) rfl (ao_nil ?_)))
            exact ⟨[(6, .pointer (some ⟨p2, 0, none⟩)), (7, va'), (8, u11), (11, .slice At ts.length ct), (13, .int .i64 (k + 1 : Nat)), (15, .int .i64 (q + 1 : Nat)), (23, .slice (some ⟨b, off, none⟩) ls.length cl), (24, .int .i64 ls.length), (25, .int .i64 i)], _, ⟨rfl, rfl, rfl, rfl, rfl, rfl, rfl, rfl, rfl, trivial⟩, by omega, q + 1, u11, _, Y11, _, by omega, rfl, rfl, hN12, hF9.trans hF12, by rw [keys, List.map_append]; show keys t' ++ _ = _; rw [hk9, List.append_assoc, List.replicate_succ']; rfl⟩
          · obtain rfl : q = k + 1 := by omega
            refine awp_exit ?_
            exact hfin va' vt' _ t' Ya' Yt' F9 mm hN9 hla' (by omega) hmem' (by
              rw [hk9]
              refine posE_app hpos fun x hx => ?_
              rw [(List.mem_replicate.1 hx).2]
              show (1 : Int) ≤ 1 ∧ (1 : Int) ≤ 9223372036854775807
              omega) (by rw [hk9, expE_append, hexp, lineE_app, lineE_rep, hts, expE_ones]) _ ⟨rfl, rfl, rfl, rfl, rfl, rfl, trivial⟩
  · refine awp_exit (hK6 _ _ (awp_rs ?_))
    have hFm : HpLe (U [Ya, Yt, F]) mm := hN.gen.le
    have hm3m : HpLe m3 mm := (Cn.leF hN.dj hN.le).trans hFm
    have hpk : ∀ x ∈ t, x.cnt ≤ 9223372036854775807 := fun x hx => (hpos x.key (List.mem_map_of_mem hx)).2
    refine ao_r (rig_move rfl rfl) rfl ?_
    refine ao_x (ex_call rfl rfl e21 (F21 mm vt t (RdSl.le hN.ot.rd ((le_at 1 hN.dj rfl).trans hFm)) (fun x hx => (hN.ok x hx).le ((le_at 2 hN.dj rfl).trans hFm)) hpk (by omega))) rfl fun v1 m7 ⟨o1, q1, G1, hO1, hm7, hD7, hG1, hT1, hk1', hn1⟩ => ?_
    subst hm7
    refine ao_r (rig_move rfl rfl) rfl ?_
    have hyc : HpLe Ya (U [q1, G1]) := (le_at 0 hN.dj rfl).trans (hFm.trans (hG1.trans (le_at 1 hD7 rfl)))
    refine ao_x (ex_call rfl rfl e12 (F12 (U [q1, G1]) va all (RdSl.le hN.oa.rd hyc) (fun s hs => Nat.le_trans (hsz s (hmem s hs)) (by decide)) (by omega))) rfl fun v2 m8 ⟨o2, q2, G2, hO2, hm8, hD8, hG2, hT2, hk2, hn2⟩ => ?_
    subst hm8
    have hG2m : HpLe (U [q1, G1]) (U [q2, G2]) := hG2.trans (le_at 1 hD8 rfl)
    have h14 := F14 (U [q2, G2]) v1 v2 o1 o2 (RdSl.le hO1.rd ((le_at 0 hD7 rfl).trans hG2m)) (RdSl.le hO2.rd (le_at 0 hD8 rfl)) (fun t ht => (hT1 t ht).le ((le_at 1 hD7 rfl).trans hG2m)) (fun t ht => (hT2 t ht).le (le_at 1 hD8 rfl)) (by omega) (fun t ht => Nat.le_trans (keys_len60 hk1' t ht) (by decide))
    rw [decide_eq_true (show keys o1 = keys o2 by rw [hk1', hk2, mineL, ← hexp, ofQ_exp hpos])] at h14
    refine ao_r (rig_call rfl rfl e14 h14) rfl (ao_r (rig_assign rfl rfl) rfl (ao_nil ?_))
    exact awp_ret ⟨_, res1 Try.results5 rfl, rfl, h13.trans (hm3m.trans (hG1.trans ((le_at 1 hD7 rfl).trans hG2m)))⟩
end Go.Proofs.Ytmofaabndjnhjaa
