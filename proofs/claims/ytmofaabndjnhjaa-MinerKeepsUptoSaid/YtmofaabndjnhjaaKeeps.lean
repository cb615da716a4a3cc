/- The law MinerKeeps: its walk. -/
import Derived.Test.YtmofaabndjnhjaaSteps
import Derived.Test.YtmofaabndjnhjaaArgs
set_option linter.unusedVariables false
set_option linter.unusedSimpArgs false
namespace Go.Aw
open Go Go.RowKit
theorem RdSl.drop {α : Type} {enc : α → List Value} {k : Nat} (hk : ∀ x, (enc x).length = k) (h0 : 0 < k) {m : Hp} {A : Option Addr} {cap : Nat} {l : List α} {n : Nat} (h : RdSl m enc k (.slice A n cap) l) (hc : l.length ≤ cap) {j : Nat} (hj : j ≤ l.length) : RdSl m enc k (.slice (if cap = j then A else A.map (·.add (j * k))) (n - j) (cap - j)) (l.drop j) := by
  obtain ⟨A', c', e, hA⟩ := RdSl.form hk h0 h
  simp only [Value.slice.injEq] at e
  obtain ⟨rfl, rfl, rfl⟩ := e
  refine ⟨_, l.length - j, _, rfl, by rw [rows_length hk, List.length_drop], ?_⟩
  by_cases hl : l.length = j
  · left; omega
  · have hcj : cap ≠ j := by omega
    rw [if_neg hcj]
    rcases hA with rfl | ⟨b, off, rfl, hC⟩
    · simp at hj hl; omega
    · refine .inr ⟨b, off + j * k, by simp [Addr.add], CellsAt.of_get fun q v hq => ?_⟩
      have e : rows enc l = rows enc (l.take j) ++ rows enc (l.drop j) := by rw [← rows_append, List.take_append_drop]
      rw [Nat.add_assoc]
      refine hC.get (j * k + q) v ?_
      have hl2 : (rows enc (l.take j)).length = j * k := by rw [rows_length hk, List.length_take, Nat.min_eq_left hj]
      rw [e, List.getElem?_append_right (by omega), hl2, Nat.add_sub_cancel_left]
      exact hq
theorem Own.cap_ {α : Type} {enc : α → List Value} {k : Nat} (hk : ∀ x, (enc x).length = k) (h0 : 0 < k) {E : TypeId} {c : Hp} {l : List α} {A : Option Addr} {n cap : Nat} (h : Own E k c (.slice A n cap) (rows enc l)) : l.length ≤ cap := by
  by_cases hl : l.length = 0
  · omega
  · obtain ⟨g, cap', sp, e, _, _, h3, _⟩ := h.some_ hk h0 (by omega)
    simp only [Value.slice.injEq] at e
    omega
end Go.Aw
namespace Go.Proofs.Ytmofaabndjnhjaa
open Go Go.Aw Go.Pl Go.RowKit
/-- What the loop over the lines keeps. -/
structure Kp (m3 : Hp) (p2 : Nat) (vm va : Value) (q : List Tm) (ls : List ByteArray) (Ya F mm : Hp) : Prop where
  gen : CodH m3 p2 58 (U [Ya, F]) mm
  dj : Dj [Ya, F]
  le : HpLe m3 F
  oa : Own 9 1 Ya va (rows encS ls)
  tm : Tms F vm q
  ok : ∀ x ∈ q, x.Ok F
  sto : Sto (keys q) ls
theorem Kp.elm {m3 : Hp} {p2 : Nat} {vm va : Value} {q : List Tm} {ls : List ByteArray} {Ya F mm : Hp} (h : Kp m3 p2 vm va q ls Ya F mm) (hl : ls.length ≤ 1048576) {G : Hp} (hG : HpLe F G) : ∀ t ∈ q, t.Ok G ∧ t.toks.length ≤ 16777216 ∧ Cnt t := fun t ht =>
  ⟨(h.ok t ht).le hG, by have := h.sto.elm hl t ht; exact ⟨by omega, this.2⟩⟩
theorem cut_perm {ls : List ByteArray} {k : Nat} {s : ByteArray} (h : ls[k]? = some s) : ls.Perm (s :: (ls.take k ++ ls.drop (k + 1))) := by
  have hlt := (List.getElem?_eq_some_iff.1 h).1
  have h2 := (List.getElem?_eq_some_iff.1 h).2
  have e : ls = ls.take k ++ s :: ls.drop (k + 1) := by rw [← h2, ← List.drop_eq_getElem_cons hlt, List.take_append_drop]
  conv => lhs; rw [e]
  exact List.perm_middle
theorem lineE_take {ls : List ByteArray} {i : Nat} {s : ByteArray} (h : ls[i]? = some s) : (lineE (ls.take (i + 1))).length = (lineE (ls.take i)).length + (if (toksOf s).isSome = true then 1 else 0) := by
  rw [take_succ_get h, lineE_cat, List.length_append]
  cases ht : toksOf s with
  | none => rw [lineE_none ht]; rfl
  | some ts => rw [lineE_some ht]; rfl
theorem e6 : Enters Try.prog 6 := enters_of Try.func6 (by kernel_rfl) rfl
set_option maxHeartbeats 8000000 in
set_option maxRecDepth 100000 in
theorem F6 (m : Hp) (A0 A1 : Option Addr) (c0 c1 : Nat) (l0 l1 : List UInt8) (h0 : RdSl m encB 1 (.slice A0 l0.length c0) l0) (h1 : RdSl m encB 1 (.slice A1 l1.length c1) l1) (hc0 : l0.length ≤ c0) (hc1 : l1.length ≤ c1) (hl0 : l0.length ≤ 1048576) (hl1 : l1.length ≤ 1048576) :
    RC Try.prog 6 #[.slice A0 l0.length c0, .slice A1 l1.length c1] m (.bool true) := by
  refine rc_of_gc fun m1 hm => gc_intro (vs := [_, _]) Try.func6 rfl Try.ntmps6 (by simp) ?_
  refine awp_rs (ao_r (rig_assign rfl rfl) rfl (ao_nil ?_))
  refine awp_sk fun K5 hK5 => awp_rs ?_
  refine ao_r (rig_call (vs := []) rfl rfl e22 (F22 m1)) rfl (ao_r (rig_not rfl rfl) rfl (ao_nil ?_))
  refine awp_false rfl (awp_skip (hK5 _ _ (awp_rs ?_)))
  refine ao_r (rig_move rfl rfl) rfl ?_
  refine ao_x (ex_call (vs := [_, _]) rfl rfl e10 (F10 m1 A0 c0 l0 200 (RdSl.le h0 hm) hc0 (by omega) (by decide))) rfl fun u m2 ⟨p, hu, hC2⟩ => ?_
  subst hu
  refine ao_x (ex_call (vs := [_, _]) rfl rfl e23 (F23 m1 p m1 m2 16 (by decide) hC2)) rfl fun u m3 ⟨va, vl, ts0, ls, x, F', hu, hll, hsz, hOx, hDx, hFx, hC3, _, _, _⟩ => ?_
  subst hu
  refine ao_r (rig_move rfl rfl) rfl (ao_r (rig_extract rfl rfl rfl) rfl (ao_r (rig_extract rfl rfl rfl) rfl (ao_r (rig_assign rfl rfl) rfl (ao_r (rig_assign rfl rfl) rfl (ao_nil ?_)))))
  have hx3 : HpLe x m3 := (le_at 0 hDx rfl).trans hC3.le
  have h13 : HpLe m1 m3 := hFx.trans ((le_at 1 hDx rfl).trans hC3.le)
  have hst3 : Strs m3 vl ls := RdSl.le hOx.rd hx3
  refine awp_rs (ao_r (rig_move rfl rfl) rfl ?_)
  refine ao_x (ex_call (vs := [_, _]) rfl rfl e10 (F10 m3 A1 c1 l1 60 (RdSl.le h1 (hm.trans h13)) hc1 (by omega) (by decide))) rfl fun u m4 ⟨p2, hu, hC4⟩ => ?_
  subst hu
  refine ao_r (rig_assign rfl rfl) rfl (ao_nil ?_)
  have hN0 : Kp m3 p2 (.slice none 0 0) (.slice none 0 0) [] [] hp0 m3 m4 :=
    ⟨by rw [U_hp0, U_single]; exact hC4, Dj_hp0 (Dj_single m3), HpLe.refl _, Own.nil 9 1, ⟨none, 0, 0, rfl, rfl, .inl rfl⟩, by simp, Sto.nil⟩
  refine awp_rs (ao_r (rig_assign rfl rfl) rfl (ao_nil ?_))
  refine awp_rs (ao_r (rig_assign rfl rfl) rfl (ao_nil ?_))
  refine awp_sk fun K6 hK6 => awp_rs (ao_r (rig_assign rfl rfl) rfl (ao_nil ?_))
  obtain ⟨Al, cl, rfl⟩ := hOx.len encS_len (by decide)
  refine awp_block ?_
  refine awp_le [(6, .slice Al ls.length cl), (7, .pointer (some ⟨p2, 0, none⟩)), (8, .slice none 0 0), (9, .slice none 0 0), (10, .int .i64 (0 : Nat))] ⟨rfl, rfl, rfl, rfl, rfl, trivial⟩ ?_
  refine awp_loop (fun kk r mm => ∃ (i : Nat) (vm va : Value) (q : List Tm) (left : List ByteArray) (Ya F : Hp), i ≤ ls.length ∧ kk = ls.length - i ∧ r = [(6, .slice Al ls.length cl), (7, .pointer (some ⟨p2, 0, none⟩)), (8, vm), (9, va), (10, .int .i64 i)] ∧
      Kp m3 p2 vm va q left Ya F mm ∧ left.length ≤ i ∧ (∀ s ∈ left, s ∈ ls)) _
    ⟨0, _, _, [], [], hp0, m3, by omega, rfl, rfl, hN0, by simp, by simp⟩ ?_
  clear hN0 hC4 hC2
  rintro kk r mm ⟨i, vm, va, q, left, Ya, F, hi, rfl, rfl, hN, hla, hmem⟩
  refine awp_sk fun K7 hK7 => awp_rs ?_
  refine ao_r (rig_move rfl rfl) rfl (ao_r (rig_move rfl rfl) rfl (ao_r (rig_lenSl rfl rfl Try.underlying22) rfl (ao_r (rig_lss rfl rfl rfl) rfl (ao_nil ?_))))
  refine awp_if rfl (fun h => ?_) (fun h => ?_)
  · refine awp_skip (hK7 _ _ (awp_sk fun K8 hK8 => awp_block ?_))
    obtain ⟨s, hs⟩ := get_lt (l := ls) (i := i) (by omega)
    have hsm := List.mem_of_getElem? hs
    have hss := hsz s hsm
    obtain ⟨cg, hcg, rfl, hDg⟩ := outL hN.gen hN.dj
    have hm3g : HpLe m3 (U [cg, Ya, F]) := hN.le.trans (le_at 2 hDg rfl)
    obtain ⟨b, off, cap', e, hsc⟩ := Strs.get hst3 hs
    simp only [Value.slice.injEq] at e
    obtain ⟨rfl, _, rfl⟩ := e
    have hsc' := cell_le hm3g hsc
    -- the end of a round
    have hfin : ∀ (vm' va' : Value) (q' : List Tm) (left' : List ByteArray) (Ya' F' mm' : Hp), Kp m3 p2 vm' va' q' left' Ya' F' mm' → left'.length ≤ i + 1 → (∀ s ∈ left', s ∈ ls) → ∀ r', EnvLe [(6, .slice (some ⟨b, off, none⟩) ls.length cl), (7, .pointer (some ⟨p2, 0, none⟩)), (8, vm'), (9, va'), (10, .int .i64 i)] r' → K8 r' mm' := by
      intro vm' va' q' left' Ya' F' mm' hN' h1' h2' r' hr
      refine hK8 _ _ (awp_le _ hr (awp_region ?_))
      refine ao_r (rig_move rfl rfl) rfl (ao_r (rig_add (c := ((i + 1 : Nat) : Int)) rfl rfl rfl (w64 _ (by omega) (by omega))) rfl (ao_r (rig_assign rfl rfl) rfl (ao_nil ?_)))
      exact ⟨[(6, .slice (some ⟨b, off, none⟩) ls.length cl), (7, .pointer (some ⟨p2, 0, none⟩)), (8, vm'), (9, va'), (10, .int .i64 (i + 1 : Nat))], _, ⟨rfl, rfl, rfl, rfl, rfl, trivial⟩, by omega, i + 1, vm', va', q', left', Ya', F', by omega, rfl, rfl, hN', h1', h2'⟩
    have hadd := hN.sto.add s (by omega)
    refine awp_mid (fun r mm => ∃ (vm' va' : Value) (q' : List Tm) (Ya' F' : Hp), Kp m3 p2 vm' va' q' (left ++ [s]) Ya' F' mm ∧ r = [(6, .slice (some ⟨b, off, none⟩) ls.length cl), (7, .pointer (some ⟨p2, 0, none⟩)), (8, vm'), (9, va'), (10, .int .i64 i)]) ?_ ?_
    · refine awp_draw (.q 0 (.q 1 (.q 2 (.q 3 (.q 4 (.q 6 (.q 7 (.q 8 (.q 9 (.q 10 (.b 5 (.s 11 (.s 12 (.q 13 (.q 14 .fin)))) 11 (.s 5 (.s 12 (.q 13 (.q 14 .fin))))))))))))))) [12] (by kernel_rfl) (by kernel_rfl) ?_
      refine oq rfl (rig_move rfl rfl) rfl (oq rfl (rig_move rfl rfl) rfl (oq rfl (rig_move rfl rfl) rfl (oq rfl (rig_ix i rfl rfl rfl Try.underlying22 Try.sizeOf9 rfl rfl (by omega)) rfl (oq rfl (rig_load1 rfl rfl Try.isAgg9 hsc') rfl ?_))))
      refine oq rfl (rig_move rfl rfl) rfl (oq rfl (rig_move rfl rfl) rfl (oq rfl (rig_move rfl rfl) rfl (oq rfl (rig_ix i rfl rfl rfl Try.underlying22 Try.sizeOf9 rfl rfl (by omega)) rfl (oq rfl (rig_load1 rfl rfl Try.isAgg9 hsc') rfl ?_))))
      -- the end of both ways
      have hend : ∀ (u w3 : Value) (q' : List Tm) (b2 : Nat) (c3 F4 : Hp), Dj [Go.Aw.one b2 (.cells (Value.string s).cells 9 (0, 0)), cg, c3, F4] → HpLe F F4 → Own 9 1 c3 w3 (rows encS left ++ rows encS [s]) → Tms F4 u q' → (∀ t ∈ q', t.Ok F4) → keys q' = addS s (keys q) →
          ∃ (vm' va' : Value) (q' : List Tm) (Ya' F' : Hp), Kp m3 p2 vm' va' q' (left ++ [s]) Ya' F' (U [Go.Aw.one b2 (.cells (Value.string s).cells 9 (0, 0)), cg, c3, F4]) ∧ [(6, Value.slice (some ⟨b, off, none⟩) ls.length cl), (7, .pointer (some ⟨p2, 0, none⟩)), (8, u), (9, w3), (10, .int .i64 i)] = [(6, .slice (some ⟨b, off, none⟩) ls.length cl), (7, .pointer (some ⟨p2, 0, none⟩)), (8, vm'), (9, va'), (10, .int .i64 i)] := by
        intro u w3 q' b2 c3 F4 hD7 hF4 hO3 hT5 hok5 hq5
        obtain ⟨e8, hD8, hF8, _⟩ := sinkB (x := Go.Aw.one b2 (.cells (Value.string s).cells 9 (0, 0))) (c := cg) (a := c3) (F := F4) hD7
        have hle := hN.le.trans (hF4.trans hF8)
        rw [e8]
        exact ⟨u, w3, q', c3, _, ⟨backL hcg hD8 (hle.trans (le_at 1 hD8.2 rfl)), hD8.2, hle, by rw [rows_append]; exact hO3, RdSl.le hT5 hF8, fun t ht => (hok5 t ht).le hF8, by rw [hq5]; exact hadd⟩, rfl⟩
      have hlen : (rows encS left).length + (rows encS [s]).length ≤ 1099511627776 := by rw [rows_length encS_len, rows_length encS_len]; simp; omega
      refine od_b ?_ ?_
      · have h24 := F24g [cg, Ya] F vm q s hDg hN.tm (hN.elm (by omega) (HpLe.refl _)) hN.sto.asc (by have := hN.sto.tlen; omega) (by omega)
        refine os rfl (ex_call rfl rfl e24 h24) rfl fun u m5 ⟨q', F4, hF4, hD5, hm5, hT5, hok5, hq5⟩ => ⟨fun _ => ?_, ?_⟩
        · rw [hm5]; exact U_last_mono (cs := [cg, Ya]) hF4
        subst hm5
        refine os rfl (ex_buildSlice rfl hD5 rfl Try.underlying22 Try.sizeOf9 Try.zeroValue9 (by decide) (by decide) (fill_one rfl (rangeMap_size _ _))) rfl fun w2 m2 ⟨b2, hw2, hm2, hD6⟩ => ⟨fun _ => by subst hm2; exact U_le_tail hD6, ?_⟩
        subst hw2 hm2
        refine os rfl (ex_append 2 (by_ := 16) rfl hD6 rfl rfl Try.underlying22 inf9 rfl (by decide) (by decide) hN.oa rfl (src_one (enc := encS) (x := s) encS_len ((cellsAt_one _ _ _).le U_le_head)) (one_rows encS_one _) hlen) rfl fun w3 m3 ⟨c3, hO3, hm3, hD7⟩ => ⟨fun h => by simp at h, ?_⟩
        subst hm3
        refine oq rfl (rig_assign rfl rfl) rfl (oq rfl (rig_assign rfl rfl) rfl (od_fin ?_))
        exact ⟨[(6, .slice (some ⟨b, off, none⟩) ls.length cl), (7, .pointer (some ⟨p2, 0, none⟩)), (8, u), (9, w3), (10, .int .i64 i)], ⟨rfl, rfl, rfl, rfl, rfl, trivial⟩, hend u w3 q' b2 c3 F4 hD7 hF4 hO3 hT5 hok5 hq5⟩
      · refine os rfl (ex_buildSlice rfl hDg rfl Try.underlying22 Try.sizeOf9 Try.zeroValue9 (by decide) (by decide) (fill_one rfl (rangeMap_size _ _))) rfl fun w2 m2 ⟨b2, hw2, hm2, hD6⟩ => ⟨fun _ => by subst hm2; exact U_le_tail hD6, ?_⟩
        subst hw2 hm2
        have h24 := F24g [Go.Aw.one b2 (.cells (Value.string s).cells 9 (0, 0)), cg, Ya] F vm q s hD6 hN.tm (hN.elm (by omega) (HpLe.refl _)) hN.sto.asc (by have := hN.sto.tlen; omega) (by omega)
        refine os rfl (ex_call rfl rfl e24 h24) rfl fun u m5 ⟨q', F4, hF4, hD5, hm5, hT5, hok5, hq5⟩ => ⟨fun _ => ?_, ?_⟩
        · rw [hm5]; exact U_last_mono (cs := [_, cg, Ya]) hF4
        subst hm5
        refine os rfl (ex_append 2 (by_ := 16) rfl hD5 rfl rfl Try.underlying22 inf9 rfl (by decide) (by decide) hN.oa rfl (src_one (enc := encS) (x := s) encS_len ((cellsAt_one _ _ _).le U_le_head)) (one_rows encS_one _) hlen) rfl fun w3 m3 ⟨c3, hO3, hm3, hD7⟩ => ⟨fun h => by simp at h, ?_⟩
        subst hm3
        refine oq rfl (rig_assign rfl rfl) rfl (oq rfl (rig_assign rfl rfl) rfl (od_fin ?_))
        exact ⟨[(6, .slice (some ⟨b, off, none⟩) ls.length cl), (7, .pointer (some ⟨p2, 0, none⟩)), (8, u), (9, w3), (10, .int .i64 i)], ⟨rfl, rfl, rfl, rfl, rfl, trivial⟩, hend u w3 q' b2 c3 F4 hD7 hF4 hO3 hT5 hok5 hq5⟩
    clear hN hcg hDg hsc' hm3g hadd
    rintro r mm ⟨vm, va, q, Ya, F, hN, rfl⟩
    refine awp_sk fun K9 hK9 => awp_rs (ao_r (rig_move rfl rfl) rfl ?_)
    refine ao_x (ex_call (vs := [_, _]) rfl rfl e20 (F20 m3 p2 (U [Ya, F]) mm 3 hN.gen)) rfl fun u m6 ⟨k, hu, hk, hC6⟩ => ?_
    subst hu
    refine ao_r (rig_eql rfl rfl rfl) rfl (ao_nil ?_)
    have hN6 : Kp m3 p2 vm va q (left ++ [s]) Ya F m6 := ⟨hC6, hN.dj, hN.le, hN.oa, hN.tm, hN.ok, hN.sto⟩
    have hll6 : (left ++ [s]).length = left.length + 1 := by simp
    have hmem6 : ∀ x ∈ left ++ [s], x ∈ ls := fun x hx => by
      rcases List.mem_append.1 hx with h | h
      · exact hmem x h
      · rw [List.mem_singleton.1 h]; exact hsm
    clear hN hC6
    have hchk : ∀ (vm' va' : Value) (q' : List Tm) (left' : List ByteArray) (Ya' F' mm' : Hp), Kp m3 p2 vm' va' q' left' Ya' F' mm' → left'.length ≤ i + 1 → (∀ s ∈ left', s ∈ ls) → ∀ r', EnvLe [(6, .slice (some ⟨b, off, none⟩) ls.length cl), (7, .pointer (some ⟨p2, 0, none⟩)), (8, vm'), (9, va'), (10, .int .i64 i)] r' → K9 r' mm' := by
      intro vm' va' q' left' Ya' F' mm' hN' h1' h2' r' hr
      have hF' : HpLe F' mm' := (le_at 1 hN'.dj rfl).trans hN'.gen.le
      have h26 := F26 mm' vm' q' (RdSl.le hN'.tm hF') (fun t ht => by have := hN'.elm (by omega) hF' t ht; exact ⟨this.1, this.2.1⟩) (by have := hN'.sto.tlen; omega)
      rw [hN'.sto.chk] at h26
      refine hK9 _ _ (awp_le _ hr (awp_rs (ao_r (rig_move rfl rfl) rfl (ao_r (rig_call rfl rfl e26 h26) rfl (ao_r (rig_not rfl rfl) rfl (ao_nil ?_))))))
      exact awp_false rfl (awp_skip (hfin vm' va' q' left' Ya' F' mm' hN' h1' h2' _ ⟨rfl, rfl, rfl, rfl, rfl, trivial⟩))
    refine awp_if rfl (fun h2 => ?_) (fun h2 => ?_)
    · obtain ⟨Av, cv, rfl⟩ := hN6.oa.len encS_len (by decide)
      have hcv := hN6.oa.cap_ encS_len (by decide)
      refine awp_rs (ao_r (rig_move rfl rfl) rfl (ao_r (rig_move rfl rfl) rfl (ao_r (rig_lenSl rfl rfl Try.underlying22) rfl ?_)))
      refine ao_x (ex_call (vs := [_, _]) rfl rfl e20 (F20 m3 p2 (U [Ya, F]) m6 _ hN6.gen)) rfl fun u m7 ⟨k2, hu, hk2, hC7⟩ => ?_
      subst hu
      refine ao_r (rig_assign rfl rfl) rfl (ao_nil ?_)
      have hk3 : k2 < (left ++ [s]).length := by omega
      obtain ⟨s2, hs2⟩ := get_lt hk3
      have hss2 := hsz s2 (hmem6 s2 (List.mem_of_getElem? hs2))
      obtain ⟨cg, hcg, rfl, hDg⟩ := outL hC7 hN6.dj
      obtain ⟨b2, off2, cap2, e, hsc2⟩ := Strs.get hN6.oa.rd hs2
      simp only [Value.slice.injEq] at e
      obtain ⟨rfl, _, rfl⟩ := e
      refine awp_rs ?_
      refine ao_r (rig_move rfl rfl) rfl (ao_r (rig_move rfl rfl) rfl (ao_r (rig_move rfl rfl) rfl (ao_r (rig_ix k2 rfl rfl rfl Try.underlying22 Try.sizeOf9 rfl rfl hk3) rfl (ao_r (rig_load1 rfl rfl Try.isAgg9 (cell_le (le_at 1 hDg rfl) hsc2)) rfl ?_))))
      have h25 := F25g [cg, Ya] F vm q s2 hDg hN6.tm (hN6.elm (by omega) (HpLe.refl _)) hN6.sto.asc (by have := hN6.sto.tlen; omega) (by omega)
      refine ao_x (ex_call rfl rfl e25 h25) rfl fun u m8 ⟨v, bo, q2, F2, hu, hF2, hD2, hm8, hT2, hok2, hR⟩ => ?_
      subst hu hm8
      refine ao_r (rig_move rfl rfl) rfl (ao_r (rig_extract rfl rfl rfl) rfl (ao_r (rig_extract rfl rfl rfl) rfl (ao_r (rig_assign rfl rfl) rfl (ao_r (rig_assign rfl rfl) rfl (ao_nil ?_)))))
      obtain ⟨hS2, rfl⟩ := hN6.sto.rem (cut_perm hs2) hR
      refine awp_sk fun K10 hK10 => awp_rs ?_
      refine ao_r (rig_move rfl rfl) rfl (ao_r (rig_move rfl rfl) rfl (ao_r (rig_ix k2 rfl rfl rfl Try.underlying22 Try.sizeOf9 rfl rfl hk3) rfl (ao_r (rig_load1 rfl rfl Try.isAgg9 (cell_le (le_at 1 hD2 rfl) hsc2)) rfl ?_)))
      refine ao_x (ex_call rfl rfl e17 (F17g [cg, Ya] F2 s2 hD2 (by omega))) rfl fun u m9 ⟨v3, F3, hu, hF3, hD3, hm9⟩ => ?_
      subst hu hm9
      refine ao_r (rig_move rfl rfl) rfl (ao_r (rig_extract rfl rfl rfl) rfl (ao_r (rig_extract rfl rfl rfl) rfl (ao_r (rig_assign rfl rfl) rfl (ao_r (rig_assign rfl rfl) rfl (ao_nil ?_)))))
      refine awp_rs (ao_r (rig_move rfl rfl) rfl (ao_r (rig_move rfl rfl) rfl (ao_r (rig_bneqS rfl Try.underlying4 rfl rfl) rfl (ao_nil ?_))))
      refine awp_false rfl (awp_skip (hK10 _ _ ?_))
      refine awp_rs (ao_r (rig_move rfl rfl) rfl (ao_r (rig_assign rfl rfl) rfl (ao_nil ?_)))
      refine awp_draw (.q 0 (.q 1 (.q 2 (.q 4 (.q 5 (.q 6 (.q 7 (.s 3 (.s 8 (.q 9 .fin)))))))))) [8] (by kernel_rfl) (by kernel_rfl) ?_
      refine oq rfl (rig_move rfl rfl) rfl (oq rfl (rig_move rfl rfl) rfl (oq rfl (rig_slH k2 rfl rfl rfl Try.underlying22 Try.sizeOf9 rfl (by omega)) rfl ?_))
      refine oq rfl (rig_move rfl rfl) rfl (oq rfl (rig_move rfl rfl) rfl (oq rfl (rig_add (c := ((k2 + 1 : Nat) : Int)) rfl rfl rfl (w64 _ (by omega) (by omega))) rfl (oq rfl (rig_slL (k2 + 1) rfl rfl rfl Try.underlying22 Try.sizeOf9 rfl (by omega)) rfl ?_)))
      have hrdA : Strs Ya (.slice (some ⟨b2, off2, none⟩) (left ++ [s]).length cv) (left ++ [s]) := hN6.oa.rd
      have hsA : Go.Aw.Src (U [cg, Ya, F3]) 1 (.slice (some ⟨b2, off2, none⟩) k2 cv) (rows encS ((left ++ [s]).take k2)) := RdSl.le (RdSl.take encS_len (by decide) hrdA (by omega) cv) (le_at 1 hD3 rfl)
      refine os rfl (ex_appendNil (by_ := 16) rfl hD3 rfl rfl Try.underlying22 inf9 rfl (by decide) (by decide) hsA (one_rows encS_one _) (by rw [rows_length encS_len, List.length_take]; omega)) rfl fun w5 m10 ⟨c5, hO5, hm10, hD5⟩ => ⟨fun _ => by subst hm10; exact U_le_tail hD5, ?_⟩
      subst hm10
      have hsB : Go.Aw.Src (U [c5, cg, Ya, F3]) 1 _ (rows encS ((left ++ [s]).drop (k2 + 1))) := RdSl.le (RdSl.drop encS_len (by decide) hrdA hcv (j := k2 + 1) (by omega)) (le_at 2 hD5 rfl)
      refine os rfl (ex_append 0 (by_ := 16) rfl hD5 rfl rfl Try.underlying22 inf9 rfl (by decide) (by decide) hO5 rfl hsB (one_rows encS_one _) (by rw [rows_length encS_len, rows_length encS_len, List.length_take, List.length_drop]; omega)) rfl fun w6 m11 ⟨c6, hO6, hm11, hD6⟩ => ⟨fun h => by simp at h, ?_⟩
      subst hm11
      refine oq rfl (rig_assign rfl rfl) rfl (od_fin ?_)
      rw [← rows_append] at hO6
      obtain ⟨e8, hD8, hF8, _⟩ := swapB (x := c6) (c := cg) (a := Ya) (F := F3) hD6
      have hle := hN6.le.trans (hF2.trans (hF3.trans hF8))
      show K9 _ (U [c6, cg, Ya, F3])
      rw [e8]
      refine hchk v w6 q2 _ c6 _ _ ⟨backL hcg hD8 (hle.trans (le_at 1 hD8.2 rfl)), hD8.2, hle, hO6, RdSl.le hT2 (hF3.trans hF8), fun t ht => (hok2 t ht).le (hF3.trans hF8), hS2⟩ ?_ (fun x hx => ?_) _ ⟨rfl, rfl, rfl, rfl, rfl, trivial⟩
      · rw [List.length_append, List.length_take, List.length_drop]; omega
      · rcases List.mem_append.1 hx with h | h
        · exact hmem6 x (List.mem_of_mem_take h)
        · exact hmem6 x (List.mem_of_mem_drop h)
    · exact awp_skip (hchk vm va q _ Ya F m6 hN6 (by omega) hmem6 _ ⟨rfl, rfl, rfl, rfl, rfl, trivial⟩)
  · refine awp_exit (hK6 _ _ (awp_rs (ao_r (rig_assign rfl rfl) rfl (ao_nil ?_))))
    have hFm : HpLe (U [Ya, F]) mm := hN.gen.le
    have hF' : HpLe F mm := (le_at 1 hN.dj rfl).trans hFm
    have hm3m : HpLe m3 mm := hN.le.trans hF'
    have hll : left.length ≤ 16 := by omega
    obtain ⟨Av, cv, rfl⟩ := hN.oa.len encS_len (by decide)
    have hrd : Strs mm (.slice Av left.length cv) left := RdSl.le hN.oa.rd ((le_at 0 hN.dj rfl).trans hFm)
    refine awp_sk fun K11 hK11 => awp_rs ?_
    refine ao_r (rig_move rfl rfl) rfl (ao_r (rig_lenSl rfl rfl Try.underlying22) rfl (ao_r (rig_move rfl rfl) rfl (ao_nil ?_)))
    refine awp_block ?_
    refine awp_le [(8, vm), (9, .slice Av left.length cv), (16, .int .i64 (0 : Nat)), (90, .slice Av left.length cv), (91, .int .i64 left.length), (92, .int .i64 (0 : Nat))] ⟨rfl, rfl, rfl, rfl, rfl, rfl, trivial⟩ ?_
    refine awp_loop (fun kk r m' => ∃ (j : Nat), j ≤ left.length ∧ kk = left.length - j ∧ r = [(8, vm), (9, .slice Av left.length cv), (16, .int .i64 ((lineE (left.take j)).length : Nat)), (90, .slice Av left.length cv), (91, .int .i64 left.length), (92, .int .i64 (j : Nat))] ∧ HpLe mm m') _ ⟨0, by omega, rfl, rfl, HpLe.refl _⟩ ?_
    rintro kk r m' ⟨j, hj, rfl, rfl, hmm⟩
    refine awp_rs (ao_r (rig_lss rfl rfl rfl) rfl (ao_nil ?_))
    refine awp_sk fun K12 hK12 => ?_
    refine awp_if rfl (fun h3 => ?_) (fun h3 => ?_)
    · refine awp_skip (hK12 _ _ (awp_sk fun K13 hK13 => awp_block (awp_rs ?_)))
      obtain ⟨s, hs⟩ := get_lt (l := left) (i := j) (by omega)
      have hss := hsz s (hmem s (List.mem_of_getElem? hs))
      obtain ⟨b2, off2, cap2, e, hsc2⟩ := Strs.get (RdSl.le hrd hmm) hs
      simp only [Value.slice.injEq] at e
      obtain ⟨rfl, _, rfl⟩ := e
      have htk := lineE_take hs
      have htl := lineE_len (left.take j)
      rw [List.length_take] at htl
      refine ao_r (rig_ix j rfl rfl rfl Try.underlying22 Try.sizeOf9 rfl rfl (by omega)) rfl (ao_r (rig_load1 rfl rfl Try.isAgg9 hsc2) rfl (ao_r (rig_assign rfl rfl) rfl (ao_nil ?_)))
      refine awp_rs (ao_r (rig_move rfl rfl) rfl ?_)
      refine ao_x (ex_call rfl rfl e17 (F17h m' s (by omega))) rfl fun u m9 ⟨v3, hu, hm9⟩ => ?_
      subst hu
      have hmm9 := hmm.trans hm9
      refine ao_r (rig_move rfl rfl) rfl (ao_r (rig_extract rfl rfl rfl) rfl (ao_r (rig_extract rfl rfl rfl) rfl (ao_r (rig_assign rfl rfl) rfl (ao_r (rig_assign rfl rfl) rfl (ao_nil ?_)))))
      have hend : ∀ r', EnvLe [(8, vm), (9, .slice (some ⟨b2, off2, none⟩) left.length cv), (16, .int .i64 ((lineE (left.take (j + 1))).length : Nat)), (90, .slice (some ⟨b2, off2, none⟩) left.length cv), (91, .int .i64 left.length), (92, .int .i64 (j : Nat))] r' → K13 r' m9 := by
        intro r' hr
        refine hK13 _ _ (awp_le _ hr (awp_region ?_))
        refine ao_r (rig_add (c := ((j + 1 : Nat) : Int)) rfl rfl rfl (w64 _ (by omega) (by omega))) rfl (ao_r (rig_move rfl rfl) rfl (ao_nil ?_))
        exact ⟨[(8, vm), (9, .slice (some ⟨b2, off2, none⟩) left.length cv), (16, .int .i64 ((lineE (left.take (j + 1))).length : Nat)), (90, .slice (some ⟨b2, off2, none⟩) left.length cv), (91, .int .i64 left.length), (92, .int .i64 (j + 1 : Nat))], _, ⟨rfl, rfl, rfl, rfl, rfl, rfl, trivial⟩, by omega, j + 1, by omega, rfl, rfl, hmm9⟩
      refine awp_rs (ao_r (rig_move rfl rfl) rfl (ao_nil ?_))
      refine awp_cond rfl (fun h4 => ?_) (fun h4 => ?_)
      · rw [if_pos h4] at htk
        refine awp_region ?_
        refine ao_r (rig_move rfl rfl) rfl (ao_r (rig_add (c := (((lineE (left.take (j + 1))).length : Nat) : Int)) rfl rfl rfl (by rw [htk]; exact w64 _ (by omega) (by omega))) rfl (ao_r (rig_assign rfl rfl) rfl (ao_nil ?_)))
        exact hend _ ⟨rfl, rfl, rfl, rfl, rfl, rfl, trivial⟩
      · rw [if_neg (by rw [h4]; decide), Nat.add_zero] at htk
        rw [htk] at hend
        exact awp_skip (hend _ ⟨rfl, rfl, rfl, rfl, rfl, rfl, trivial⟩)
    · obtain rfl : j = left.length := by omega
      rw [List.take_length]
      refine awp_exit (hK11 _ _ (awp_rs ?_))
      have hFm' := hF'.trans hmm
      have helm := hN.elm (by omega) hFm'
      have hq := hN.sto.tlen
      have hsize := hN.sto.size (by omega)
      refine ao_r (rig_move rfl rfl) rfl ?_
      refine ao_x (ex_call rfl rfl e27 (F27 m' vm q (RdSl.le hN.tm hFm') (fun t ht => (helm t ht).1) (fun t ht => (helm t ht).2.2.2) (by omega))) rfl fun v1 m7 ⟨o1, q1, G1, hO1, hm7, hD7, hG1, hT1, hk1', hn1⟩ => ?_
      subst hm7
      refine ao_r (rig_move rfl rfl) rfl ?_
      have hG1m : HpLe m' (U [q1, G1]) := hG1.trans (le_at 1 hD7 rfl)
      refine ao_x (ex_call rfl rfl e12 (F12 (U [q1, G1]) _ left (RdSl.le hrd (hmm.trans hG1m)) (fun s hs => Nat.le_trans (hsz s (hmem s hs)) (by decide)) (by omega))) rfl fun v2 m8 ⟨o2, q2, G2, hO2, hm8, hD8, hG2, hT2, hk2, hn2⟩ => ?_
      subst hm8
      have hG2m : HpLe (U [q1, G1]) (U [q2, G2]) := hG2.trans (le_at 1 hD8 rfl)
      have h14 := F14 (U [q2, G2]) v1 v2 o1 o2 (RdSl.le hO1.rd ((le_at 0 hD7 rfl).trans hG2m)) (RdSl.le hO2.rd (le_at 0 hD8 rfl)) (fun t ht => (hT1 t ht).le ((le_at 1 hD7 rfl).trans hG2m)) (fun t ht => (hT2 t ht).le (le_at 1 hD8 rfl)) (by omega) (fun t ht => Nat.le_trans (keys_len60 hk1' t ht) (by decide))
      rw [decide_eq_true (show keys o1 = keys o2 by rw [hk1', hk2, hN.sto.of (by omega)])] at h14
      have hend := hFm'.trans (hG1m.trans hG2m)
      have h28 := F28 (U [q2, G2]) vm q (RdSl.le hN.tm hend) (by omega) (fun t ht => (helm t ht).2.2)
      rw [show totS 0 q = ((lineE left).length : Nat) from (totS_keys q 0).trans hsize] at h28
      refine ao_r (rig_call rfl rfl e14 h14) rfl (ao_r (rig_move rfl rfl) rfl ?_)
      refine ao_on rfl rfl (ao_r (rig_move rfl rfl) rfl (ao_on rfl rfl (ao_r (rig_call rfl rfl e28 h28) rfl (ao_on rfl rfl (ao_r (rig_move rfl rfl) rfl (ao_on rfl rfl (ao_r (rig_eql rfl rfl rfl) rfl ?_)))))))
      rw [decide_eq_true rfl]
      refine ao_r (rig_pickT rfl rfl rfl) rfl (ao_r (rig_assign rfl rfl) rfl (ao_nil ?_))
      exact awp_ret ⟨_, res1 Try.results6 rfl, rfl, h13.trans (hm3m.trans (hmm.trans (hG1m.trans hG2m)))⟩
end Go.Proofs.Ytmofaabndjnhjaa
/- The law MinerKeeps holds: 'MinerKeepsUptoSaid'; no condition but the row's own: what the arguments hold together is of bulk at most 1048576. -/
set_option linter.unusedVariables false
namespace Go.Proofs.Ytmofaabndjnhjaa.minerKeeps
open Go.ChangeShapes Go.WideShapes Go.ChangeAt Go.RowKit
set_option maxRecDepth 100000 in
theorem contract (H : Type) (enc : TypeId × Value → H) (W : World) (base : Nat) (args : Array Value) (ds gs : List (DataW H)) (before : List MemPlace)
    (hval : ∀ (j : Nat) t v, Try.f6.params[j]? = some t → args[j]? = some v → Value.okWide Try.prog W .any base t v)
    (hW : DataW.Whole enc Try.prog Try.f6.params.toList Rows.minerKeepsSpec.vars false W args.toList ds gs before) (hk : Rows.uptoSmall H (ds ++ gs) = true) :
    Calls Try.prog 6 args W fun e W' => ∃ v, e = .returned v ∧ Rows.minerKeepsSpec.post enc Try.prog Try.f6 false true false false W args v W' := by
  have hW' := hW
  obtain ⟨p, q, hA0, hV, rfl, hfz, hnd⟩ := hW
  have hA : DataW.TrodAll enc Try.prog W 0 (fun _ => true) true Try.f6.params.toList args.toList ds p := hA0
  obtain ⟨rfl, rfl⟩ := trodVars_none hV
  have hb := bulk_bound hk
  rw [List.append_nil] at hb
  rw [Try.params6] at hA hval
  obtain ⟨v0, vs0, d0, ds0, p0, q0, hargs, rfl, rfl, h0, r0⟩ := trodAll_cons hA
  obtain ⟨v1, vs1, d1, ds1, p1, q1, rfl, rfl, rfl, h1, r1⟩ := trodAll_cons r0
  obtain ⟨rfl, rfl, rfl⟩ := trodAll_nil r1
  obtain rfl : args = #[v0, v1] := by cases args; simp_all
  obtain ⟨A0, c0, l0, rfl, hr0, hc0, hl0⟩ := open_bytes (hval 0 23 v0 rfl rfl) h0 (Nat.le_trans (bulk_mem (List.mem_cons_self ..)) hb)
  obtain ⟨A1, c1, l1, rfl, hr1, hc1, hl1⟩ := open_bytes (hval 1 23 v1 rfl rfl) h1 (Nat.le_trans (bulk_mem (List.mem_cons_of_mem _ (List.mem_cons_self ..))) hb)
  refine (F6 (Go.Aw.all W) A0 A1 c0 c1 l0 l1 hr0 hr1 hc0 hc1 hl0 hl1 W W (Go.Aw.sat_all W)).mono fun e W' ⟨he, hbel⟩ => ⟨_, he, law_post rfl (by kernel_rfl) rfl ?_ hW' hbel.toBelow⟩
  rw [Try.params6]
  intro t ht
  simp at ht
  rcases ht with rfl | rfl <;> exact ⟨by kernel_rfl, of_decide_eq_true (by kernel_rfl)⟩
set_option maxRecDepth 100000 in
theorem lifted (os : Os) (started : os.Started) (H : Type) (enc : TypeId × Value → H) (F : Stop.Interp) :
    ReturnsInHanded {} Try.checked os 6 .any ((Rows.OpenSpec.upto Rows.minerKeepsSpec).pre6 enc Try.prog Try.f6 Rows.minerKeepsUptoRow.domain false) (((Rows.OpenSpec.upto Rows.minerKeepsSpec).at F).post enc Try.prog Try.f6 false true false false) := by
  refine returnsInHanded_of_cond (C := Try.checked) (s := Rows.OpenSpec.upto Rows.minerKeepsSpec) (k := Rows.uptoSmall) rfl ownK started (by kernel_rfl) Try.func6
    (OpenSpec.witness (enc := enc) (C := Try.checked) (s := Rows.OpenSpec.upto Rows.minerKeepsSpec) (k := Rows.uptoSmall) rfl false ⟨#[], #[.slice none 0 0, .slice none 0 0], []⟩ 8 (by kernel_rfl) (by kernel_rfl) (by kernel_rfl)
      (x := ([.nil, .nil], [], [])) (by kernel_rfl) rfl (by kernel_rfl)) ?_
  intro W base args ds gs before hval hW _ hk _
  exact contract H enc W base args ds gs before hval hW hk
theorem over : Rows.minerKeepsUptoRow.holds Try.pinned (Rows.OpenSpec.upto Rows.minerKeepsSpec) :=
  OpenClaim.holds_of_cond 6 Try.f6 rfl rfl rfl rfl rfl rfl rfl ⟨rfl, rfl, rfl, rfl, rfl⟩ rfl rfl rfl rfl rfl (by kernel_rfl) Try.func6 (by kernel_rfl)
    (of_decide_eq_true (by kernel_rfl)) (by unfold Func.isWrapper; first | (rw [if_pos (by decide +kernel)]; kernel_rfl) | (rw [if_neg (by decide +kernel)]; exact ⟨rfl, rfl⟩))
    (fun os started H enc _ F => lifted os started H enc F)
theorem proved : Rows.MinerKeepsUptoSaid :=
  over
end Go.Proofs.Ytmofaabndjnhjaa.minerKeeps
namespace Go.Proofs.Ytmofaabndjnhjaa
theorem minerKeeps_holds : Rows.MinerKeepsUptoSaid := minerKeeps.proved
end Go.Proofs.Ytmofaabndjnhjaa
