/- The law TemplateMines: its walk. -/
import Derived.Test.YtmofaabndjnhjaaFinding
import Derived.Test.YtmofaabndjnhjaaOrder
import Derived.Test.YtmofaabndjnhjaaOpened
set_option linter.unusedVariables false
namespace Go.Proofs.Ytmofaabndjnhjaa
open Go Go.Aw Go.Pl Go.RowKit
theorem toks_size {s : ByteArray} {ts : List ByteArray} (h : toksOf s = some ts) : ∀ t ∈ ts, t.size ≤ s.size := fun t ht => by
  unfold toksOf at h
  split at h
  · cases h
  · rw [← Option.some.inj h] at ht
    obtain ⟨x, hx, rfl⟩ := List.mem_map.1 ht
    unfold varB
    split
    · exact Nat.zero_le _
    · exact fieldsB_size hx
theorem mineL_size {ls : List ByteArray} {K : Nat} (h : ∀ s ∈ ls, s.size ≤ K) {a : El} (ha : a ∈ mineL ls) : ∀ s ∈ a.1, s.size ≤ K := fun s hs => by
  rcases ofQ_from ha s hs with rfl | ⟨t, ht, h1⟩
  · exact Nat.zero_le _
  · obtain ⟨x, hx, h2⟩ := List.mem_filterMap.1 ht
    obtain ⟨ts, h3, h4⟩ := Option.map_eq_some_iff.1 h2
    rw [← h4] at h1
    exact Nat.le_trans (toks_size h3 s h1) (h x hx)
theorem keys_len1 {out : List Tm} {q : List El} (h : keys out = ofQ q) : ∀ t ∈ out, 1 ≤ t.toks.length := fun t ht => by
  have h1 : t.key ∈ keys out := List.mem_map_of_mem ht
  rw [h] at h1
  exact (allQ_len ((srtE_perm _).mem_iff.1 h1)).1
theorem strs_nil (m : Hp) : Strs m (.slice none 0 0) [] := ⟨none, 0, 0, rfl, rfl, .inl rfl⟩
theorem fill3f : (fun (A B C : Option Addr) (n1 c1 n2 c2 n3 c3 : Nat) => Instr.fill (fun i => some (i * 1, 1)) (Array.map (fun x => (Value.slice none 0 0).cells[x % (Value.slice none 0 0).cells.size]!) (Array.range (3 * 1))) [(0, Value.slice A n1 c1), (1, Value.slice B n2 c2), (2, Value.slice C n3 c3)]) = fun A B C n1 c1 n2 c2 n3 c3 => some #[Value.slice A n1 c1, Value.slice B n2 c2, Value.slice C n3 c3] := by kernel_rfl
theorem fill3 (A B C : Option Addr) (n1 c1 n2 c2 n3 c3 : Nat) : Instr.fill (fun i => some (i * 1, 1)) (Array.map (fun x => (Value.slice none 0 0).cells[x % (Value.slice none 0 0).cells.size]!) (Array.range (3 * 1))) [(0, Value.slice A n1 c1), (1, Value.slice B n2 c2), (2, Value.slice C n3 c3)] = some #[Value.slice A n1 c1, Value.slice B n2 c2, Value.slice C n3 c3] :=
  congrFun (congrFun (congrFun (congrFun (congrFun (congrFun (congrFun (congrFun (congrFun fill3f A) B) C) n1) c1) n2) c2) n3) c3
theorem e3 : Enters Try.prog 3 := enters_of Try.func3 (by kernel_rfl) rfl
set_option maxHeartbeats 4000000 in
set_option maxRecDepth 100000 in
theorem F3 (m : Hp) (A0 A1 : Option Addr) (c0 c1 : Nat) (raw : List ByteArray) (l1 : List UInt8) (h0 : Strs m (.slice A0 raw.length c0) raw) (hsr : ∀ s ∈ raw, s.size ≤ 16777216) (h1 : RdSl m encB 1 (.slice A1 l1.length c1) l1) (hc1 : l1.length ≤ c1) (hl1 : l1.length ≤ 1048576) :
    RC Try.prog 3 #[.slice A0 raw.length c0, .slice A1 l1.length c1] m (.bool true) := by
  refine rc_of_gc fun m1 hm => gc_intro (vs := [_, _]) Try.func3 rfl Try.ntmps3 (by simp) ?_
  refine awp_rs (ao_r (rig_assign rfl rfl) rfl (ao_nil ?_))
  refine awp_sk fun K1 hK1 => awp_rs ?_
  refine ao_r (rig_call (vs := []) rfl rfl e9 (F9 m1)) rfl (ao_r (rig_not rfl rfl) rfl (ao_nil ?_))
  refine awp_false rfl (awp_skip (hK1 _ _ (awp_sk fun K2 hK2 => awp_rs ?_)))
  refine ao_r (rig_move rfl rfl) rfl (ao_r (rig_lenSl rfl rfl Try.underlying22) rfl (ao_r (rig_gtr rfl rfl rfl) rfl (ao_nil ?_)))
  refine awp_if rfl (fun h => ?_) (fun h => ?_)
  · refine awp_rs (ao_r (rig_assign rfl rfl) rfl (ao_nil ?_))
    exact awp_ret ⟨_, res1 Try.results3 rfl, rfl, HpLe.refl _⟩
  have hrl : raw.length ≤ 30 := by omega
  refine awp_skip (hK2 _ _ (awp_rs (ao_r (rig_move rfl rfl) rfl ?_)))
  refine ao_x (ex_call (vs := [_, _]) rfl rfl e10 (F10 m1 A1 c1 l1 200 (RdSl.le h1 hm) hc1 (by omega) (by decide))) rfl fun u m2 ⟨p, hu, hC2⟩ => ?_
  subst hu
  refine ao_r (rig_assign rfl rfl) rfl (ao_nil (awp_rs (ao_r (rig_move rfl rfl) rfl ?_)))
  refine ao_x (ex_call (vs := [_, _]) rfl rfl e11 (F11 m1 p m1 m2 24 (by decide) hC2)) rfl fun vl m3 ⟨ls, x, F', hll, hsz, hOx, hDx, hFx, hC3⟩ => ?_
  refine ao_r (rig_assign rfl rfl) rfl (ao_nil ?_)
  have hx3 : HpLe x m3 := (le_at 0 hDx rfl).trans hC3.le
  have h13 : HpLe m1 m3 := hFx.trans ((le_at 1 hDx rfl).trans hC3.le)
  have hst3 : Strs m3 vl ls := RdSl.le hOx.rd hx3
  have hrw3 : Strs m3 (.slice A0 raw.length c0) raw := RdSl.le h0 (hm.trans h13)
  obtain ⟨Al, cl, rfl⟩ := hOx.len encS_len (by decide)
  refine awp_u (awp_sk fun K3 hK3 => awp_rs ?_)
  refine ao_r (rig_move rfl rfl) rfl (ao_r (rig_move rfl rfl) rfl (ao_r (rig_move rfl rfl) rfl ?_))
  have h3U : HpLe m3 (U [m3]) := by rw [U_single]; exact HpLe.refl _
  refine ao_x (ex_appendNil (by_ := 16) rfl (Dj_single m3) rfl rfl Try.underlying22 inf9 rfl (by decide) (by decide) (Go.Aw.Src.le hst3 h3U) (one_rows encS_one _) (by rw [rows_length encS_len]; omega)) rfl fun v4 m4 ⟨y, hOy, hm4, hDy⟩ => ?_
  subst hm4
  refine ao_r (rig_move rfl rfl) rfl ?_
  refine ao_x (ex_append 0 (by_ := 16) rfl hDy rfl rfl Try.underlying22 inf9 rfl (by decide) (by decide) hOy rfl (Go.Aw.Src.le hrw3 (le_at 1 hDy rfl)) (one_rows encS_one _) (by rw [rows_length encS_len, rows_length encS_len]; omega)) rfl fun v5 m5 ⟨z, hOz, hm5, hDz⟩ => ?_
  subst hm5
  rw [← rows_append] at hOz
  obtain ⟨Az, cz, rfl⟩ := hOz.len encS_len (by decide)
  refine ao_x (ex_buildSlice (cs := #[.slice A0 raw.length c0, .slice Al ls.length cl, .slice Az (ls ++ raw).length cz]) rfl hDz rfl Try.underlying28 Try.sizeOf22 Try.zeroValue22 (by decide) (by decide) (fill3 ..)) rfl fun u m6 ⟨b, hu, hm6, hD6⟩ => ?_
  subst hu hm6
  refine ao_r (rig_lenSl rfl rfl Try.underlying28) rfl (ao_r (rig_move rfl rfl) rfl (ao_nil ?_))
  have h36 : HpLe m3 (U [Go.Aw.one b (.cells #[.slice A0 raw.length c0, .slice Al ls.length cl, .slice Az (ls ++ raw).length cz] 22 (0, 0)), z, m3]) := le_at 2 hD6 rfl
  have hz6 : HpLe z (U [Go.Aw.one b (.cells #[.slice A0 raw.length c0, .slice Al ls.length cl, .slice Az (ls ++ raw).length cz] 22 (0, 0)), z, m3]) := le_at 1 hD6 rfl
  have hsel : ∀ j, j < 3 → ∃ v xs, cell (U [Go.Aw.one b (.cells #[.slice A0 raw.length c0, .slice Al ls.length cl, .slice Az (ls ++ raw).length cz] 22 (0, 0)), z, m3]) b (0 + j * 1) = some v ∧ Strs (U [Go.Aw.one b (.cells #[.slice A0 raw.length c0, .slice Al ls.length cl, .slice Az (ls ++ raw).length cz] 22 (0, 0)), z, m3]) v xs ∧ (∀ s ∈ xs, s.size ≤ 16777216) ∧ xs.length ≤ 54 := fun j hj => by
    match j, hj with
    | 0, _ => exact ⟨_, raw, cell_at 0 hD6 rfl rfl, RdSl.le hrw3 h36, hsr, by omega⟩
    | 1, _ => exact ⟨_, ls, cell_at 0 hD6 rfl rfl, RdSl.le hst3 h36, fun s hs => Nat.le_trans (hsz s hs) (by decide), by omega⟩
    | 2, _ => exact ⟨_, ls ++ raw, cell_at 0 hD6 rfl rfl, RdSl.le hOz.rd hz6, fun s hs => by
        rcases List.mem_append.1 hs with h | h
        · exact Nat.le_trans (hsz s h) (by decide)
        · exact hsr s h, by rw [List.length_append]; omega⟩
    | j + 3, h => omega
  have h16 := h13.trans h36
  have h06 : HpLe m1 (U [Go.Aw.one b (.cells #[.slice A0 raw.length c0, .slice Al ls.length cl, .slice Az (ls ++ raw).length cz] 22 (0, 0)), z, m3]) := h16
  show AWp _ _ _ _ _ (U [Go.Aw.one b (.cells #[.slice A0 raw.length c0, .slice Al ls.length cl, .slice Az (ls ++ raw).length cz] 22 (0, 0)), z, m3])
  generalize U [Go.Aw.one b (.cells #[.slice A0 raw.length c0, .slice Al ls.length cl, .slice Az (ls ++ raw).length cz] 22 (0, 0)), z, m3] = m6 at *
  refine awp_block ?_
  refine awp_le [(34, .slice (some ⟨b, 0, none⟩) 3 3), (35, .int .i64 (3 : Nat)), (36, .int .i64 (0 : Nat))] ⟨rfl, rfl, rfl, trivial⟩ ?_
  refine awp_loop (fun kk r mm => ∃ j : Nat, j ≤ 3 ∧ kk = 3 - j ∧ r = [(34, .slice (some ⟨b, 0, none⟩) 3 3), (35, .int .i64 (3 : Nat)), (36, .int .i64 j)] ∧ HpLe m6 mm) _ ⟨0, by omega, rfl, rfl, HpLe.refl _⟩ ?_
  rintro kk r mm ⟨j, hj, rfl, rfl, hle⟩
  refine awp_rs (ao_r (rig_lss rfl rfl rfl) rfl (ao_nil ?_))
  refine awp_sk fun K4 hK4 => ?_
  refine awp_if rfl (fun h2 => ?_) (fun h2 => ?_)
  · refine awp_skip (hK4 _ _ (awp_sk fun K5 hK5 => awp_block (awp_rs ?_)))
    obtain ⟨v, xs, hcv, hxs, hxz, hxl⟩ := hsel j (by omega)
    obtain ⟨Ax, cx, rfl, _⟩ := RdSl.form encS_len (by decide) hxs
    refine ao_r (rig_ix j rfl rfl rfl Try.underlying28 Try.sizeOf22 rfl rfl (by omega)) rfl (ao_r (rig_load1 rfl rfl Try.isAgg22 (cell_le hle hcv)) rfl (ao_r (rig_assign rfl rfl) rfl (ao_nil ?_)))
    refine awp_rs (ao_r (rig_move rfl rfl) rfl ?_)
    refine ao_x (ex_call rfl rfl e12 (F12 mm _ xs (RdSl.le hxs hle) hxz (by omega))) rfl fun va m7 ⟨o1, q1, G1, hO1, hm7, hD7, hG1, hT1, hk1, hn1⟩ => ?_
    have h7 : HpLe mm m7 := by rw [hm7]; exact hG1.trans (le_at 1 hD7 rfl)
    have hv1 : Tms m7 va o1 := by rw [hm7]; exact RdSl.le hO1.rd (le_at 0 hD7 rfl)
    have hT7 : ∀ t ∈ o1, t.Ok m7 := fun t ht => by rw [hm7]; exact (hT1 t ht).le (le_at 1 hD7 rfl)
    clear hm7
    refine ao_r (rig_move rfl rfl) rfl ?_
    refine ao_x (ex_call rfl rfl e13 (F13 m7 _ xs (RdSl.le hxs (hle.trans h7)) hxz (by omega))) rfl fun vb m8 ⟨o2, h8, hv2, hT2, hk2, hn2⟩ => ?_
    obtain ⟨A2, c2, rfl, _⟩ := RdSl.form encT_len (by decide) hv2
    refine ao_r (rig_assign rfl rfl) rfl (ao_r (rig_assign rfl rfl) rfl (ao_nil ?_))
    have h14 := F14 m8 va _ o1 o2 (RdSl.le hv1 h8) hv2 (fun t ht => (hT7 t ht).le h8) hT2 (by omega) (fun t ht => Nat.le_trans (keys_len60 hk1 t ht) (by decide))
    rw [decide_eq_true (show keys o1 = keys o2 by rw [hk1, hk2])] at h14
    refine awp_sk fun K6 hK6 => awp_rs ?_
    refine ao_r (rig_move rfl rfl) rfl (ao_r (rig_move rfl rfl) rfl (ao_r (rig_call rfl rfl e14 h14) rfl (ao_r (rig_not rfl rfl) rfl (ao_nil ?_))))
    refine awp_false rfl (awp_skip (hK6 _ _ (awp_sk fun K7 hK7 => awp_rs ?_)))
    refine ao_r (rig_move rfl rfl) rfl (ao_r (rig_lenSl rfl rfl Try.underlying29) rfl (ao_r (rig_move rfl rfl) rfl (ao_nil ?_)))
    refine awp_block ?_
    refine awp_le [(8, .slice Ax xs.length cx), (34, .slice (some ⟨b, 0, none⟩) 3 3), (35, .int .i64 (3 : Nat)), (36, .int .i64 j), (48, .slice A2 o2.length c2), (49, .int .i64 o2.length), (50, .int .i64 (0 : Nat))] ⟨rfl, rfl, rfl, rfl, rfl, rfl, rfl, trivial⟩ ?_
    refine awp_loop (fun kk r m' => ∃ i : Nat, i ≤ o2.length ∧ kk = o2.length - i ∧ r = [(8, .slice Ax xs.length cx), (34, .slice (some ⟨b, 0, none⟩) 3 3), (35, .int .i64 (3 : Nat)), (36, .int .i64 j), (48, .slice A2 o2.length c2), (49, .int .i64 o2.length), (50, .int .i64 i)] ∧ HpLe m8 m') _ ⟨0, by omega, rfl, rfl, HpLe.refl _⟩ ?_
    rintro kk r m' ⟨i, hi, rfl, rfl, hle8⟩
    refine awp_rs (ao_r (rig_lss rfl rfl rfl) rfl (ao_nil ?_))
    refine awp_sk fun K8 hK8 => ?_
    refine awp_if rfl (fun h3 => ?_) (fun h3 => ?_)
    · have hil : i < o2.length := by omega
      obtain ⟨t, ht⟩ := get_lt hil
      have htm := List.mem_of_getElem? ht
      obtain ⟨bt, ot, ct, et, htc⟩ := Tms.get (RdSl.le hv2 hle8) ht
      simp only [Value.slice.injEq] at et
      obtain ⟨rfl, _, rfl⟩ := et
      refine awp_skip (hK8 _ _ (awp_sk fun K9 hK9 => awp_block (awp_rs ?_)))
      refine ao_r (rig_ix i rfl rfl rfl Try.underlying29 Try.sizeOf33 rfl rfl hil) rfl (ao_r (rig_loadN (vs := encT t) rfl rfl Try.isAgg33 Try.sizeOf33 htc) rfl ?_)
      refine ao_var Try.zeroValue33 rfl rfl (fun t h => by cases h; rfl) Try.sizeOf33 rfl (encT_one t) fun b12 m12 hl12 hc12 => ao_nil ?_
      have htk : t.key ∈ mineL xs := by rw [← hk2]; exact List.mem_map_of_mem htm
      have hts := mineL_size hxz htk
      have ht1 := keys_len1 hk2 t htm
      have ht60 := keys_len60 hk2 t htm
      have hok12 := (hT2 t htm).le (hle8.trans hl12)
      refine awp_ds (.q 0 (.q 1 (.q 2 (.q 3 (.q 4 .fin))))) [] (by kernel_rfl) (by kernel_rfl) ?_
      refine oq rfl (rig_loadN (vs := encT t) rfl rfl Try.isAgg33 Try.sizeOf33 hc12) rfl (oq rfl (rig_call rfl rfl e15 (F15 _ t hok12 ht1 (by omega) hts)) rfl (oq rfl (rig_loadN (vs := encT t) rfl rfl Try.isAgg33 Try.sizeOf33 hc12) rfl (oq rfl (rig_call rfl rfl e16 (F16 _ t hok12 (by omega) hts)) rfl (oq rfl (rig_sneq rfl rfl rfl) rfl (od_fin ?_)))))
      refine awp_ifn rfl (fun h4 => absurd rfl h4) (fun h4 => ?_)
      refine awp_skip (hK9 _ _ (awp_region ?_))
      refine ao_r (rig_add (c := ((i + 1 : Nat) : Int)) rfl rfl rfl (w64 _ (by omega) (by omega))) rfl (ao_r (rig_move rfl rfl) rfl (ao_nil ?_))
      exact ⟨[(8, .slice Ax xs.length cx), (34, .slice (some ⟨b, 0, none⟩) 3 3), (35, .int .i64 (3 : Nat)), (36, .int .i64 j), (48, .slice (some ⟨bt, ot, none⟩) o2.length c2), (49, .int .i64 o2.length), (50, .int .i64 (i + 1 : Nat))], _, ⟨rfl, rfl, rfl, rfl, rfl, rfl, rfl, trivial⟩, by omega, i + 1, by omega, rfl, rfl, hle8.trans hl12⟩
    · refine awp_exit (hK7 _ _ (awp_rs ?_))
      refine ao_r (rig_move rfl rfl) rfl (ao_r (rig_lenSl rfl rfl Try.underlying22) rfl (ao_r (rig_move rfl rfl) rfl (ao_nil ?_)))
      refine awp_block ?_
      refine awp_le [(34, .slice (some ⟨b, 0, none⟩) 3 3), (35, .int .i64 (3 : Nat)), (36, .int .i64 j), (60, .slice Ax xs.length cx), (61, .int .i64 xs.length), (62, .int .i64 (0 : Nat))] ⟨rfl, rfl, rfl, rfl, rfl, rfl, trivial⟩ ?_
      have h6m : HpLe m6 m' := (hle.trans (h7.trans h8)).trans hle8
      refine awp_loop (fun kk r m'' => ∃ i : Nat, i ≤ xs.length ∧ kk = xs.length - i ∧ r = [(34, .slice (some ⟨b, 0, none⟩) 3 3), (35, .int .i64 (3 : Nat)), (36, .int .i64 j), (60, .slice Ax xs.length cx), (61, .int .i64 xs.length), (62, .int .i64 i)] ∧ HpLe m6 m'') _ ⟨0, by omega, rfl, rfl, h6m⟩ ?_
      clear hle8 h6m h3 hi
      rintro kk r mq ⟨i, hi, rfl, rfl, hle9⟩
      refine awp_rs (ao_r (rig_lss rfl rfl rfl) rfl (ao_nil ?_))
      refine awp_sk fun K10 hK10 => ?_
      refine awp_if rfl (fun h3 => ?_) (fun h3 => ?_)
      · have hil : i < xs.length := by omega
        obtain ⟨s, hs⟩ := get_lt hil
        have hsm := List.mem_of_getElem? hs
        obtain ⟨bs, os_, cs, es, hsc⟩ := Strs.get (RdSl.le hxs hle9) hs
        simp only [Value.slice.injEq] at es
        obtain ⟨rfl, _, rfl⟩ := es
        refine awp_skip (hK10 _ _ (awp_sk fun K11 hK11 => awp_block (awp_rs ?_)))
        refine ao_r (rig_ix i rfl rfl rfl Try.underlying22 Try.sizeOf9 rfl rfl hil) rfl (ao_r (rig_load1 rfl rfl Try.isAgg9 hsc) rfl (ao_r (rig_assign rfl rfl) rfl (ao_nil ?_)))
        refine awp_rs (ao_r (rig_move rfl rfl) rfl ?_)
        refine ao_x (ex_call rfl rfl e17 (F17 mq s (hxz s hsm))) rfl fun u1 m9 ⟨c9, F9', hD9, hm9, hR1⟩ => ?_
        have h9 : HpLe mq m9 := by rw [hm9]; exact le_at 2 hD9 rfl
        have hc9 : HpLe c9 m9 := by rw [hm9]; exact le_at 0 hD9 rfl
        have hfin : ∀ (mz : Hp), HpLe mq mz → ∀ r', EnvLe [(34, .slice (some ⟨b, 0, none⟩) 3 3), (35, .int .i64 (3 : Nat)), (36, .int .i64 j), (60, .slice (some ⟨bs, os_, none⟩) xs.length cx), (61, .int .i64 xs.length), (62, .int .i64 i)] r' → K11 r' mz := fun mz hz r' hr => by
          refine hK11 _ _ (awp_le _ hr (awp_region ?_))
          refine ao_r (rig_add (c := ((i + 1 : Nat) : Int)) rfl rfl rfl (w64 _ (by omega) (by omega))) rfl (ao_r (rig_move rfl rfl) rfl (ao_nil ?_))
          exact ⟨[(34, .slice (some ⟨b, 0, none⟩) 3 3), (35, .int .i64 (3 : Nat)), (36, .int .i64 j), (60, .slice (some ⟨bs, os_, none⟩) xs.length cx), (61, .int .i64 xs.length), (62, .int .i64 (i + 1 : Nat))], _, ⟨rfl, rfl, rfl, rfl, rfl, rfl, trivial⟩, by omega, i + 1, by omega, rfl, rfl, hle9.trans hz⟩
        rcases hR1 with ⟨hno, rfl⟩ | ⟨ts, v1, hts, rfl, hOt⟩
        · refine ao_r (rig_move rfl rfl) rfl (ao_r (rig_extract rfl rfl rfl) rfl (ao_r (rig_extract rfl rfl rfl) rfl (ao_r (rig_assign rfl rfl) rfl (ao_r (rig_assign rfl rfl) rfl (ao_nil ?_)))))
          refine awp_rs (ao_r (rig_move rfl rfl) rfl ?_)
          refine ao_x (ex_call rfl rfl e18 (F18 m9 s (hxz s hsm))) rfl fun u2 m10 ⟨c10, F10', hD10, hm10, hR2⟩ => ?_
          have h10 : HpLe m9 m10 := by rw [hm10]; exact le_at 2 hD10 rfl
          rcases hR2 with ⟨_, rfl⟩ | ⟨ts, v1, hts, _⟩
          · refine ao_r (rig_move rfl rfl) rfl (ao_r (rig_extract rfl rfl rfl) rfl (ao_r (rig_extract rfl rfl rfl) rfl (ao_r (rig_assign rfl rfl) rfl (ao_r (rig_assign rfl rfl) rfl (ao_nil ?_)))))
            refine awp_rs ?_
            have h19 := F19 m10 _ _ [] [] (strs_nil m10) (strs_nil m10) (by simp)
            rw [decide_eq_true rfl] at h19
            refine ao_r (rig_move rfl rfl) rfl (ao_r (rig_move rfl rfl) rfl (ao_r (rig_bneq rfl Try.underlying4 rfl rfl) rfl (ao_r (rig_move rfl rfl) rfl ?_)))
            refine ao_on rfl rfl (ao_r (rig_move rfl rfl) rfl ?_)
            refine ao_on rfl rfl (ao_r (rig_move rfl rfl) rfl ?_)
            refine ao_on rfl rfl (ao_r (rig_call rfl rfl e19 h19) rfl ?_)
            refine ao_on rfl rfl (ao_r (rig_not rfl rfl) rfl ?_)
            refine ao_r (rig_pickF rfl rfl rfl) rfl (ao_nil ?_)
            exact awp_false rfl (awp_skip (hfin m10 (h9.trans h10) _ ⟨rfl, rfl, rfl, rfl, rfl, rfl, trivial⟩))
          · rw [hno] at hts; cases hts
        · refine ao_r (rig_move rfl rfl) rfl (ao_r (rig_extract rfl rfl rfl) rfl (ao_r (rig_extract rfl rfl rfl) rfl (ao_r (rig_assign rfl rfl) rfl (ao_r (rig_assign rfl rfl) rfl (ao_nil ?_)))))
          refine awp_rs (ao_r (rig_move rfl rfl) rfl ?_)
          refine ao_x (ex_call rfl rfl e18 (F18 m9 s (hxz s hsm))) rfl fun u2 m10 ⟨c10, F10', hD10, hm10, hR2⟩ => ?_
          have h10 : HpLe m9 m10 := by rw [hm10]; exact le_at 2 hD10 rfl
          have hc10 : HpLe c10 m10 := by rw [hm10]; exact le_at 0 hD10 rfl
          rcases hR2 with ⟨hno, _⟩ | ⟨ts2, v2, hts2, rfl, hOt2⟩
          · rw [hno] at hts; cases hts
          · obtain rfl : ts = ts2 := by rw [hts] at hts2; exact Option.some.inj hts2
            refine ao_r (rig_move rfl rfl) rfl (ao_r (rig_extract rfl rfl rfl) rfl (ao_r (rig_extract rfl rfl rfl) rfl (ao_r (rig_assign rfl rfl) rfl (ao_r (rig_assign rfl rfl) rfl (ao_nil ?_)))))
            refine awp_rs ?_
            have h19 := F19 m10 v1 v2 ts ts (RdSl.le hOt.rd (hc9.trans h10)) (RdSl.le hOt2.rd hc10) (by have := (toksOf_len hts).2; omega)
            rw [decide_eq_true rfl] at h19
            refine ao_r (rig_move rfl rfl) rfl (ao_r (rig_move rfl rfl) rfl (ao_r (rig_bneq rfl Try.underlying4 rfl rfl) rfl (ao_r (rig_move rfl rfl) rfl ?_)))
            refine ao_on rfl rfl (ao_r (rig_move rfl rfl) rfl ?_)
            refine ao_on rfl rfl (ao_r (rig_move rfl rfl) rfl ?_)
            refine ao_on rfl rfl (ao_r (rig_call rfl rfl e19 h19) rfl ?_)
            refine ao_on rfl rfl (ao_r (rig_not rfl rfl) rfl ?_)
            refine ao_r (rig_pickF rfl rfl rfl) rfl (ao_nil ?_)
            exact awp_false rfl (awp_skip (hfin m10 (h9.trans h10) _ ⟨rfl, rfl, rfl, rfl, rfl, rfl, trivial⟩))
      · refine awp_exit (hK5 _ _ (awp_region ?_))
        refine ao_r (rig_add (c := ((j + 1 : Nat) : Int)) rfl rfl rfl (w64 _ (by omega) (by omega))) rfl (ao_r (rig_move rfl rfl) rfl (ao_nil ?_))
        exact ⟨[(34, .slice (some ⟨b, 0, none⟩) 3 3), (35, .int .i64 (3 : Nat)), (36, .int .i64 (j + 1 : Nat))], _, ⟨rfl, rfl, rfl, trivial⟩, by omega, j + 1, by omega, rfl, rfl, hle9⟩
  · refine awp_exit (hK3 _ _ (awp_rs (ao_r (rig_assign rfl rfl) rfl (ao_nil ?_))))
    exact awp_ret ⟨_, res1 Try.results3 rfl, rfl, h06.trans hle⟩
end Go.Proofs.Ytmofaabndjnhjaa
/- The law TemplateMines holds: 'TemplateMinesUptoSaid'; no condition but the row's own: what the arguments hold together is of bulk at most 1048576. -/
set_option linter.unusedVariables false
namespace Go.Proofs.Ytmofaabndjnhjaa.templateMines
open Go.ChangeShapes Go.WideShapes Go.ChangeAt Go.RowKit
set_option maxRecDepth 100000 in
theorem contract (H : Type) (enc : TypeId × Value → H) (W : World) (base : Nat) (args : Array Value) (ds gs : List (DataW H)) (before : List MemPlace)
    (hval : ∀ (j : Nat) t v, Try.f3.params[j]? = some t → args[j]? = some v → Value.okWide Try.prog W .any base t v)
    (hW : DataW.Whole enc Try.prog Try.f3.params.toList Rows.templateMinesSpec.vars false W args.toList ds gs before) (hk : Rows.uptoSmall H (ds ++ gs) = true) :
    Calls Try.prog 3 args W fun e W' => ∃ v, e = .returned v ∧ Rows.templateMinesSpec.post enc Try.prog Try.f3 false true false false W args v W' := by
  have hW' := hW
  obtain ⟨p, q, hA0, hV, rfl, hfz, hnd⟩ := hW
  have hA : DataW.TrodAll enc Try.prog W 0 (fun _ => true) true Try.f3.params.toList args.toList ds p := hA0
  obtain ⟨rfl, rfl⟩ := trodVars_none hV
  have hb := bulk_bound hk
  rw [List.append_nil] at hb
  rw [Try.params3] at hA hval
  obtain ⟨v0, vs0, d0, ds0, p0, q0, hargs, rfl, rfl, h0, r0⟩ := trodAll_cons hA
  obtain ⟨v1, vs1, d1, ds1, p1, q1, rfl, rfl, rfl, h1, r1⟩ := trodAll_cons r0
  obtain ⟨rfl, rfl, rfl⟩ := trodAll_nil r1
  obtain rfl : args = #[v0, v1] := by cases args; simp_all
  obtain ⟨A0, c0, raw, rfl, hr0, hz0, hl0, hc0⟩ := open_lines (hval 0 22 v0 rfl rfl) h0 (Nat.le_trans (bulk_mem (List.mem_cons_self ..)) hb)
  obtain ⟨A1, c1, l1, rfl, hr1, hc1, hl1⟩ := open_bytes (hval 1 23 v1 rfl rfl) h1 (Nat.le_trans (bulk_mem (List.mem_cons_of_mem _ (List.mem_cons_self ..))) hb)
  refine (F3 (Go.Aw.all W) A0 A1 c0 c1 raw l1 hr0 (fun s hs => Nat.le_trans (hz0 s hs) (by decide)) hr1 hc1 hl1 W W (Go.Aw.sat_all W)).mono fun e W' ⟨he, hbel⟩ => ⟨_, he, law_post rfl (by kernel_rfl) rfl ?_ hW' hbel.toBelow⟩
  rw [Try.params3]
  intro t ht
  simp at ht
  rcases ht with rfl | rfl <;> exact ⟨by kernel_rfl, of_decide_eq_true (by kernel_rfl)⟩
set_option maxRecDepth 100000 in
theorem lifted (os : Os) (started : os.Started) (H : Type) (enc : TypeId × Value → H) (F : Stop.Interp) :
    ReturnsInHanded {} Try.checked os 3 .any ((Rows.OpenSpec.upto Rows.templateMinesSpec).pre6 enc Try.prog Try.f3 Rows.templateMinesUptoRow.domain false) (((Rows.OpenSpec.upto Rows.templateMinesSpec).at F).post enc Try.prog Try.f3 false true false false) := by
  refine returnsInHanded_of_cond (C := Try.checked) (s := Rows.OpenSpec.upto Rows.templateMinesSpec) (k := Rows.uptoSmall) rfl ownK started (by kernel_rfl) Try.func3
    (OpenSpec.witness (enc := enc) (C := Try.checked) (s := Rows.OpenSpec.upto Rows.templateMinesSpec) (k := Rows.uptoSmall) rfl false ⟨#[], #[.slice none 0 0, .slice none 0 0], []⟩ 8 (by kernel_rfl) (by kernel_rfl) (by kernel_rfl)
      (x := ([.nil, .nil], [], [])) (by kernel_rfl) rfl (by kernel_rfl)) ?_
  intro W base args ds gs before hval hW _ hk _
  exact contract H enc W base args ds gs before hval hW hk
theorem over : Rows.templateMinesUptoRow.holds Try.pinned (Rows.OpenSpec.upto Rows.templateMinesSpec) :=
  OpenClaim.holds_of_cond 3 Try.f3 rfl rfl rfl rfl rfl rfl rfl ⟨rfl, rfl, rfl, rfl, rfl⟩ rfl rfl rfl rfl rfl (by kernel_rfl) Try.func3 (by kernel_rfl)
    (of_decide_eq_true (by kernel_rfl)) (by unfold Func.isWrapper; first | (rw [if_pos (by decide +kernel)]; kernel_rfl) | (rw [if_neg (by decide +kernel)]; exact ⟨rfl, rfl⟩))
    (fun os started H enc _ F => lifted os started H enc F)
theorem proved : Rows.TemplateMinesUptoSaid :=
  over
end Go.Proofs.Ytmofaabndjnhjaa.templateMines
namespace Go.Proofs.Ytmofaabndjnhjaa
theorem templateMines_holds : Rows.TemplateMinesUptoSaid := templateMines.proved
end Go.Proofs.Ytmofaabndjnhjaa
