/- The law TemplateOrder: its walk. -/
import Derived.Test.YtmofaabndjnhjaaAnswers
set_option linter.unusedVariables false
namespace Go.Proofs.Ytmofaabndjnhjaa
open Go Go.Aw Go.Pl Go.RowKit
theorem lineE_ok (ls : List ByteArray) : okI (lineE ls) := fun t ht => by
  obtain ⟨s, _, h2⟩ := List.mem_filterMap.1 ht
  obtain ⟨ts, _, h3⟩ := Option.map_eq_some_iff.1 h2
  rw [← h3]; show (1 : Int) ≤ 9223372036854775807; decide
theorem mineL_perm {ls ls' : List ByteArray} (h : ls.Perm ls') : mineL ls = mineL ls' := ofQ_perm (h.filterMap _) (lineE_ok ls)
theorem keys_len60 {out : List Tm} {q : List El} (h : keys out = ofQ q) : ∀ t ∈ out, t.toks.length ≤ 60 := fun t ht => by
  have h1 : t.key ∈ keys out := List.mem_map_of_mem ht
  rw [h] at h1
  exact (allQ_len ((srtE_perm _).mem_iff.1 h1)).2
theorem e4 : Enters Try.prog 4 := enters_of Try.func4 (by kernel_rfl) rfl
set_option maxHeartbeats 4000000 in
set_option maxRecDepth 100000 in
theorem F4 (m : Hp) (A0 A1 : Option Addr) (c0 c1 : Nat) (l0 l1 : List UInt8) (h0 : RdSl m encB 1 (.slice A0 l0.length c0) l0) (h1 : RdSl m encB 1 (.slice A1 l1.length c1) l1) (hc0 : l0.length ≤ c0) (hc1 : l1.length ≤ c1) (hl0 : l0.length ≤ 1048576) (hl1 : l1.length ≤ 1048576) :
    RC Try.prog 4 #[.slice A0 l0.length c0, .slice A1 l1.length c1] m (.bool true) := by
  refine rc_of_gc fun m1 hm => gc_intro (vs := [_, _]) Try.func4 rfl Try.ntmps4 (by simp) ?_
  refine awp_rs (ao_r (rig_assign rfl rfl) rfl (ao_nil ?_))
  refine awp_sk fun K1 hK1 => awp_rs ?_
  refine ao_r (rig_call (vs := []) rfl rfl e9 (F9 m1)) rfl (ao_r (rig_not rfl rfl) rfl (ao_nil ?_))
  refine awp_false rfl (awp_skip (hK1 _ _ (awp_rs ?_)))
  refine ao_r (rig_move rfl rfl) rfl ?_
  refine ao_x (ex_call (vs := [_, _]) rfl rfl e10 (F10 m1 A0 c0 l0 200 (RdSl.le h0 hm) hc0 (by omega) (by decide))) rfl fun u m2 ⟨p, hu, hC2⟩ => ?_
  subst hu
  refine ao_x (ex_call (vs := [_, _]) rfl rfl e11 (F11 m1 p m1 m2 24 (by decide) hC2)) rfl fun vl m3 ⟨ls, x, F', hll, hsz, hOx, hDx, hFx, hC3⟩ => ?_
  refine ao_r (rig_assign rfl rfl) rfl (ao_nil ?_)
  have hx3 : HpLe x m3 := (le_at 0 hDx rfl).trans hC3.le
  have h13 : HpLe m1 m3 := hFx.trans ((le_at 1 hDx rfl).trans hC3.le)
  have hst3 : Strs m3 vl ls := RdSl.le hOx.rd hx3
  refine awp_rs (ao_r (rig_move rfl rfl) rfl ?_)
  refine ao_x (ex_call (vs := [_, _]) rfl rfl e10 (F10 m3 A1 c1 l1 60 (RdSl.le h1 (hm.trans h13)) hc1 (by omega) (by decide))) rfl fun u m4 ⟨p2, hu, hC4⟩ => ?_
  subst hu
  refine ao_r (rig_assign rfl rfl) rfl (ao_nil ?_)
  obtain ⟨cc, hcc, hDc, rfl, _⟩ := hC4
  refine awp_rs (ao_r (rig_move rfl rfl) rfl ?_)
  refine ao_x (ex_appendNil (by_ := 16) rfl hDc rfl rfl Try.underlying22 inf9 rfl (by decide) (by decide) (Go.Aw.Src.le hst3 (le_at 1 hDc rfl)) (one_rows encS_one _) (by rw [rows_length encS_len]; omega)) rfl fun vy m5 ⟨y, hOy, hm5, hDy⟩ => ?_
  subst hm5
  refine ao_r (rig_assign rfl rfl) rfl (ao_nil ?_)
  have hpm : U [y, cc, m3] = U [cc, y, m3] ∧ Dj [cc, y, m3] := U_pm [1, 0, 2] rfl hDy
  obtain ⟨hC5, hD5⟩ := CodH.back hcc hpm.2 (HpLe.refl m3)
  refine awp_L hpm.1 ?_
  generalize U [cc, y, m3] = m6 at hC5
  obtain ⟨Ay, cy, rfl⟩ := hOy.len encS_len (by decide)
  refine awp_sk fun K2 hK2 => awp_rs ?_
  refine ao_r (rig_move rfl rfl) rfl (ao_r (rig_lenSl rfl rfl Try.underlying22) rfl (ao_r (rig_sub rfl rfl rfl (w64 _ (by omega) (by omega))) rfl (ao_r (rig_assign rfl rfl) rfl (ao_nil ?_))))
  refine awp_block ?_
  refine awp_le [(5, vl), (6, .pointer (some ⟨p2, 0, none⟩)), (7, .slice Ay ls.length cy), (8, .int .i64 ((ls.length : Int) - 1))] ⟨rfl, rfl, rfl, rfl, trivial⟩ ?_
  refine awp_loop (fun kk r mm => ∃ (k : Int) (cur : List ByteArray) (y : Hp), -1 ≤ k ∧ k < ls.length ∧ kk = (k + 1).toNat ∧ r = [(5, vl), (6, .pointer (some ⟨p2, 0, none⟩)), (7, .slice Ay ls.length cy), (8, .int .i64 k)] ∧ CodH m3 p2 58 (U [y, m3]) mm ∧ Dj [y, m3] ∧ Own 9 1 y (.slice Ay ls.length cy) (rows encS cur) ∧ cur.Perm ls) _
    ⟨(ls.length : Int) - 1, ls, y, by omega, by omega, rfl, rfl, hC5, hD5, hOy, List.Perm.refl _⟩ ?_
  rintro kk r mm ⟨k, cur, y, hk0, hk1, rfl, rfl, hC, hD, hO, hP⟩
  have hcl := hP.length_eq
  refine awp_sk fun K3 hK3 => awp_rs ?_
  refine ao_r (rig_move rfl rfl) rfl (ao_r (rig_gtr rfl rfl rfl) rfl (ao_nil ?_))
  refine awp_if rfl (fun h => ?_) (fun h => ?_)
  · refine awp_skip (hK3 _ _ (awp_sk fun K4 hK4 => awp_block (awp_rs ?_)))
    refine ao_r (rig_move rfl rfl) rfl (ao_r (rig_move rfl rfl) rfl (ao_r (rig_add rfl rfl rfl (w64 _ (by omega) (by omega))) rfl ?_))
    refine ao_x (ex_call (vs := [_, _]) rfl rfl e20 (F20 m3 p2 (U [y, m3]) mm (k + 1) hC)) rfl fun u m7 ⟨i, hu, hi, hC7⟩ => ao_r (rig_assign rfl rfl) rfl (ao_nil ?_)
    subst hu
    obtain ⟨c7, hc7, rfl, hD7⟩ := CodH.out hC7 hD
    obtain ⟨g, cap, sp, hv, rfl, hsp, hcap, hcm⟩ := hO.some_ encS_len (by decide) (by omega)
    simp only [Value.slice.injEq] at hv
    obtain ⟨rfl, _, rfl⟩ := hv
    obtain ⟨kn, rfl⟩ : ∃ kn : Nat, k = kn := ⟨k.toNat, by omega⟩
    have hkl : kn < cur.length := by omega
    have hil : i < cur.length := by omega
    have hcell : ∀ (q : Nat) (hq : q < cur.length), cell (U [c7, Go.Aw.one g (.cells (rows encS cur ++ sp).toArray 9 (0, 0)), m3]) g (0 + q * 1) = some (.string cur[q]) := fun q hq => by
      refine cell_at 1 hD7 rfl ?_
      have := rows_get encS_len cur q cur[q] (by simp [hq]) 0 (.string cur[q]) rfl
      simp only [List.getElem?_toArray]
      rw [List.getElem?_append_left (by simpa using (List.getElem?_eq_some_iff.1 this).1)]
      simpa using this
    have hck := hcell kn hkl
    have hci := hcell i hil
    have hput : ∀ (cu : List ByteArray) (q : Nat) (z : ByteArray), q < cu.length → putR (rows encS cu ++ sp).toArray (0 + q * 1) (Value.string z).cells.toList = (rows encS (cu.set q z) ++ sp).toArray := fun cu q z hq => by
      rw [Nat.zero_add, show (Value.string z).cells.toList = encS z from rfl, putR_rows encS_len _ q _ sp hq]
    have hbd : ∀ (cu : List ByteArray) (q : Nat) (z : ByteArray), cu.length = ls.length → q < ls.length → 0 + q * 1 + (Value.string z).cells.size ≤ (rows encS cu ++ sp).toArray.size := fun cu q z hc hq => by
      simp [Value.cells, rows_length encS_len, hc]; omega
    refine awp_draw (.q 0 (.q 1 (.p 2 (.p 3 (.q 4 (.q 5 (.q 6 (.q 7 (.q 8 (.q 9 (.q 10 (.q 11 (.q 12 (.s 13 (.q 14 (.s 15 .fin)))))))))))))))) [13, 15] (by kernel_rfl) (by kernel_rfl) ?_
    refine oq rfl (rig_move rfl rfl) rfl (oq rfl (rig_move rfl rfl) rfl (opu rfl (rig_move rfl rfl) rfl (opu rfl (rig_move rfl rfl) rfl (oq rfl (rig_move rfl rfl) rfl (oq rfl (rig_move rfl rfl) rfl (oq rfl (rig_ix kn rfl rfl rfl Try.underlying22 Try.sizeOf9 rfl rfl (by omega)) rfl (oq rfl (rig_load1 rfl rfl Try.isAgg9 hck) rfl ?_)))))))
    refine oq rfl (rig_move rfl rfl) rfl (oq rfl (rig_move rfl rfl) rfl (oq rfl (rig_ix i rfl rfl rfl Try.underlying22 Try.sizeOf9 rfl rfl (by omega)) rfl (oq rfl (rig_load1 rfl rfl Try.isAgg9 hci) rfl (oq rfl (rig_ix i rfl rfl rfl Try.underlying22 Try.sizeOf9 rfl rfl (by omega)) rfl ?_))))
    refine os0 rfl (ex_store (i := 1) rfl hD7 rfl rfl Try.sizeOf9 (by simp [Value.cells, Value.oneCell']) rfl (hbd cur i _ hcl (by omega))) fun u m8 ⟨_, hm8, hD8⟩ => ⟨fun h => by simp at h, ?_⟩
    have er1 := hput cur i cur[kn] hil
    have hm8' : m8 = U [c7, Go.Aw.one g (.cells (rows encS (cur.set i cur[kn]) ++ sp).toArray 9 (0, 0)), m3] := by rw [hm8, ← er1]; rfl
    have hD9 : Dj [c7, Go.Aw.one g (.cells (rows encS (cur.set i cur[kn]) ++ sp).toArray 9 (0, 0)), m3] := by rw [← er1]; exact hD8
    clear hm8 hD8 er1
    subst hm8'
    refine oq rfl (rig_ix kn rfl rfl rfl Try.underlying22 Try.sizeOf9 rfl rfl (by omega)) rfl ?_
    refine os0 rfl (ex_store (i := 1) rfl hD9 rfl rfl Try.sizeOf9 (by simp [Value.cells, Value.oneCell']) rfl (hbd (cur.set i cur[kn]) kn _ (by simpa using hcl) (by omega))) fun u m10 ⟨_, hm10, hD10⟩ => ⟨fun h => by simp at h, ?_⟩
    have er2 := hput (cur.set i cur[kn]) kn cur[i] (by simpa using hkl)
    have hm10' : m10 = U [c7, Go.Aw.one g (.cells (rows encS ((cur.set i cur[kn]).set kn cur[i]) ++ sp).toArray 9 (0, 0)), m3] := by rw [hm10, ← er2]; rfl
    have hD11 : Dj [c7, Go.Aw.one g (.cells (rows encS ((cur.set i cur[kn]).set kn cur[i]) ++ sp).toArray 9 (0, 0)), m3] := by rw [← er2]; exact hD10
    clear hm10 hD10 er2
    subst hm10'
    refine od_fin (hK4 _ _ (awp_region ?_))
    refine ao_r (rig_move rfl rfl) rfl (ao_r (rig_sub rfl rfl rfl (w64 _ (by omega) (by omega))) rfl (ao_r (rig_assign rfl rfl) rfl (ao_nil ?_)))
    obtain ⟨hC12, hD12⟩ := CodH.back hc7 hD11 (HpLe.refl m3)
    have hP2 : ((cur.set i cur[kn]).set kn cur[i]).Perm cur := List.set_set_perm hil hkl
    refine ⟨[(5, vl), (6, .pointer (some ⟨p2, 0, none⟩)), (7, .slice (some ⟨g, 0, none⟩) ls.length _), (8, .int .i64 ((kn : Int) - 1))], _, ⟨rfl, rfl, rfl, rfl, trivial⟩, by omega, (kn : Int) - 1, _, _, by omega, by omega, rfl, rfl, hC12, hD12, ?_, hP2.trans hP⟩
    have hlen2 : ((cur.set i cur[kn]).set kn cur[i]).length = ls.length := (hP2.trans hP).length_eq
    rw [← hlen2]
    refine Own.mk_ encS_len ?_ (by rw [hlen2, ← hcl]; exact hcap) hcm
    simp only [List.length_append, rows_length encS_len] at hsp ⊢
    rw [hlen2, ← hcl]; exact hsp
  · refine awp_exit (hK2 _ _ (awp_rs ?_))
    have hle3 : HpLe m3 mm := (le_at 1 hD rfl).trans hC.le
    refine ao_r (rig_move rfl rfl) rfl ?_
    refine ao_x (ex_call rfl rfl e12 (F12 mm vl ls (RdSl.le hst3 hle3) (fun s hs => Nat.le_trans (hsz s hs) (by decide)) (by omega))) rfl fun v1 m7 ⟨o1, q1, G1, hO1, hm7, hD7, hG1, hT1, hk1', hn1⟩ => ?_
    subst hm7
    refine ao_r (rig_move rfl rfl) rfl ?_
    have hyc : HpLe y (U [q1, G1]) := (le_at 0 hD rfl).trans (hC.le.trans (hG1.trans (le_at 1 hD7 rfl)))
    have hst : Strs (U [q1, G1]) (.slice Ay ls.length cy) cur := RdSl.le hO.rd hyc
    refine ao_x (ex_call rfl rfl e12 (F12 (U [q1, G1]) _ cur hst (fun s hs => Nat.le_trans (hsz s (hP.mem_iff.1 hs)) (by decide)) (by omega))) rfl fun v2 m8 ⟨o2, q2, G2, hO2, hm8, hD8, hG2, hT2, hk2, hn2⟩ => ?_
    subst hm8
    have hG2m : HpLe (U [q1, G1]) (U [q2, G2]) := hG2.trans (le_at 1 hD8 rfl)
    have h14 := F14 (U [q2, G2]) v1 v2 o1 o2 (RdSl.le hO1.rd ((le_at 0 hD7 rfl).trans hG2m)) (RdSl.le hO2.rd (le_at 0 hD8 rfl)) (fun t ht => (hT1 t ht).le ((le_at 1 hD7 rfl).trans hG2m)) (fun t ht => (hT2 t ht).le (le_at 1 hD8 rfl)) (by omega) (fun t ht => Nat.le_trans (keys_len60 hk1' t ht) (by decide))
    rw [decide_eq_true (show keys o1 = keys o2 by rw [hk1', hk2, mineL_perm hP])] at h14
    refine ao_r (rig_call rfl rfl e14 h14) rfl (ao_r (rig_assign rfl rfl) rfl (ao_nil ?_))
    exact awp_ret ⟨_, res1 Try.results4 rfl, rfl, h13.trans (hle3.trans (hG1.trans ((le_at 1 hD7 rfl).trans hG2m)))⟩
end Go.Proofs.Ytmofaabndjnhjaa
