/- Chapter 7, the program: Read. -/
import Derived.Test.YtbonkkbpjlikjaaNumbers
set_option linter.unusedVariables false
set_option linter.unusedSimpArgs false
namespace Go.Proofs.Ytbonkkbpjlikjaa
open Go Go.Aw Go.Pl Go.RowKit
theorem e49 : Enters Try.prog 49 := enters_of Try.func49 (by kernel_rfl) rfl
set_option maxRecDepth 100000 in
theorem F49 (m : Hp) (v : Value) (l : List UInt8) (hv : RdSl m encB 1 v l) (hl : l.length ≤ 1048576) : GC Try.prog 49 #[v] m (fun u m' => ∃ c G, m' = U [c, G] ∧ Dj [c, G] ∧ HpLe m G ∧ Own 5 1 c u (rows encB l)) := by
  obtain ⟨A, cap, rfl, hA⟩ := RdSl.form encB_len (by decide) hv
  refine gc_intro (vs := [_]) Try.func49 rfl Try.ntmps49 (by simp) ?_
  refine awp_rs (ao_r (rig_assign rfl rfl) rfl (ao_nil ?_))
  refine awp_sk fun K1 hK1 => awp_rs (ao_r (rig_move rfl rfl) rfl (ao_r (rig_slNil rfl rfl rfl Try.underlying22) rfl (ao_nil ?_)))
  refine awp_cond rfl (fun h => ?_) (fun h => awp_skip (hK1 _ _ ?_))
  · have hAn : A = none := by simpa using h
    have hle : l = [] := by
      rcases hA with e | ⟨b, off, e, _⟩
      · exact e
      · rw [hAn] at e; cases e
    refine awp_rs (ao_r (rig_assign rfl rfl) rfl (ao_nil ?_))
    exact awp_ret ⟨_, res1 Try.results49 rfl, hp0, m, by rw [U_hp0, U_single], Dj_hp0 (Dj_single m), HpLe.refl _, by rw [hle]; exact Own.nil 5 1⟩
  · rw [U_one m]
    refine awp_rs ?_
    refine ao_x (ex_build0 rfl (Dj_single m) Try.underlying22 Try.sizeOf5) rfl fun u m2 ⟨b, hu, hm2, hD2⟩ => ?_
    subst hu hm2
    refine ao_r (rig_move rfl rfl) rfl ?_
    refine ao_x (ex_append 0 (by_ := 1) rfl hD2 rfl rfl Try.underlying22 inf5 rfl (by decide) (by decide) (Own.empty 5 1 b) rfl (RdSl.le hv (le_at 1 hD2 rfl)) (one_rows encB_one _) (by rw [rows_length encB_len]; simp; omega)) rfl fun w m3 ⟨c, hO, hm3, hD3⟩ => ao_r (rig_assign rfl rfl) rfl (ao_nil ?_)
    subst hm3
    exact awp_ret ⟨_, res1 Try.results49 rfl, c, m, rfl, hD3, (by rw [U_single]; exact HpLe.refl _), by simpa using hO⟩
theorem e55 : Enters Try.prog 55 := enters_of Try.func55 (by kernel_rfl) rfl
set_option maxRecDepth 100000 in
theorem F55 (m : Hp) (x : Fl) (n : Int) : RC Try.prog 55 #[x.val, .int .i64 n] m (.int .i64 (cmpI x.ino n)) := by
  refine rc_of_gc fun m1 hm => gc_intro (vs := [_, _]) Try.func55 rfl Try.ntmps55 (by simp) ?_
  refine awp_rs ?_
  refine ao_x (ex_boxR rfl rfl) rfl fun v m2 ⟨p2, hv, hl2, hc2⟩ => ao_r (rig_assign rfl rfl) rfl (ao_nil ?_)
  subst hv
  refine awp_rs (ao_r (rig_fieldAddr rfl rfl Try.underlying61 rfl Try.sizeOf3 rfl) rfl (ao_r (rig_load1 rfl rfl Try.isAgg3 hc2.1) rfl (ao_r (rig_move rfl rfl) rfl (ao_r (rig_call rfl rfl e35 (F35 _ _ _)) rfl (ao_r (rig_assign rfl rfl) rfl (ao_nil ?_))))))
  exact awp_ret ⟨_, res1 Try.results55 rfl, rfl, hl2⟩
theorem e54 : Enters Try.prog 54 := enters_of Try.func54 (by kernel_rfl) rfl
set_option maxRecDepth 100000 in
theorem F54 (m : Hp) (v : Value) (fs : List Fl) (n : Int) (hf : RdSl m encF 5 v fs) (hl : fs.length ≤ 1048576) (hasc : fs.Pairwise (fun a b => a.ino < b.ino)) :
    GC Try.prog 54 #[v, .int .i64 n, .func (.func 55) #[] #[]] m (fun u m' => ∃ i : Nat, u = .tuple #[.int .i64 i, .bool (fs.any (inoIs n))] ∧ HpLe m m' ∧ (fs.any (inoIs n) = true → ∃ x, fs[i]? = some x ∧ x.ino = n)) := by
  obtain ⟨A, ca, rfl, _⟩ := RdSl.form encF_len (by decide) hf
  refine gc_intro (vs := [_, _, _]) Try.func54 rfl Try.ntmps54 (by simp) ?_
  refine awp_rs (ao_r (rig_assign rfl rfl) rfl (ao_r (rig_assign rfl rfl) rfl (ao_nil ?_)))
  refine awp_rs (ao_r (rig_move rfl rfl) rfl (ao_r (rig_lenSl rfl rfl Try.underlying27) rfl (ao_r (rig_assign rfl rfl) rfl (ao_nil ?_))))
  refine awp_rs (ao_r (rig_move rfl rfl) rfl (ao_r (rig_assign rfl rfl) rfl (ao_r (rig_assign rfl rfl) rfl (ao_nil ?_))))
  refine awp_sk fun K1 hK1 => awp_block ?_
  refine awp_le [(0, .slice A fs.length ca), (1, .int .i64 n), (2, .func (.func 55) #[] #[]), (8, .int .i64 fs.length), (9, .int .i64 (0 : Nat)), (10, .int .i64 fs.length)] ⟨rfl, rfl, rfl, rfl, rfl, rfl, trivial⟩ ?_
  refine awp_loop (fun k r mm => ∃ i j : Nat, i ≤ j ∧ j ≤ fs.length ∧ k = j - i ∧ r = [(0, .slice A fs.length ca), (1, .int .i64 n), (2, .func (.func 55) #[] #[]), (8, .int .i64 fs.length), (9, .int .i64 i), (10, .int .i64 j)] ∧ m = mm ∧ (∀ q x, fs[q]? = some x → q < i → x.ino < n) ∧ (∀ q x, fs[q]? = some x → j ≤ q → n ≤ x.ino)) fs.length
    ⟨0, fs.length, by omega, Nat.le_refl _, by omega, rfl, rfl, fun q x _ h => by omega, fun q x hx h => by have := (List.getElem?_eq_some_iff.1 hx).1; omega⟩ ?_
  rintro k r mm ⟨i, j, hij, hj, rfl, rfl, rfl, hlo, hhi⟩
  have mono : ∀ (a b : Nat) (x y : Fl), fs[a]? = some x → fs[b]? = some y → a < b → x.ino < y.ino := by
    intro a b x y ha hb hab
    obtain ⟨h1, e1⟩ := List.getElem?_eq_some_iff.1 ha
    obtain ⟨h2, e2⟩ := List.getElem?_eq_some_iff.1 hb
    have := List.pairwise_iff_getElem.1 hasc a b h1 h2 hab
    rwa [e1, e2] at this
  refine awp_sk fun K2 hK2 => awp_rs (ao_r (rig_move rfl rfl) rfl (ao_r (rig_move rfl rfl) rfl (ao_r (rig_lss rfl rfl rfl) rfl (ao_nil ?_))))
  refine awp_if rfl (fun h => ?_) (fun h => ?_)
  · have hlt : i < j := by omega
    obtain ⟨x, hx⟩ := get_lt (l := fs) (i := (i + j) / 2) (by omega)
    obtain ⟨b1, o1, c1, e1, hxc⟩ := RdSl.get_ encF_len (by decide) hf hx
    simp only [Value.slice.injEq] at e1
    obtain ⟨rfl, _, rfl⟩ := e1
    refine awp_skip (hK2 _ _ (awp_block (awp_rs ?_)))
    refine ao_r (rig_move rfl rfl) rfl (ao_r (rig_move rfl rfl) rfl (ao_r (rig_add (c := ((i + j : Nat) : Int)) rfl rfl rfl (by rw [show ((i : Int) + (j : Int)) = ((i + j : Nat) : Int) by omega]; exact w64 _ (by omega) (by omega))) rfl (ao_r (rig_convInt (c := ((i + j : Nat) : Int)) rfl rfl Try.underlying3 Try.underlying90 (by rw [IntKind.wrap_u64]; omega)) rfl (ao_r (rig_shr (c := (((i + j) / 2 : Nat) : Int)) rfl rfl rfl (by decide) (by rw [Int.fdiv_eq_ediv_of_nonneg _ (by omega)]; omega)) rfl (ao_r (rig_convInt (c := (((i + j) / 2 : Nat) : Int)) rfl rfl Try.underlying90 Try.underlying3 (w64 _ (by omega) (by omega))) rfl (ao_r (rig_assign rfl rfl) rfl (ao_nil ?_)))))))
    refine awp_rs (ao_r (rig_move rfl rfl) rfl (ao_r (rig_move rfl rfl) rfl (ao_r (rig_move rfl rfl) rfl (ao_r (rig_ix ((i + j) / 2) rfl rfl rfl Try.underlying27 Try.sizeOf61 rfl rfl (by omega)) rfl (ao_r (rig_loadN (vs := encF x) rfl rfl Try.isAgg61 Try.sizeOf61 hxc) rfl (ao_r (rig_move rfl rfl) rfl (ao_r (rig_callv (vs := [x.val, .int .i64 n]) rfl rfl rfl e55 (F55 _ x n)) rfl (ao_r (rig_lss rfl rfl rfl) rfl (ao_nil ?_)))))))))
    refine awp_if rfl (fun h2 => ?_) (fun h2 => ?_)
    · have hxn : x.ino < n := by unfold cmpI at h2; split at h2 <;> omega
      refine awp_region (ao_r (rig_move rfl rfl) rfl (ao_r (rig_add (c := (((i + j) / 2 + 1 : Nat) : Int)) rfl rfl rfl (w64 _ (by omega) (by omega))) rfl (ao_r (rig_assign rfl rfl) rfl (ao_nil ?_))))
      refine ⟨[(0, .slice (some ⟨b1, o1, none⟩) fs.length ca), (1, .int .i64 n), (2, .func (.func 55) #[] #[]), (8, .int .i64 fs.length), (9, .int .i64 ((i + j) / 2 + 1 : Nat)), (10, .int .i64 j)], _, ⟨rfl, rfl, rfl, rfl, rfl, rfl, trivial⟩, ?_, (i + j) / 2 + 1, j, by omega, hj, rfl, rfl, rfl, fun q y hy hq => ?_, hhi⟩
      · omega
      · rcases Nat.lt_or_ge q ((i + j) / 2) with h3 | h3
        · have := mono q _ y x hy hx h3; omega
        · obtain rfl : q = (i + j) / 2 := by omega
          rw [hx] at hy; obtain rfl := Option.some.inj hy; exact hxn
    · have hxn : n ≤ x.ino := by unfold cmpI at h2; split at h2 <;> omega
      refine awp_region (ao_r (rig_move rfl rfl) rfl (ao_r (rig_assign rfl rfl) rfl (ao_nil ?_)))
      refine ⟨[(0, .slice (some ⟨b1, o1, none⟩) fs.length ca), (1, .int .i64 n), (2, .func (.func 55) #[] #[]), (8, .int .i64 fs.length), (9, .int .i64 i), (10, .int .i64 ((i + j) / 2 : Nat))], _, ⟨rfl, rfl, rfl, rfl, rfl, rfl, trivial⟩, ?_, i, (i + j) / 2, by omega, by omega, rfl, rfl, rfl, hlo, fun q y hy hq => ?_⟩
      · omega
      · rcases Nat.lt_or_ge ((i + j) / 2) q with h3 | h3
        · have := mono _ q x y hx hy h3; omega
        · obtain rfl : q = (i + j) / 2 := by omega
          rw [hx] at hy; obtain rfl := Option.some.inj hy; exact hxn
  · obtain rfl : i = j := by omega
    refine awp_exit (hK1 _ _ (awp_rs (ao_r (rig_move rfl rfl) rfl (ao_r (rig_move rfl rfl) rfl (ao_r (rig_move rfl rfl) rfl (ao_r (rig_lss rfl rfl rfl) rfl (ao_r (rig_move rfl rfl) rfl ?_)))))))
    have hany : ∀ x, fs[i]? = some x → x.ino ≠ n → fs.any (inoIs n) = false := by
      intro x hx hne
      rw [List.any_eq_false]
      intro y hy
      obtain ⟨q, hq⟩ := List.mem_iff_getElem?.1 hy
      intro hp
      have hyn : y.ino = n := of_decide_eq_true hp
      rcases Nat.lt_trichotomy q i with h3 | h3 | h3
      · have := hlo q y hq h3; omega
      · subst h3; rw [hx] at hq; obtain rfl := Option.some.inj hq; exact hne hyn
      · have h4 := mono i q x y hx hq h3
        have h5 := hhi i x hx (Nat.le_refl _)
        omega
    cases hc : decide ((i : Int) < (fs.length : Int)) with
    | true =>
      have hil : i < fs.length := by have := of_decide_eq_true hc; omega
      obtain ⟨x, hx⟩ := get_lt (l := fs) (i := i) hil
      obtain ⟨b1, o1, c1, e1, hxc⟩ := RdSl.get_ encF_len (by decide) hf hx
      simp only [Value.slice.injEq] at e1
      obtain ⟨rfl, _, rfl⟩ := e1
      refine ao_on rfl rfl (ao_r (rig_move rfl rfl) rfl (ao_on rfl rfl (ao_r (rig_move rfl rfl) rfl (ao_on rfl rfl (ao_r (rig_move rfl rfl) rfl (ao_on rfl rfl (ao_r (rig_ix i rfl rfl rfl Try.underlying27 Try.sizeOf61 rfl rfl hil) rfl (ao_on rfl rfl (ao_r (rig_loadN (vs := encF x) rfl rfl Try.isAgg61 Try.sizeOf61 hxc) rfl (ao_on rfl rfl (ao_r (rig_move rfl rfl) rfl ?_)))))))))))
      refine ao_on rfl rfl (ao_r (rig_callv (vs := [x.val, .int .i64 n]) rfl rfl rfl e55 (F55 _ x n)) rfl (ao_on rfl rfl (ao_r (rig_eql rfl rfl rfl) rfl (ao_r (rig_pickT rfl rfl rfl) rfl (ao_r (rig_assign rfl rfl) rfl (ao_r (rig_assign rfl rfl) rfl (ao_nil ?_)))))))
      have hb : decide (cmpI x.ino n = 0) = fs.any (inoIs n) := by
        by_cases e : x.ino = n
        · rw [decide_eq_true (by unfold cmpI; rw [e]; simp), List.any_eq_true.2 ⟨x, List.mem_of_getElem? hx, decide_eq_true e⟩]
        · rw [hany x hx e, decide_eq_false]
          unfold cmpI; split
          · decide
          · split
            · decide
            · omega
      refine awp_ret ⟨_, res2 Try.results54 rfl rfl, i, by rw [hb], HpLe.refl _, fun hf => ⟨x, hx, ?_⟩⟩
      by_cases e : x.ino = n
      · exact e
      · rw [hany x hx e] at hf; cases hf
    | false =>
      have hil : ¬ i < fs.length := by have := of_decide_eq_false hc; omega
      refine ao_no rfl rfl rfl rfl (ao_no rfl rfl rfl rfl (ao_no rfl rfl rfl rfl (ao_no rfl rfl rfl rfl (ao_no rfl rfl rfl rfl (ao_no rfl rfl rfl rfl (ao_no rfl rfl rfl rfl (ao_no rfl rfl rfl rfl (ao_r (rig_pickF rfl rfl rfl) rfl (ao_r (rig_assign rfl rfl) rfl (ao_r (rig_assign rfl rfl) rfl (ao_nil ?_)))))))))))
      have hb : fs.any (inoIs n) = false := by
        rw [List.any_eq_false]
        intro y hy
        obtain ⟨q, hq⟩ := List.mem_iff_getElem?.1 hy
        have h4 := (List.getElem?_eq_some_iff.1 hq).1
        have := hlo q y hq (by omega)
        simp [inoIs]; omega
      exact awp_ret ⟨_, res2 Try.results54 rfl rfl, i, by rw [hb], HpLe.refl _, fun hf => by rw [hb] at hf; cases hf⟩
theorem e48 : Enters Try.prog 48 := enters_of Try.func48 (by kernel_rfl) rfl
set_option maxRecDepth 100000 in
theorem F48 (m : Hp) (p : Nat) (vn vf vo : Value) (fs : List Fl) (n : Int) (hp : CellsAt m p 0 [vn, vf, vo]) (hf : RdSl m encF 5 vf fs) (hl : fs.length ≤ 1048576) (hasc : fs.Pairwise (fun a b => a.ino < b.ino)) :
    GC Try.prog 48 #[.pointer (some ⟨p, 0, none⟩), .int .i64 n] m (fun u m' => ∃ i : Nat, u = .tuple #[.int .i64 i, .bool (fs.any (inoIs n))] ∧ HpLe m m' ∧ (fs.any (inoIs n) = true → ∃ x, fs[i]? = some x ∧ x.ino = n)) := by
  refine gc_intro (vs := [_, _]) Try.func48 rfl Try.ntmps48 (by simp) ?_
  obtain ⟨d0, d1, d2, _⟩ := id hp
  refine awp_rs (ao_r (rig_assign rfl rfl) rfl (ao_r (rig_assign rfl rfl) rfl (ao_nil ?_)))
  refine awp_rs (ao_r (rig_move rfl rfl) rfl (ao_r (rig_nilCheck rfl rfl) rfl (ao_r (rig_fieldAddr rfl rfl Try.underlying85 rfl Try.sizeOf30 rfl) rfl (ao_r (rig_fieldAddr rfl rfl Try.underlying30 rfl Try.sizeOf27 rfl) rfl (ao_r (rig_load1 rfl rfl Try.isAgg27 d1) rfl (ao_r (rig_move rfl rfl) rfl ?_))))))
  refine ao_x (ex_call rfl rfl e54 (F54 _ _ fs n hf hl hasc)) rfl fun u m2 ⟨i, hu, hm2, hx⟩ => ?_
  subst hu
  refine ao_r (rig_extract rfl rfl rfl) rfl (ao_r (rig_extract rfl rfl rfl) rfl (ao_r (rig_assign rfl rfl) rfl (ao_r (rig_assign rfl rfl) rfl (ao_nil ?_))))
  exact awp_ret ⟨_, res2 Try.results48 rfl rfl, i, rfl, hm2, hx⟩
end Go.Proofs.Ytbonkkbpjlikjaa
/- Chapter 7, the program: Read. -/
set_option linter.unusedVariables false
set_option linter.unusedSimpArgs false
namespace Go.Proofs.Ytbonkkbpjlikjaa
open Go Go.Aw Go.Pl Go.RowKit
def fl0 : Fl := ⟨0, none, 0, 0, [], false, false, 0⟩
theorem e31 : Enters Try.prog 31 := enters_of Try.func31 (by kernel_rfl) rfl
set_option maxHeartbeats 2000000 in
set_option maxRecDepth 100000 in
theorem F31 (m : Hp) (vn vf vo : Value) (fs : List Fl) (n : Int) (hf : RdSl m encF 5 vf fs) (hl : fs.length ≤ 1048576) (hasc : fs.Pairwise (fun a b => a.ino < b.ino)) (hok : ∀ x ∈ fs, x.Ok m) (hF : ∀ x ∈ fs, FOk 1048576 x) :
    GC Try.prog 31 #[.agg #[vn, vf, vo], .int .i64 n] m (fun u m' => ∃ (y : Fl) (c G : Hp), u = .tuple #[y.val, .bool (fs.any (inoIs n))] ∧ m' = U [c, G] ∧ Dj [c, G] ∧ HpLe m G ∧ RdSl c encB 1 (.slice y.A y.n y.cap) y.data ∧ y.data.length ≤ y.cap ∧ y.data.length ≤ 1048576 ∧ (∀ x ∈ fs, x.ino = n → y.data = x.data.take (x.data.length - x.left.toNat))) := by
  refine gc_intro (vs := [_, _]) Try.func31 rfl Try.ntmps31 (by simp) ?_
  refine awp_rs ?_
  refine ao_x (ex_boxR rfl rfl) rfl fun v m2 ⟨p2, hv, hl2, hc2⟩ => ?_
  subst hv
  rw [U_one m2]
  refine ao_x (ex_alloc rfl (Dj_single m2) Try.zeroValue61) rfl fun u m3 ⟨p4, hu, hm3, hD1⟩ => ao_r (rig_assign rfl rfl) rfl (ao_nil ?_)
  subst hu hm3
  replace hD1 : Dj [filB p4 fl0, m2] := hD1
  show AWp _ _ _ _ _ (U [filB p4 fl0, m2])
  have hc2' := hc2.le (le_at 1 hD1 rfl)
  refine awp_rs (ao_r (rig_loadN (vs := [_, _, _]) rfl rfl Try.isAgg30 Try.sizeOf30 hc2') rfl ?_)
  refine ao_r (rig_build (pl := #[(0, 3)]) (cs := #[vn, vf, vo]) rfl rfl Try.underlying85 Try.zeroValue85 (fun w => by kernel_rfl) rfl) rfl ?_
  refine ao_x (ex_boxR rfl rfl) rfl fun v m4 ⟨p12, hv, hl4, hc4⟩ => ao_r (rig_assign rfl rfl) rfl (ao_nil ?_)
  subst hv
  obtain ⟨G, hG, hD2, rfl⟩ := grow_to (cs := [filB p4 fl0]) hD1 hl4
  replace hD2 : Dj [filB p4 fl0, G] := hD2
  have hm1 : HpLe m (U [filB p4 fl0, G]) := (hl2.trans hG).trans (le_at 1 hD2 rfl)
  show AWp _ _ _ _ _ (U [filB p4 fl0, G])
  refine awp_rs (ao_r (rig_move rfl rfl) rfl (ao_r (rig_move rfl rfl) rfl ?_))
  refine ao_x (ex_call rfl rfl e48 (F48 _ p12 vn vf vo fs n hc4 (RdSl.le hf hm1) hl hasc)) rfl fun u m5 ⟨i, hu, hm5, hfound⟩ => ?_
  subst hu
  refine ao_r (rig_move rfl rfl) rfl (ao_r (rig_extract rfl rfl rfl) rfl (ao_r (rig_extract rfl rfl rfl) rfl (ao_r (rig_assign rfl rfl) rfl (ao_r (rig_assign rfl rfl) rfl (ao_nil ?_)))))
  obtain ⟨G2, hG2, hD3, rfl⟩ := grow_to (cs := [filB p4 fl0]) hD2 hm5
  replace hD3 : Dj [filB p4 fl0, G2] := hD3
  have hmG : HpLe m G2 := (hl2.trans hG).trans hG2
  have hc3 := hc2.le ((hG.trans hG2).trans (le_at 1 hD3 rfl))
  show AWp _ _ _ _ _ (U [filB p4 fl0, G2])
  clear hm5 hD2 hm1 hc4 hl4 hc2' hD1
  refine awp_sk fun K1 hK1 => awp_rs (ao_r (rig_move rfl rfl) rfl (ao_r (rig_not rfl rfl) rfl (ao_nil ?_)))
  cases hb : fs.any (inoIs n) with
  | false =>
    refine awp_true rfl (awp_rs (ao_r (rig_build (pl := #[(0, 1), (1, 1), (2, 1), (3, 1), (4, 1)]) (cs := (encF fl0).toArray) rfl rfl Try.underlying61 Try.zeroValue61 (fun w => by kernel_rfl) rfl) rfl ?_))
    refine ao_x0 (ex_store (i := 0) rfl hD3 rfl rfl Try.sizeOf61 (encF_one fl0) rfl (by simp [Value.cells, encF, fl0])) fun u m7 ⟨_, hm7, hD7⟩ => ao_r (rig_assign rfl rfl) rfl (ao_nil ?_)
    subst hm7
    replace hD7 : Dj [filB p4 fl0, G2] := hD7
    exact awp_ret ⟨_, resC2 (vs := encF fl0) Try.results31 rfl rfl Try.isAgg61 Try.sizeOf61 (filB_at 0 hD7 rfl), fl0, hp0, _, rfl, (U_hp0 [_, _]).symm.trans (U_flat [hp0] _).symm, Dj_unflat (A := [hp0]) (Dj_hp0 hD7), hmG.trans (le_at 1 hD7 rfl), ⟨none, 0, 0, rfl, rfl, .inl rfl⟩, Nat.le_refl _, by decide, fun x hx hxn => by
      rw [List.any_eq_false] at hb
      exact absurd (decide_eq_true hxn) (hb x hx)⟩
  | true =>
    obtain ⟨x, hx, hxn⟩ := hfound hb
    have hil := (List.getElem?_eq_some_iff.1 hx).1
    have hxm := List.mem_of_getElem? hx
    have ho := hok x hxm
    have hxF := hF x hxm
    have hxl := ho.len
    refine awp_false rfl (awp_skip (hK1 _ _ (awp_rs ?_)))
    obtain ⟨d0, d1, d2, _⟩ := id hc3
    obtain ⟨b1, o1, c1, e1, hxc⟩ := RdSl.get_ encF_len (by decide) (RdSl.le hf (hmG.trans (le_at 1 hD3 rfl))) hx
    subst e1
    refine ao_r (rig_fieldAddr rfl rfl Try.underlying30 rfl Try.sizeOf27 rfl) rfl (ao_r (rig_load1 rfl rfl Try.isAgg27 d1) rfl (ao_r (rig_move rfl rfl) rfl (ao_r (rig_ix i rfl rfl rfl Try.underlying27 Try.sizeOf61 rfl rfl hil) rfl (ao_r (rig_loadN (vs := encF x) rfl rfl Try.isAgg61 Try.sizeOf61 hxc) rfl ?_))))
    refine ao_x (ex_alloc rfl hD3 Try.zeroValue61) rfl fun u m7 ⟨p9, hu, hm7, hD7⟩ => ?_
    subst hu hm7
    refine ao_x0 (ex_store (i := 0) rfl hD7 rfl rfl Try.sizeOf61 (encF_one x) rfl (by simp [Value.cells, encF])) fun u m8 ⟨_, hm8, hD8⟩ => ao_nil ?_
    subst hm8
    rw [List.set_cons_zero, putR_all _ _ (by rfl)] at hD8 ⊢
    replace hD8 : Dj [filB p9 x, filB p4 fl0, G2] := hD8
    show AWp _ _ _ _ _ (U [filB p9 x, filB p4 fl0, G2])
    obtain ⟨x0, x1, x2, x3, x4, _⟩ := filB_at 0 hD8 rfl
    have hf0 := hxF.l0
    have hf1 := hxF.l1
    have hfd := hxF.d
    obtain ⟨L, hL⟩ : ∃ L : Nat, x.left = L := ⟨x.left.toNat, by omega⟩
    have hLt : x.left.toNat = L := by omega
    have hk : x.data.length - L ≤ x.data.length := Nat.sub_le _ _
    refine awp_sk fun K2 hK2 => ?_
    -- what follows the cut
    have hend : ∀ (r : Env) (y : Fl), Dj [filB p9 y, filB p4 fl0, G2] → RdSl m encB 1 (.slice y.A y.n y.cap) y.data → y.data = x.data.take (x.data.length - L) → EnvLe [(4, .pointer (some ⟨p4, 0, none⟩)), (9, .pointer (some ⟨p9, 0, none⟩))] r → K2 r (U [filB p9 y, filB p4 fl0, G2]) := by
      intro r y hdy hry hdat hr
      have hylen : y.data.length ≤ 1048576 := by rw [hdat, List.length_take]; omega
      obtain ⟨y0, y1, y2, y3, y4, _⟩ := filB_at 0 hdy rfl
      refine hK2 _ _ (awp_le _ hr (awp_rs ?_))
      refine ao_r (rig_fieldAddr rfl rfl Try.underlying61 rfl Try.sizeOf22 rfl) rfl (ao_r (rig_load1 rfl rfl Try.isAgg22 y1) rfl ?_)
      refine ao_x (ex_call rfl rfl e49 (F49 _ _ y.data (RdSl.le hry (hmG.trans (le_at 2 hdy rfl))) hylen)) rfl fun u m9 ⟨c9, G9, hm9, hd9, hG9, hO9⟩ => ao_r (rig_fieldAddr rfl rfl Try.underlying61 rfl Try.sizeOf22 rfl) rfl ?_
      subst hm9
      obtain ⟨G10, hG10, hd10, rfl⟩ := grow_to (cs := [filB p9 y, filB p4 fl0]) hdy hG9
      replace hd10 : Dj [filB p9 y, filB p4 fl0, G10] := hd10
      replace hd9 : Dj [c9, U [filB p9 y, filB p4 fl0, G10]] := hd9
      have hd11 : Dj [c9, filB p9 y, filB p4 fl0, G10] := Dj_flat (A := [c9]) hd9 hd10
      have e11 : U [c9, U [filB p9 y, filB p4 fl0, G10]] = U [c9, filB p9 y, filB p4 fl0, G10] := U_flat [c9] _
      show AOps _ _ _ _ _ (U [c9, U [filB p9 y, filB p4 fl0, G10]]) _
      rw [e11]
      obtain ⟨A9, k9, rfl⟩ := hO9.len encB_len (by decide)
      have hk9 := hO9.le_cap
      refine ao_x0 (ex_store (i := 1) rfl hd11 rfl rfl Try.sizeOf22 (by simp [Value.cells, Value.oneCell']) rfl (by simp [Value.cells, encF])) fun u m10 ⟨_, hm10, hD10⟩ => ao_nil ?_
      subst hm10
      replace hD10 : Dj [c9, filB p9 ⟨y.ino, A9, y.data.length, k9, y.data, y.copy, y.whole, y.left⟩, filB p4 fl0, G10] := hD10
      show AWp _ _ _ _ _ (U [c9, filB p9 ⟨y.ino, A9, y.data.length, k9, y.data, y.copy, y.whole, y.left⟩, filB p4 fl0, G10])
      refine awp_rs (ao_r (rig_loadN (vs := encF _) rfl rfl Try.isAgg61 Try.sizeOf61 (filB_at 1 hD10 rfl)) rfl ?_)
      refine ao_x0 (ex_store (i := 2) rfl hD10 rfl rfl Try.sizeOf61 (encF_one _) rfl (by simp [Value.cells, encF, fl0])) fun u m12 ⟨_, hm12, hD12⟩ => ao_r (rig_assign rfl rfl) rfl (ao_nil ?_)
      subst hm12
      replace hD12 : Dj [c9, filB p9 ⟨y.ino, A9, y.data.length, k9, y.data, y.copy, y.whole, y.left⟩, filB p4 ⟨y.ino, A9, y.data.length, k9, y.data, y.copy, y.whole, y.left⟩, G10] := hD12
      refine awp_ret ⟨_, resC2 (vs := encF ⟨y.ino, A9, y.data.length, k9, y.data, y.copy, y.whole, y.left⟩) Try.results31 rfl rfl Try.isAgg61 Try.sizeOf61 (filB_at 2 hD12 rfl), ⟨y.ino, A9, y.data.length, k9, y.data, y.copy, y.whole, y.left⟩, c9, _, by rw [hb]; rfl, (U_flat [c9] _).symm, Dj_unflat (A := [c9]) hD12, (hmG.trans hG10).trans (le_at 2 hD12.2 rfl), hO9.rd, hk9, hylen, fun z hz hzn => ?_⟩
      have hzx : z = x := by
        obtain ⟨q, hq⟩ := List.mem_iff_getElem?.1 hz
        obtain ⟨h1, e1⟩ := List.getElem?_eq_some_iff.1 hq
        obtain ⟨h2, e2⟩ := List.getElem?_eq_some_iff.1 hx
        rcases Nat.lt_trichotomy q i with h3 | h3 | h3
        · have := List.pairwise_iff_getElem.1 hasc q i h1 h2 h3
          rw [e1, e2] at this; omega
        · subst h3; rw [← e1, e2]
        · have := List.pairwise_iff_getElem.1 hasc i q h2 h1 h3
          rw [e1, e2] at this; omega
      subst hzx
      show y.data = _
      rw [hdat, hLt]
    have h12 : HpLe m (U [filB p9 x, filB p4 fl0, G2]) := hmG.trans (le_at 2 hD8 rfl)
    have hsrc := RdSl.take encB_len (by decide) ho.1 hk x.cap
    have hlenT : (x.data.take (x.data.length - L)).length = x.data.length - L := by rw [List.length_take]; omega
    refine awp_mid (fun r mm => r = [(4, .pointer (some ⟨p4, 0, none⟩)), (9, .pointer (some ⟨p9, 0, none⟩)), (33, .bool (x.copy && !x.whole))] ∧ U [filB p9 x, filB p4 fl0, G2] = mm) (awp_region ?_) ?_
    · refine ao_r (rig_fieldAddr rfl rfl Try.underlying61 rfl Try.sizeOf4 rfl) rfl (ao_r (rig_load1 rfl rfl Try.isAgg4 x2) rfl (ao_r (rig_move rfl rfl) rfl ?_))
      cases hcp : x.copy with
      | true =>
        refine ao_on rfl rfl (ao_r (rig_fieldAddr rfl rfl Try.underlying61 rfl Try.sizeOf4 rfl) rfl (ao_on rfl rfl (ao_r (rig_load1 rfl rfl Try.isAgg4 x3) rfl (ao_on rfl rfl (ao_r (rig_not rfl rfl) rfl (ao_r (rig_pickT rfl rfl rfl) rfl (ao_nil ?_)))))))
        exact ⟨[(4, .pointer (some ⟨p4, 0, none⟩)), (9, .pointer (some ⟨p9, 0, none⟩)), (33, .bool (!x.whole))], ⟨rfl, rfl, rfl, trivial⟩, by rw [Bool.true_and], rfl⟩
      | false =>
        refine ao_no rfl rfl rfl rfl (ao_no rfl rfl rfl rfl (ao_no rfl rfl rfl rfl (ao_r (rig_pickF rfl rfl rfl) rfl (ao_nil ?_))))
        exact ⟨[(4, .pointer (some ⟨p4, 0, none⟩)), (9, .pointer (some ⟨p9, 0, none⟩)), (33, .bool false)], ⟨rfl, rfl, rfl, trivial⟩, by rw [Bool.false_and], rfl⟩
    rintro r mm ⟨rfl, rfl⟩
    refine awp_cond rfl (fun h => ?_) (fun h => ?_)
    · refine awp_region (ao_r (rig_fieldAddr rfl rfl Try.underlying61 rfl Try.sizeOf22 rfl) rfl (ao_r (rig_load1 rfl rfl Try.isAgg22 x1) rfl (ao_r (rig_fieldAddr rfl rfl Try.underlying61 rfl Try.sizeOf22 rfl) rfl (ao_r (rig_load1 rfl rfl Try.isAgg22 x1) rfl (ao_r (rig_lenSl rfl rfl Try.underlying22) rfl (ao_r (rig_fieldAddr rfl rfl Try.underlying61 rfl Try.sizeOf3 rfl) rfl (ao_r (rig_load1 rfl rfl Try.isAgg3 x4) rfl (ao_r (rig_max rfl rfl rfl) rfl ?_))))))))
      rw [if_neg (by omega)]
      refine ao_r (rig_fieldAddr rfl rfl Try.underlying61 rfl Try.sizeOf22 rfl) rfl (ao_r (rig_load1 rfl rfl Try.isAgg22 x1) rfl (ao_r (rig_lenSl rfl rfl Try.underlying22) rfl (ao_r (rig_min rfl rfl rfl) rfl ?_)))
      rw [if_neg (by omega)]
      refine ao_r (rig_sub (c := ((x.data.length - L : Nat) : Int)) rfl rfl rfl (by rw [hL, hxl, show (x.data.length : Int) - (L : Int) = ((x.data.length - L : Nat) : Int) by omega]; exact w64 _ (by omega) (by omega))) rfl ?_
      refine ao_r (rig_slH (x.data.length - L) rfl rfl rfl Try.underlying22 Try.sizeOf5 rfl (by have := ho.2; omega)) rfl (ao_r (rig_fieldAddr rfl rfl Try.underlying61 rfl Try.sizeOf22 rfl) rfl ?_)
      refine ao_x0 (ex_store (i := 0) rfl hD8 rfl rfl Try.sizeOf22 (by simp [Value.cells, Value.oneCell']) rfl (by simp [Value.cells, encF])) fun u m10 ⟨_, hm10, hD10⟩ => ao_r (rig_fieldAddr rfl rfl Try.underlying61 rfl Try.sizeOf3 rfl) rfl ?_
      subst hm10
      replace hD10 : Dj [filB p9 ⟨x.ino, x.A, x.data.length - L, x.cap, x.data.take (x.data.length - L), x.copy, x.whole, x.left⟩, filB p4 fl0, G2] := hD10
      show AOps _ _ _ _ _ (U [filB p9 ⟨x.ino, x.A, x.data.length - L, x.cap, x.data.take (x.data.length - L), x.copy, x.whole, x.left⟩, filB p4 fl0, G2]) _
      refine ao_x0 (ex_store (i := 0) rfl hD10 rfl rfl Try.sizeOf3 (by simp [Value.cells, Value.oneCell']) rfl (by simp [Value.cells, encF])) fun u m11 ⟨_, hm11, hD11⟩ => ao_nil ?_
      subst hm11
      replace hD11 : Dj [filB p9 ⟨x.ino, x.A, x.data.length - L, x.cap, x.data.take (x.data.length - L), x.copy, x.whole, 0⟩, filB p4 fl0, G2] := hD11
      exact hend _ _ hD11 hsrc rfl ⟨rfl, rfl, trivial⟩
    · have hl0 : L = 0 := by
        rw [Bool.and_eq_false_iff] at h
        rcases h with h | h
        · have := hxF.c h; omega
        · have := hxF.w (by simpa using h); omega
      refine awp_skip (hend _ x hD8 ho.1 ?_ ⟨rfl, rfl, trivial⟩)
      rw [hl0, Nat.sub_zero, List.take_length]
end Go.Proofs.Ytbonkkbpjlikjaa
