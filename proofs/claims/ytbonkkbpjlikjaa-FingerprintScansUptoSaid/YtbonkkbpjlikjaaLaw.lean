/- Chapter 8, the law: the directory between the steps. -/
import Derived.Test.YtbonkkbpjlikjaaWanted
import Derived.Test.YtbonkkbpjlikjaaHeap
import Derived.Test.YtbonkkbpjlikjaaArgs
set_option linter.unusedVariables false
set_option linter.unusedSimpArgs false
namespace Go.Proofs.Ytbonkkbpjlikjaa
open Go Go.Aw Go.Pl Go.RowKit
theorem fresh_in {c d F F' N : Hp} (hD : Dj [c, d, F]) (hf : ∀ k, N k ≠ none → U [c, d, F] k = none) (hl : HpLe N (U [c, d, F'])) : HpLe N F' := fun k o hk => by
  have h1 := hl k o hk
  have h2 := hf k (by rw [hk]; simp)
  have hc : c k = none := by
    cases hq : c k with
    | none => rfl
    | some ob => have := (le_at 0 hD rfl) k ob hq; rw [h2] at this; cases this
  have hd : d k = none := by
    cases hq : d k with
    | none => rfl
    | some ob => have := (le_at 1 hD rfl) k ob hq; rw [h2] at this; cases this
  simp only [U, hc, hd, Option.none_or, hp0, Option.or_none] at h1
  exact h1
theorem off2 {α : Type} {enc : α → List Value} {k : Nat} (hk : ∀ x, (enc x).length = k) (h0 : 0 < k) {mb c F : Hp} {p p10 : Nat} {A1 A2 A3 : Option Addr} {n1 n2 n3 c1 c2 c3 : Nat} {v : Value} {l : List α} (hc : Cod mb p 52 c)
    (hC : ∀ (A : Option Addr) (n cap : Nat) (a : Int) (x : α) (off : Nat), ∃ j u, (enc x)[j]? = some u ∧ (#[Value.slice A n cap, .int .i64 a] : Array Value)[off + j]? ≠ some u)
    (hS : ∀ (x : α) (off : Nat), ∃ j u, (enc x)[j]? = some u ∧ (#[Value.slice A1 n1 c1, .slice A2 n2 c2, .slice A3 n3 c3] : Array Value)[off + j]? ≠ some u)
    (h : RdSl (U [c, dirB p10 (.slice A1 n1 c1) (.slice A2 n2 c2) (.slice A3 n3 c3), F]) enc k v l) : RdSl F enc k v l := by
  obtain ⟨A, cap, a, l0, rfl, _, _, _⟩ := hc
  have e : U [Go.Aw.one p (.cells #[.slice A l0.length cap, .int .i64 (a : Nat)] 52 (0, 0)), dirB p10 (.slice A1 n1 c1) (.slice A2 n2 c2) (.slice A3 n3 c3), F] = U [Go.Aw.one p (.cells #[.slice A l0.length cap, .int .i64 (a : Nat)] 52 (0, 0)), U [dirB p10 (.slice A1 n1 c1) (.slice A2 n2 c2) (.slice A3 n3 c3), F]] := (U_flat [_] _).symm
  rw [e] at h
  exact RdSl.off hk h0 hS (RdSl.off hk h0 (hC _ _ _ _) h)
theorem noCN (A : Option Addr) (n cap : Nat) (a : Int) (x : Nm) (off : Nat) : ∃ j u, (encN x)[j]? = some u ∧ (#[Value.slice A n cap, .int .i64 a] : Array Value)[off + j]? ≠ some u :=
  ⟨0, _, rfl, by rcases off with _ | _ | off <;> simp⟩
theorem noSN (A1 A2 A3 : Option Addr) (n1 n2 n3 c1 c2 c3 : Nat) (x : Nm) (off : Nat) : ∃ j u, (encN x)[j]? = some u ∧ (#[Value.slice A1 n1 c1, .slice A2 n2 c2, .slice A3 n3 c3] : Array Value)[off + j]? ≠ some u :=
  ⟨0, _, rfl, by rcases off with _ | _ | _ | off <;> simp⟩
theorem noCB (A : Option Addr) (n cap : Nat) (a : Int) (x : UInt8) (off : Nat) : ∃ j u, (encB x)[j]? = some u ∧ (#[Value.slice A n cap, .int .i64 a] : Array Value)[off + j]? ≠ some u :=
  ⟨0, _, rfl, by rcases off with _ | _ | off <;> simp⟩
theorem noSB (A1 A2 A3 : Option Addr) (n1 n2 n3 c1 c2 c3 : Nat) (x : UInt8) (off : Nat) : ∃ j u, (encB x)[j]? = some u ∧ (#[Value.slice A1 n1 c1, .slice A2 n2 c2, .slice A3 n3 c3] : Array Value)[off + j]? ≠ some u :=
  ⟨0, _, rfl, by rcases off with _ | _ | _ | off <;> simp⟩
theorem noCF (A : Option Addr) (n cap : Nat) (a : Int) (x : Fl) (off : Nat) : ∃ j u, (encF x)[j]? = some u ∧ (#[Value.slice A n cap, .int .i64 a] : Array Value)[off + j]? ≠ some u := by
  rcases off with _ | _ | off
  · exact ⟨0, _, rfl, by simp⟩
  · exact ⟨1, _, rfl, by simp⟩
  · exact ⟨0, _, rfl, by simp⟩
theorem noSF (A1 A2 A3 : Option Addr) (n1 n2 n3 c1 c2 c3 : Nat) (x : Fl) (off : Nat) : ∃ j u, (encF x)[j]? = some u ∧ (#[Value.slice A1 n1 c1, .slice A2 n2 c2, .slice A3 n3 c3] : Array Value)[off + j]? ≠ some u :=
  ⟨0, _, rfl, by rcases off with _ | _ | _ | off <;> simp⟩
/-- After a call that yields a directory: it lies beside the box and the generator. -/
theorem dir_up {mb mm m' F : Hp} {p p10 : Nat} {vn vf vo wn wf wo : Value} {ns ns' : List Nm} {fs fs' : List Fl} {oz oz' : List Int} (h : CodH mb p 52 (U [dirB p10 vn vf vo, F]) mm) (hD : Dj [dirB p10 vn vf vo, F]) (hd0 : Dir F vn vf vo ns fs oz) (hl : HpLe mm m') (hd : Dir m' wn wf wo ns' fs' oz')
    (ho : (wo = vo ∧ oz' = oz) ∨ ∃ N, (∀ k, N k ≠ none → mm k = none) ∧ HpLe N m' ∧ RdSl N encZ 1 wo oz') :
    ∃ c F', Cod mb p 52 c ∧ m' = U [c, dirB p10 vn vf vo, F'] ∧ Dj [c, dirB p10 vn vf vo, F'] ∧ HpLe F F' ∧ Dir F' wn wf wo ns' fs' oz' := by
  obtain ⟨c, hc, rfl, hDc⟩ := h.outL hD
  obtain ⟨F', h1, h2, rfl⟩ := grow_to (cs := [c, dirB p10 vn vf vo]) hDc hl
  obtain ⟨A1, c1, rfl, _⟩ := RdSl.form encN_len (by decide) hd0.n
  obtain ⟨A2, c2, rfl, _⟩ := RdSl.form encF_len (by decide) hd0.f
  obtain ⟨A3, c3, rfl, _⟩ := RdSl.form encZ_len (by decide) hd0.o
  refine ⟨c, F', hc, rfl, h2, h1, ⟨off2 encN_len (by decide) hc noCN (noSN _ _ _ _ _ _ _ _ _) hd.n, off2 encF_len (by decide) hc noCF (noSF _ _ _ _ _ _ _ _ _) hd.f, ?_, fun x hx => ⟨off2 encB_len (by decide) hc noCB (noSB _ _ _ _ _ _ _ _ _) (hd.d x hx).1, (hd.d x hx).2⟩⟩⟩
  rcases ho with ⟨rfl, rfl⟩ | ⟨N, hN1, hN2, hN3⟩
  · exact RdSl.le hd0.o h1
  · exact RdSl.le hN3 (fresh_in hDc hN1 hN2)
end Go.Proofs.Ytbonkkbpjlikjaa
/- Chapter 8: the law FingerprintScans, the walk. -/
set_option linter.unusedVariables false
set_option linter.unusedSimpArgs false
namespace Go.Proofs.Ytbonkkbpjlikjaa
open Go Go.Aw Go.Pl Go.RowKit
set_option maxHeartbeats 8000000 in
set_option maxRecDepth 100000 in
theorem F3 (m : Hp) (A : Option Addr) (ca : Nat) (l : List UInt8) (pfx : ByteArray) (size file : Int) (ha : RdSl m encB 1 (.slice A l.length ca) l) (hcap : l.length ≤ ca) (hl : l.length ≤ 1099511627776) :
    GC Try.prog 3 #[.slice A l.length ca, .string pfx, .int .i64 size, .int .i64 file] m (fun u m' => u = .bool true ∧ HpLe m m') := by
  refine gc_intro (vs := [_, _, _, _]) Try.func3 rfl Try.ntmps3 (by simp) ?_
  refine awp_rs (ao_r (rig_assign rfl rfl) rfl (ao_nil ?_))
  refine awp_sk fun K1 hK1 => awp_rs ?_
  refine ao_x (ex_call rfl rfl e4 (F4 m)) rfl fun u m1 ⟨hu, hm1⟩ => ?_
  subst hu
  refine ao_r (rig_not rfl rfl) rfl (ao_nil ?_)
  refine awp_false rfl (awp_skip (hK1 _ _ (awp_rs (ao_r (rig_move rfl rfl) rfl ?_))))
  refine ao_x (ex_call rfl rfl e5 (F5 m1 A ca l 240 (RdSl.le ha hm1) hcap hl (by decide))) rfl fun u m2 ⟨p, hu, hC2⟩ => ao_r (rig_assign rfl rfl) rfl (ao_nil ?_)
  subst hu
  refine awp_rs ?_
  refine ao_x (ex_call rfl rfl e6 (F6 m2)) rfl fun u m3 ⟨hu, hm3⟩ => ?_
  subst hu
  obtain ⟨F3, hF3, hC3⟩ := hC2.up hm3
  rw [U_one m3]
  refine ao_x (ex_alloc rfl (Dj_single m3) zero30) rfl fun u m4 ⟨p10, hu, hm4, hD4⟩ => ?_
  subst hu hm4
  obtain ⟨hC4, hDF⟩ := hC3.add hD4
  replace hDF : Dj [nilB p10, F3] := hDF
  replace hC4 : CodH m1 p 52 (U [nilB p10, F3]) (U [nilB p10, m3]) := hC4
  show AOps _ _ _ _ _ (U [nilB p10, m3]) _
  generalize U [nilB p10, m3] = m5 at hC4
  clear hD4 hC3 hC2
  obtain ⟨c, hc, rfl, hD5⟩ := hC4.outL (L := [nilB p10, F3]) hDF
  refine ao_x0 (ex_store (i := 1) rfl hD5 rfl rfl Try.sizeOf30 (three_one rfl rfl rfl) rfl (Nat.le_refl 3)) fun u m9 ⟨_, hm9, hD9⟩ => ao_nil ?_
  subst hm9
  replace hD9 : Dj [c, nilB p10, F3] := hD9
  have hC9 : CodH m1 p 52 (U [nilB p10, F3]) (U [c, nilB p10, F3]) := CodH.backL (L := [nilB p10, F3]) hc hD9 (hF3.trans (le_at 1 hDF rfl))
  show AWp _ _ _ _ _ (U [c, nilB p10, F3])
  generalize U [c, nilB p10, F3] = m6 at hC9
  clear hD9 hD5 hC4 hc
  refine awp_sk fun K2 hK2 => awp_rs (ao_r (rig_move rfl rfl) rfl ?_)
  refine ao_x (ex_call rfl rfl e7 (F7 m1 p _ _ 12 hC9)) rfl fun u m7 ⟨k0, hu, hk0, hC10⟩ => ao_r (rig_assign rfl rfl) rfl (ao_nil ?_)
  subst hu
  refine awp_block ?_
  refine awp_le [(1, .string pfx), (2, .int .i64 size), (3, .int .i64 file), (9, .pointer (some ⟨p, 0, none⟩)), (10, .pointer (some ⟨p10, 0, none⟩)), (11, .int .i64 k0)] ⟨rfl, rfl, rfl, rfl, rfl, rfl, trivial⟩ ?_
  refine awp_loop (fun kk r mm => ∃ (vn vf vo : Value) (ns : List Nm) (fs : List Fl) (oz : List Int) (F : Hp) (B : Nat), r = [(1, .string pfx), (2, .int .i64 size), (3, .int .i64 file), (9, .pointer (some ⟨p, 0, none⟩)), (10, .pointer (some ⟨p10, 0, none⟩)), (11, .int .i64 (kk : Nat))] ∧ CodH m1 p 52 (U [dirB p10 vn vf vo, F]) mm ∧ Dj [dirB p10 vn vf vo, F] ∧ HpLe m1 F ∧ Dir F vn vf vo ns fs oz ∧ DI B ns fs ∧ oz.length ≤ B ∧ B + kk * 2001 ≤ 24012) k0
    ⟨_, _, _, [], [], [], F3, 0, rfl, hC10, hDF, hF3, ⟨⟨none, 0, 0, rfl, rfl, .inl rfl⟩, ⟨none, 0, 0, rfl, rfl, .inl rfl⟩, ⟨none, 0, 0, rfl, rfl, .inl rfl⟩, fun x hx => by cases hx⟩, DI.nil 0, by simp, by omega⟩ ?_
  clear hC10 hC9 hDF hF3 hm3
  rintro kk r mm ⟨vn, vf, vo, ns, fs, oz, F, B, rfl, hC, hD, hF, hdir, hdi, hol, hB⟩
  refine awp_sk fun K3 hK3 => awp_rs (ao_r (rig_move rfl rfl) rfl (ao_r (rig_gtr rfl rfl rfl) rfl (ao_nil ?_)))
  refine awp_if rfl (fun h0 => ?_) (fun h0 => ?_)
  · refine awp_skip (hK3 _ _ (awp_sk fun K4 hK4 => awp_block ?_))
    refine awp_sk fun K5 hK5 => ?_
    have hgo : ∀ (r : Env) (mm : Hp) (vn vf vo : Value) (ns : List Nm) (fs : List Fl) (oz : List Int) (F : Hp) (B : Nat), CodH m1 p 52 (U [dirB p10 vn vf vo, F]) mm → Dj [dirB p10 vn vf vo, F] → HpLe m1 F → Dir F vn vf vo ns fs oz → DI B ns fs → oz.length ≤ B → B + (kk - 1) * 2001 ≤ 24012 → EnvLe [(1, .string pfx), (2, .int .i64 size), (3, .int .i64 file), (9, .pointer (some ⟨p, 0, none⟩)), (10, .pointer (some ⟨p10, 0, none⟩)), (11, .int .i64 (kk : Nat))] r → K5 r mm := by
      intro r mm vn vf vo ns fs oz F B hC hD hF hdir hdi hol hB hr
      have hnext : ∀ (r : Env) (mm : Hp) (vn vf vo : Value) (ns : List Nm) (fs : List Fl) (oz : List Int) (F : Hp), CodH m1 p 52 (U [dirB p10 vn vf vo, F]) mm → Dj [dirB p10 vn vf vo, F] → HpLe m1 F → Dir F vn vf vo ns fs oz → DI B ns fs → oz.length ≤ B → EnvLe [(1, .string pfx), (2, .int .i64 size), (3, .int .i64 file), (9, .pointer (some ⟨p, 0, none⟩)), (10, .pointer (some ⟨p10, 0, none⟩)), (11, .int .i64 (kk : Nat))] r → K4 r mm := by
        intro r mm vn vf vo ns fs oz F hC hD hF hdir hdi hol hr
        refine hK4 _ _ (awp_le _ hr (awp_region (ao_r (rig_move rfl rfl) rfl (ao_r (rig_sub (c := ((kk - 1 : Nat) : Int)) rfl rfl rfl (by rw [w64 _ (by omega) (by omega)]; omega)) rfl (ao_r (rig_assign rfl rfl) rfl (ao_nil ?_))))))
        exact ⟨[(1, .string pfx), (2, .int .i64 size), (3, .int .i64 file), (9, .pointer (some ⟨p, 0, none⟩)), (10, .pointer (some ⟨p10, 0, none⟩)), (11, .int .i64 (kk - 1 : Nat))], kk - 1, ⟨rfl, rfl, rfl, rfl, rfl, rfl, trivial⟩, by omega, vn, vf, vo, ns, fs, oz, F, B, rfl, hC, hD, hF, hdir, hdi, hol, by omega⟩
      refine hK5 _ _ (awp_le _ hr (awp_rs (ao_r (rig_move rfl rfl) rfl ?_)))
      refine ao_x (ex_call rfl rfl e7 (F7 m1 p _ _ 4 hC)) rfl fun u m4 ⟨k4, hv4, _, hC4⟩ => ?_
      subst hv4
      refine ao_r (rig_eql rfl rfl rfl) rfl (ao_nil ?_)
      refine awp_cond rfl (fun _ => ?_) (fun _ => awp_skip (hnext _ _ vn vf vo ns fs oz F hC4 hD hF hdir hdi hol ⟨rfl, rfl, rfl, rfl, rfl, rfl, trivial⟩))
      refine awp_region (ao_r (rig_loadN (vs := [_, _, _]) rfl rfl Try.isAgg30 Try.sizeOf30 ((dirB_at 0 hD rfl).le hC4.le)) rfl ?_)
      rw [U_one m4]
      refine ao_x (ex_buildSlice (cs := #[.int .i64 1, .int .i64 2, .int .i64 3, .int .i64 4, .int .i64 5]) rfl (Dj_single m4) rfl Try.underlying28 Try.sizeOf3 Try.zeroValue3 (by decide) (by decide) (by kernel_rfl)) rfl fun w2 m5 ⟨b5, hw5, hm5, hD5⟩ => ?_
      subst hw5 hm5
      obtain ⟨hC5, hDy⟩ := hC4.add hD5
      have hy : RdSl (Go.Aw.one b5 (.cells #[.int .i64 1, .int .i64 2, .int .i64 3, .int .i64 4, .int .i64 5] 3 (0, 0))) encZ 1 (.slice (some ⟨b5, 0, none⟩) 5 5) [1, 2, 3, 4, 5] := ⟨_, 5, 5, rfl, rfl, .inr ⟨b5, 0, rfl, cellsAt_one b5 #[.int .i64 1, .int .i64 2, .int .i64 3, .int .i64 4, .int .i64 5] 3⟩⟩
      replace hDy : Dj [Go.Aw.one b5 (.cells #[.int .i64 1, .int .i64 2, .int .i64 3, .int .i64 4, .int .i64 5] 3 (0, 0)), U [dirB p10 vn vf vo, F]] := hDy
      replace hC5 : CodH m1 p 52 (U [Go.Aw.one b5 (.cells #[.int .i64 1, .int .i64 2, .int .i64 3, .int .i64 4, .int .i64 5] 3 (0, 0)), U [dirB p10 vn vf vo, F]]) (U [Go.Aw.one b5 (.cells #[.int .i64 1, .int .i64 2, .int .i64 3, .int .i64 4, .int .i64 5] 3 (0, 0)), m4]) := hC5
      show AOps _ _ _ _ _ (U [Go.Aw.one b5 (.cells #[.int .i64 1, .int .i64 2, .int .i64 3, .int .i64 4, .int .i64 5] 3 (0, 0)), m4]) _
      generalize Go.Aw.one b5 (.cells #[.int .i64 1, .int .i64 2, .int .i64 3, .int .i64 4, .int .i64 5] 3 (0, 0)) = y5 at hC5 hDy hy
      generalize U [y5, m4] = m6 at hC5
      have hDz : Dj [y5, dirB p10 vn vf vo, F] := Dj_flat (A := [y5]) hDy hD
      have hp : U [y5, dirB p10 vn vf vo, F] = U [dirB p10 vn vf vo, y5, F] ∧ Dj [dirB p10 vn vf vo, y5, F] := U_pm [1, 0, 2] rfl hDz
      have e6 : U [y5, U [dirB p10 vn vf vo, F]] = U [dirB p10 vn vf vo, U [y5, F]] := (U_flat [y5] _).trans (hp.1.trans (U_flat [_] _).symm)
      have hD6 : Dj [dirB p10 vn vf vo, U [y5, F]] := Dj_unflat (A := [_]) hp.2
      rw [e6] at hC5
      have hyF : Dj [y5, F] := hp.2.2
      have hF6 : HpLe F (U [y5, F]) := le_at 1 hyF rfl
      have hy6 := RdSl.le hy (le_at 0 hyF rfl)
      generalize U [y5, F] = F6 at hC5 hD6 hF6 hy6
      have hFm : HpLe F6 m6 := (le_at 1 hD6 rfl).trans hC5.le
      refine ao_x (ex_call rfl rfl e10 (F10 m6 vn vf vo _ ns fs oz [1, 2, 3, 4, 5] B (hdir.le (hF6.trans hFm)) hdi (by omega) (by omega) (RdSl.le hy6 hFm) (by decide))) rfl fun u m8 ⟨wn, wf, wo, fs', oz', hu, hm8, hdir', hdi', hol', hwo⟩ => ?_
      subst hu
      obtain ⟨c, F8', hc, em8, hD8, hF8, hdir8⟩ := dir_up hC5 hD6 (hdir.le hF6) hm8 hdir' (.inr hwo)
      subst em8
      have w1 := hdir8.n.one_
      have w2 := hdir8.f.one_
      have w3 := hdir8.o.one_
      refine ao_x0 (ex_store (i := 1) rfl hD8 rfl rfl Try.sizeOf30 (three_one w1 w2 w3) rfl (Nat.le_refl 3)) fun u m9 ⟨_, hm9, hD9⟩ => ao_nil ?_
      subst hm9
      replace hD9 : Dj [c, dirB p10 wn wf wo, F8'] := hD9
      have hmF := (hF.trans hF6).trans hF8
      exact hnext _ _ wn wf wo ns fs' oz' F8' (CodH.backL (L := [dirB p10 wn wf wo, F8']) hc hD9 (hmF.trans (le_at 1 hD9.2 rfl))) hD9.2 hmF hdir8 hdi' hol' ⟨rfl, rfl, rfl, rfl, rfl, rfl, trivial⟩
    refine awp_draw (.p 1 (.p 2 (.b 0 (.s 3 (.s 4 (.s 5 (.q 6 (.q 7 (.p 8 (.s 9 .fin))))))) 3 (.b 0 (.s 4 (.s 5 (.q 6 (.q 7 (.p 8 (.s 9 .fin)))))) 4 (.s 0 (.s 5 (.q 6 (.q 7 (.p 8 (.s 9 .fin)))))))))) [3, 4, 9] (by kernel_rfl) (by kernel_rfl) ?_
    refine opu rfl (rig_move rfl rfl) rfl (opu rfl (rig_move rfl rfl) rfl (od_b ?_ ?_))
    · refine os rfl (rig_loadN (vs := [_, _, _]) rfl rfl Try.isAgg30 Try.sizeOf30 ((dirB_at 0 hD rfl).le hC.le)).ex rfl fun u mL ⟨hu, hmL⟩ => ⟨fun _ => by subst hmL; exact HpLe.refl _, ?_⟩
      subst hu hmL
      refine os rfl (ex_call rfl rfl e7 (F7 m1 p _ _ 6 hC)) rfl fun v3 m4 ⟨k6, hv3, hk6, hC4⟩ => ⟨fun h => by simp at h, ?_⟩
      subst hv3
      refine os rfl (ex_call rfl rfl e9 (F9 m1 p _ _ k6 (by omega) hC4 (hF.trans (le_at 1 hD rfl)))) rfl fun u m5 ⟨ch, F5, hu, hF5, hC5, hcok, hclen⟩ => ⟨fun h => by simp at h, ?_⟩
      subst hu
      obtain ⟨F6, hF6, hD6, rfl⟩ := grow_to (cs := [dirB p10 vn vf vo]) hD hF5
      replace hD6 : Dj [dirB p10 vn vf vo, F6] := hD6
      replace hC5 : CodH m1 p 52 (U [dirB p10 vn vf vo, F6]) m5 := hC5
      have hFm : HpLe F m5 := (hF6.trans (le_at 1 hD6 rfl)).trans hC5.le
      refine os rfl (ex_call rfl rfl e8 (F8 _ vn vf vo ns fs oz ch B (hdir.le hFm) hdi (hcok.le hC5.le) (by omega) (by omega))) rfl fun u m8 ⟨wn, wf, wo, ns', fs', e, hu, hm8, hdir', hdi', hwo⟩ => ⟨fun _ => hm8, ?_⟩
      subst hu
      obtain ⟨c, F8', hc, em8, hD8, hF8, hdir8⟩ := dir_up hC5 hD6 (hdir.le hF6) hm8 hdir' (hwo.imp (fun e => ⟨e, rfl⟩) id)
      subst em8
      have w1 := hdir8.n.one_
      have w2 := hdir8.f.one_
      have w3 := hdir8.o.one_
      refine oq rfl (rig_move rfl rfl) rfl (oq rfl (rig_extract rfl rfl rfl) rfl (opu rfl (rig_extract rfl rfl rfl) rfl ?_))
      refine os0 rfl (ex_store (i := 1) rfl hD8 rfl rfl Try.sizeOf30 (three_one w1 w2 w3) rfl (Nat.le_refl 3)) fun u m9 ⟨_, hm9, hD9⟩ => ⟨fun h => by simp at h, od_fin ?_⟩
      subst hm9
      replace hD9 : Dj [c, dirB p10 wn wf wo, F8'] := hD9
      have hmF := (hF.trans hF6).trans hF8
      exact hgo _ _ _ _ _ _ _ oz _ (B + ch.data.length + 1) (CodH.backL (L := [dirB p10 wn wf wo, F8']) hc hD9 (hmF.trans (le_at 1 hD9.2 rfl))) hD9.2 hmF hdir8 hdi' (by omega) (by omega) ⟨rfl, rfl, rfl, rfl, rfl, rfl, trivial⟩
    · refine os rfl (ex_call rfl rfl e7 (F7 m1 p _ _ 6 hC)) rfl fun v3 m4 ⟨k6, hv3, hk6, hC4⟩ => ⟨fun h => by simp at h, ?_⟩
      subst hv3
      refine od_b ?_ ?_
      · refine os rfl (rig_loadN (vs := [_, _, _]) rfl rfl Try.isAgg30 Try.sizeOf30 ((dirB_at 0 hD rfl).le hC4.le)).ex rfl fun u mL ⟨hu, hmL⟩ => ⟨fun _ => by subst hmL; exact HpLe.refl _, ?_⟩
        subst hu hmL
        refine os rfl (ex_call rfl rfl e9 (F9 m1 p _ _ k6 (by omega) hC4 (hF.trans (le_at 1 hD rfl)))) rfl fun u m5 ⟨ch, F5, hu, hF5, hC5, hcok, hclen⟩ => ⟨fun h => by simp at h, ?_⟩
        subst hu
        obtain ⟨F6, hF6, hD6, rfl⟩ := grow_to (cs := [dirB p10 vn vf vo]) hD hF5
        replace hD6 : Dj [dirB p10 vn vf vo, F6] := hD6
        replace hC5 : CodH m1 p 52 (U [dirB p10 vn vf vo, F6]) m5 := hC5
        have hFm : HpLe F m5 := (hF6.trans (le_at 1 hD6 rfl)).trans hC5.le
        refine os rfl (ex_call rfl rfl e8 (F8 _ vn vf vo ns fs oz ch B (hdir.le hFm) hdi (hcok.le hC5.le) (by omega) (by omega))) rfl fun u m8 ⟨wn, wf, wo, ns', fs', e, hu, hm8, hdir', hdi', hwo⟩ => ⟨fun _ => hm8, ?_⟩
        subst hu
        obtain ⟨c, F8', hc, em8, hD8, hF8, hdir8⟩ := dir_up hC5 hD6 (hdir.le hF6) hm8 hdir' (hwo.imp (fun e => ⟨e, rfl⟩) id)
        subst em8
        have w1 := hdir8.n.one_
        have w2 := hdir8.f.one_
        have w3 := hdir8.o.one_
        refine oq rfl (rig_move rfl rfl) rfl (oq rfl (rig_extract rfl rfl rfl) rfl (opu rfl (rig_extract rfl rfl rfl) rfl ?_))
        refine os0 rfl (ex_store (i := 1) rfl hD8 rfl rfl Try.sizeOf30 (three_one w1 w2 w3) rfl (Nat.le_refl 3)) fun u m9 ⟨_, hm9, hD9⟩ => ⟨fun h => by simp at h, od_fin ?_⟩
        subst hm9
        replace hD9 : Dj [c, dirB p10 wn wf wo, F8'] := hD9
        have hmF := (hF.trans hF6).trans hF8
        exact hgo _ _ _ _ _ _ _ oz _ (B + ch.data.length + 1) (CodH.backL (L := [dirB p10 wn wf wo, F8']) hc hD9 (hmF.trans (le_at 1 hD9.2 rfl))) hD9.2 hmF hdir8 hdi' (by omega) (by omega) ⟨rfl, rfl, rfl, rfl, rfl, rfl, trivial⟩
      · refine os rfl (ex_call rfl rfl e9 (F9 m1 p _ _ k6 (by omega) hC4 (hF.trans (le_at 1 hD rfl)))) rfl fun u m5 ⟨ch, F5, hu, hF5, hC5, hcok, hclen⟩ => ⟨fun h => by simp at h, ?_⟩
        subst hu
        obtain ⟨F6, hF6, hD6, rfl⟩ := grow_to (cs := [dirB p10 vn vf vo]) hD hF5
        replace hD6 : Dj [dirB p10 vn vf vo, F6] := hD6
        replace hC5 : CodH m1 p 52 (U [dirB p10 vn vf vo, F6]) m5 := hC5
        have hFm : HpLe F m5 := (hF6.trans (le_at 1 hD6 rfl)).trans hC5.le
        refine os rfl (rig_loadN (vs := [_, _, _]) rfl rfl Try.isAgg30 Try.sizeOf30 ((dirB_at 0 hD6 rfl).le hC5.le)).ex rfl fun u mL ⟨hu, hmL⟩ => ⟨fun _ => by subst hmL; exact HpLe.refl _, ?_⟩
        subst hu hmL
        refine os rfl (ex_call rfl rfl e8 (F8 _ vn vf vo ns fs oz ch B (hdir.le hFm) hdi (hcok.le hC5.le) (by omega) (by omega))) rfl fun u m8 ⟨wn, wf, wo, ns', fs', e, hu, hm8, hdir', hdi', hwo⟩ => ⟨fun _ => hm8, ?_⟩
        subst hu
        obtain ⟨c, F8', hc, em8, hD8, hF8, hdir8⟩ := dir_up hC5 hD6 (hdir.le hF6) hm8 hdir' (hwo.imp (fun e => ⟨e, rfl⟩) id)
        subst em8
        have w1 := hdir8.n.one_
        have w2 := hdir8.f.one_
        have w3 := hdir8.o.one_
        refine oq rfl (rig_move rfl rfl) rfl (oq rfl (rig_extract rfl rfl rfl) rfl (opu rfl (rig_extract rfl rfl rfl) rfl ?_))
        refine os0 rfl (ex_store (i := 1) rfl hD8 rfl rfl Try.sizeOf30 (three_one w1 w2 w3) rfl (Nat.le_refl 3)) fun u m9 ⟨_, hm9, hD9⟩ => ⟨fun h => by simp at h, od_fin ?_⟩
        subst hm9
        replace hD9 : Dj [c, dirB p10 wn wf wo, F8'] := hD9
        have hmF := (hF.trans hF6).trans hF8
        exact hgo _ _ _ _ _ _ _ oz _ (B + ch.data.length + 1) (CodH.backL (L := [dirB p10 wn wf wo, F8']) hc hD9 (hmF.trans (le_at 1 hD9.2 rfl))) hD9.2 hmF hdir8 hdi' (by omega) (by omega) ⟨rfl, rfl, rfl, rfl, rfl, rfl, trivial⟩
  · refine awp_exit (hK2 _ _ ?_)
    have hdm : Dir mm vn vf vo ns fs oz := hdir.le ((le_at 1 hD rfl).trans hC.le)
    have hbx : CellsAt mm p10 0 [vn, vf, vo] := (dirB_at 0 hD rfl).le hC.le
    have hnl : ns.length ≤ 1048576 := by have := hdi.nl; omega
    have hfl : fs.length ≤ 1048576 := by have := hdi.fl; omega
    have hol2 : oz.length ≤ 1048576 := by omega
    have hFk : ∀ x ∈ fs, FOk 1048576 x := fun x hx => (hdi.ok x hx).mono (by omega)
    have hasc := hdi.asc
    have hmm0 : HpLe m mm := hm1.trans (hF.trans ((le_at 1 hD rfl).trans hC.le))
    clear hK3 K3 hC hD hdir hF
    refine awp_sk fun K3 hK3 => ?_
    have hret : ∀ (r : Env) (m' : Hp), HpLe mm m' → K3 r m' := fun r m' hh => hK3 _ _ (awp_rs (ao_r (rig_assign rfl rfl) rfl (ao_nil (awp_ret ⟨_, res1 Try.results3 rfl, rfl, hmm0.trans hh⟩))))
    obtain ⟨qs, hqs⟩ : ∃ qs : List ByteArray, qs = [pfx, ⟨#[]⟩, ⟨#[97, 112, 112]⟩, ⟨#[97, 112, 112, 46]⟩] := ⟨_, rfl⟩
    have hql : qs.length = 4 := by rw [hqs]; rfl
    rw [U_one mm]
    refine awp_rs (ao_r (rig_move rfl rfl) rfl ?_)
    refine ao_x (ex_buildSlice (cs := (qs.map Value.string).toArray) rfl (Dj_single mm) rfl Try.underlying40 Try.sizeOf9 Try.zeroValue9 (by decide) (by decide) (by rw [hqs]; kernel_rfl)) rfl fun w2 m2 ⟨b4, hw2, hm2, hD2⟩ => ?_
    subst hw2 hm2
    refine ao_r (rig_lenSl rfl rfl Try.underlying40) rfl (ao_r (rig_move rfl rfl) rfl (ao_nil ?_))
    have hrow4 : Strs (U [Go.Aw.one b4 (.cells (qs.map Value.string).toArray 9 (0, 0)), mm]) (.slice (some ⟨b4, 0, none⟩) 4 4) qs := by
      refine RdSl.le (m := Go.Aw.one b4 (.cells (qs.map Value.string).toArray 9 (0, 0))) ?_ U_le_head
      refine ⟨_, 4, 4, rfl, by rw [rows_length encS_len, hql], .inr ⟨b4, 0, rfl, ?_⟩⟩
      rw [rows_encS]
      exact cellsAt_one b4 (qs.map Value.string).toArray 9
    have hmA : HpLe mm (U [Go.Aw.one b4 (.cells (qs.map Value.string).toArray 9 (0, 0)), mm]) := le_at 1 hD2 rfl
    generalize U [Go.Aw.one b4 (.cells (qs.map Value.string).toArray 9 (0, 0)), mm] = mA at hrow4 hmA
    clear hD2
    refine awp_block ?_
    refine awp_le [(2, .int .i64 size), (3, .int .i64 file), (10, .pointer (some ⟨p10, 0, none⟩)), (50, .slice (some ⟨b4, 0, none⟩) 4 4), (51, .int .i64 (4 : Nat)), (52, .int .i64 (0 : Nat))] ⟨rfl, rfl, rfl, rfl, rfl, rfl, trivial⟩ ?_
    refine awp_loop (fun kk r mm => ∃ i : Nat, i ≤ 4 ∧ kk = 4 - i ∧ r = [(2, .int .i64 size), (3, .int .i64 file), (10, .pointer (some ⟨p10, 0, none⟩)), (50, .slice (some ⟨b4, 0, none⟩) 4 4), (51, .int .i64 (4 : Nat)), (52, .int .i64 i)] ∧ HpLe mA mm) 4 ⟨0, by omega, rfl, rfl, HpLe.refl _⟩ ?_
    rintro kk2 r m5 ⟨i, hi, rfl, rfl, hm5⟩
    refine awp_rs (ao_r (rig_lss rfl rfl rfl) rfl (ao_nil ?_))
    refine awp_sk fun K4 hK4 => ?_
    refine awp_if rfl (fun h4 => ?_) (fun h4 => awp_exit (hret _ _ (hmA.trans hm5)))
    obtain ⟨q, hq⟩ := get_lt (l := qs) (i := i) (by omega)
    obtain ⟨b1, o1, c1, e1, hqc⟩ := RdSl.get_ encS_len (by decide) (RdSl.le hrow4 hm5) hq
    rw [hql] at e1
    simp only [Value.slice.injEq, Option.some.injEq, Addr.mk.injEq, and_true, true_and] at e1
    obtain ⟨⟨rfl, rfl⟩, rfl⟩ := e1
    refine awp_skip (hK4 _ _ (awp_sk fun K5 hK5 => awp_block (awp_rs ?_)))
    refine ao_r (rig_ix i rfl rfl rfl Try.underlying40 Try.sizeOf9 rfl rfl (by omega)) rfl (ao_r (rig_load1 rfl rfl Try.isAgg9 hqc.1) rfl (ao_r (rig_assign rfl rfl) rfl (ao_nil ?_)))
    rw [U_one m5]
    refine awp_rs (ao_r (rig_move rfl rfl) rfl ?_)
    refine ao_x (ex_buildSlice (cs := #[.int .i64 size, .int .i64 7, .int .i64 1]) rfl (Dj_single m5) rfl Try.underlying28 Try.sizeOf3 Try.zeroValue3 (by decide) (by decide) (by kernel_rfl)) rfl fun w2 m6 ⟨b3, hw2, hm6, hD6⟩ => ?_
    subst hw2 hm6
    refine ao_r (rig_lenSl rfl rfl Try.underlying28) rfl (ao_r (rig_move rfl rfl) rfl (ao_nil ?_))
    have hrow3 : RdSl (U [Go.Aw.one b3 (.cells #[.int .i64 size, .int .i64 7, .int .i64 1] 3 (0, 0)), m5]) encZ 1 (.slice (some ⟨b3, 0, none⟩) 3 3) [size, 7, 1] :=
      ⟨_, 3, 3, rfl, rfl, .inr ⟨b3, 0, rfl, (cellsAt_one b3 #[.int .i64 size, .int .i64 7, .int .i64 1] 3).le (le_at 0 hD6 rfl)⟩⟩
    have hm56 : HpLe m5 (U [Go.Aw.one b3 (.cells #[.int .i64 size, .int .i64 7, .int .i64 1] 3 (0, 0)), m5]) := le_at 1 hD6 rfl
    generalize U [Go.Aw.one b3 (.cells #[.int .i64 size, .int .i64 7, .int .i64 1] 3 (0, 0)), m5] = mB at hrow3 hm56
    clear hD6
    refine awp_block ?_
    refine awp_le [(2, .int .i64 size), (3, .int .i64 file), (10, .pointer (some ⟨p10, 0, none⟩)), (50, .slice (some ⟨b4, 0, none⟩) 4 4), (51, .int .i64 (4 : Nat)), (52, .int .i64 i), (13, .string q), (57, .slice (some ⟨b3, 0, none⟩) 3 3), (58, .int .i64 (3 : Nat)), (59, .int .i64 (0 : Nat))] ⟨rfl, rfl, rfl, rfl, rfl, rfl, rfl, rfl, rfl, rfl, trivial⟩ ?_
    refine awp_loop (fun kk r mm => ∃ j : Nat, j ≤ 3 ∧ kk = 3 - j ∧ r = [(2, .int .i64 size), (3, .int .i64 file), (10, .pointer (some ⟨p10, 0, none⟩)), (50, .slice (some ⟨b4, 0, none⟩) 4 4), (51, .int .i64 (4 : Nat)), (52, .int .i64 i), (13, .string q), (57, .slice (some ⟨b3, 0, none⟩) 3 3), (58, .int .i64 (3 : Nat)), (59, .int .i64 j)] ∧ HpLe mB mm) 3 ⟨0, by omega, rfl, rfl, HpLe.refl _⟩ ?_
    rintro kk3 r m7 ⟨j, hj, rfl, rfl, hm7⟩
    refine awp_rs (ao_r (rig_lss rfl rfl rfl) rfl (ao_nil ?_))
    refine awp_sk fun K6 hK6 => ?_
    refine awp_if rfl (fun h6 => ?_) (fun h6 => awp_exit (hK5 _ _ (awp_region (ao_r (rig_add (c := ((i + 1 : Nat) : Int)) rfl rfl rfl (w64 _ (by omega) (by omega))) rfl (ao_r (rig_move rfl rfl) rfl (ao_nil ⟨[(2, .int .i64 size), (3, .int .i64 file), (10, .pointer (some ⟨p10, 0, none⟩)), (50, .slice (some ⟨b4, 0, none⟩) 4 4), (51, .int .i64 (4 : Nat)), (52, .int .i64 (i + 1 : Nat))], _, ⟨rfl, rfl, rfl, rfl, rfl, rfl, trivial⟩, by omega, i + 1, by omega, rfl, rfl, (hm5.trans hm56).trans hm7⟩))))))
    obtain ⟨z, hz⟩ := get_lt (l := [size, 7, 1]) (i := j) (by simp; omega)
    obtain ⟨b1, o1, c1, e1, hzc⟩ := RdSl.get_ encZ_len (by decide) (RdSl.le hrow3 hm7) hz
    simp only [Value.slice.injEq, Option.some.injEq, Addr.mk.injEq, and_true, true_and] at e1
    obtain ⟨⟨rfl, rfl⟩, _, rfl⟩ := e1
    have hmm7 : HpLe mm m7 := (hmA.trans hm5).trans (hm56.trans hm7)
    refine awp_skip (hK6 _ _ (awp_sk fun K7 hK7 => awp_block (awp_rs ?_)))
    refine ao_r (rig_ix j rfl rfl rfl Try.underlying28 Try.sizeOf3 rfl rfl (by omega)) rfl (ao_r (rig_load1 rfl rfl Try.isAgg3 hzc.1) rfl (ao_r (rig_assign rfl rfl) rfl (ao_nil ?_)))
    -- both scans
    refine awp_rs (ao_r (rig_loadN (vs := [_, _, _]) rfl rfl Try.isAgg30 Try.sizeOf30 (hbx.le hmm7)) rfl (ao_r (rig_move rfl rfl) rfl (ao_r (rig_move rfl rfl) rfl ?_)))
    refine ao_x (ex_call rfl rfl e11 (F11 _ vn vf vo ns fs oz q z (hdm.le hmm7) hnl hfl hol2 hasc hFk)) rfl fun v16 m8 ⟨out, c8, G8, hm8, hD8, hG8, hO8, hlt8, hp8⟩ => ao_r (rig_assign rfl rfl) rfl (ao_nil ?_)
    subst hm8
    have hmm8 : HpLe mm (U [c8, G8]) := hmm7.trans (hG8.trans (le_at 1 hD8 rfl))
    have hol3 : out.length ≤ 1048576 := by
      rw [hp8.length_eq]; exact Nat.le_trans (List.length_filterMap_le _ _) hfl
    refine awp_sk fun K8 hK8 => awp_rs ?_
    refine ao_r (rig_move rfl rfl) rfl (ao_r (rig_loadN (vs := [_, _, _]) rfl rfl Try.isAgg30 Try.sizeOf30 (hbx.le hmm8)) rfl (ao_r (rig_move rfl rfl) rfl (ao_r (rig_move rfl rfl) rfl ?_)))
    refine ao_x (ex_call rfl rfl e13 (F13 _ vn vf vo ns fs oz q z (hdm.le hmm8) hnl hfl hol2 hasc hFk)) rfl fun v71 m9 ⟨out2, hm9, hrd9, hlt9, hp9⟩ => ?_
    have heq : out = out2 := ltS_unique (hp8.trans hp9.symm) hlt8 hlt9
    subst heq
    obtain ⟨G9, hG9, hD9, rfl⟩ := grow_to (cs := [c8]) hD8 hm9
    replace hD9 : Dj [c8, G9] := hD9
    have hrd8 := RdSl.le hO8.rd (le_at 0 hD9 rfl)
    refine ao_r (rig_call rfl rfl e12 (F12 _ _ _ out out hrd8 hrd9 (by omega) (by omega))) rfl (ao_r (rig_not rfl rfl) rfl (ao_nil ?_))
    rw [decide_eq_true rfl]
    refine awp_false rfl (awp_skip (hK8 _ _ ?_))
    show AWp _ _ _ _ _ (U [c8, G9])
    have hmm9 : HpLe m7 G9 := hG8.trans hG9
    clear hm9 hrd8 hrd9
    -- one more
    refine awp_rs (ao_r (rig_move rfl rfl) rfl (ao_r (rig_move rfl rfl) rfl (ao_r (rig_build (pl := #[(0, 1), (1, 1), (2, 1)]) (cs := (encSn (⟨file, 0, 0⟩ : Sn)).toArray) rfl rfl Try.underlying45 Try.zeroValue45 (fun w => by kernel_rfl) rfl) rfl ?_)))
    refine ao_x (ex_buildSlice rfl hD9 rfl Try.underlying41 Try.sizeOf45 Try.zeroValue45 (by decide) (by decide) (fill_one rfl (rangeMap_size _ _))) rfl fun w2 m2 ⟨b2, hw2, hm2, hD10⟩ => ?_
    subst hw2 hm2
    refine ao_x (ex_appendK 1 (by_ := 24) rfl hD10 rfl rfl Try.underlying41 inf45 rfl (by decide) (by decide) hO8 rfl (src_one (enc := encSn) (x := (⟨file, 0, 0⟩ : Sn)) encSn_len ((cellsAt_one b2 (encSn (⟨file, 0, 0⟩ : Sn)).toArray 45).le U_le_head)) (one_rows encSn_one _) (by rw [rows_length encSn_len, rows_length encSn_len]; simp; omega) (by intro e; cases e)) rfl fun v78 m10 ⟨c10, L10, hO10, hm10, hD11, hcase⟩ => ?_
    subst hm10
    rw [← rows_append] at hO10
    obtain ⟨A78, k78, rfl⟩ := hO10.len encSn_len (by decide)
    have hkn : HpLe G9 (U L10) ∧ RdSl (U L10) encSn 3 v16 out ∧ RdSl (U L10) encSn 3 (.slice A78 (out ++ [(⟨file, 0, 0⟩ : Sn)]).length k78) (out ++ [(⟨file, 0, 0⟩ : Sn)]) := by
      rcases hcase with ⟨rfl, hS⟩ | rfl
      · exact ⟨le_at 2 hD11 rfl, Src.le hS (le_at 1 hD11 rfl), RdSl.le hO10.rd (le_at 1 hD11 rfl)⟩
      · exact ⟨le_at 3 hD11 rfl, RdSl.le hO8.rd (le_at 2 hD11 rfl), RdSl.le hO10.rd (le_at 0 hD11 rfl)⟩
    obtain ⟨hG10, hrd16, hrd78⟩ := hkn
    generalize U L10 = m10 at hG10 hrd16 hrd78
    clear hcase hD11 hO10 hD10 hO8 hD9
    refine ao_r (rig_lenSl rfl rfl Try.underlying41) rfl (ao_r (rig_move rfl rfl) rfl (ao_nil ?_))
    refine awp_block ?_
    refine awp_le [(2, .int .i64 size), (3, .int .i64 file), (10, .pointer (some ⟨p10, 0, none⟩)), (50, .slice (some ⟨b4, 0, none⟩) 4 4), (51, .int .i64 (4 : Nat)), (52, .int .i64 i), (13, .string q), (57, .slice (some ⟨b3, 0, none⟩) 3 3), (58, .int .i64 (3 : Nat)), (59, .int .i64 j), (16, v16), (78, .slice A78 (out ++ [(⟨file, 0, 0⟩ : Sn)]).length k78), (79, .int .i64 (out ++ [(⟨file, 0, 0⟩ : Sn)]).length), (80, .int .i64 (0 : Nat))] ⟨rfl, rfl, rfl, rfl, rfl, rfl, rfl, rfl, rfl, rfl, rfl, rfl, rfl, rfl, trivial⟩ ?_
    refine awp_loop (fun kk r mm => ∃ t : Nat, t ≤ (out ++ [(⟨file, 0, 0⟩ : Sn)]).length ∧ kk = (out ++ [(⟨file, 0, 0⟩ : Sn)]).length - t ∧ r = [(2, .int .i64 size), (3, .int .i64 file), (10, .pointer (some ⟨p10, 0, none⟩)), (50, .slice (some ⟨b4, 0, none⟩) 4 4), (51, .int .i64 (4 : Nat)), (52, .int .i64 i), (13, .string q), (57, .slice (some ⟨b3, 0, none⟩) 3 3), (58, .int .i64 (3 : Nat)), (59, .int .i64 j), (16, v16), (78, .slice A78 (out ++ [(⟨file, 0, 0⟩ : Sn)]).length k78), (79, .int .i64 (out ++ [(⟨file, 0, 0⟩ : Sn)]).length), (80, .int .i64 t)] ∧ HpLe m10 mm) (out ++ [(⟨file, 0, 0⟩ : Sn)]).length ⟨0, by omega, rfl, rfl, HpLe.refl _⟩ ?_
    rintro kk4 r m11 ⟨t, ht, rfl, rfl, hm11⟩
    refine awp_rs (ao_r (rig_lss rfl rfl rfl) rfl (ao_nil ?_))
    refine awp_sk fun K10 hK10 => ?_
    refine awp_if rfl (fun h7 => ?_) (fun h7 => awp_exit (hK7 _ _ (awp_region (ao_r (rig_add (c := ((j + 1 : Nat) : Int)) rfl rfl rfl (w64 _ (by omega) (by omega))) rfl (ao_r (rig_move rfl rfl) rfl (ao_nil ⟨[(2, .int .i64 size), (3, .int .i64 file), (10, .pointer (some ⟨p10, 0, none⟩)), (50, .slice (some ⟨b4, 0, none⟩) 4 4), (51, .int .i64 (4 : Nat)), (52, .int .i64 i), (13, .string q), (57, .slice (some ⟨b3, 0, none⟩) 3 3), (58, .int .i64 (3 : Nat)), (59, .int .i64 (j + 1 : Nat))], _, ⟨rfl, rfl, rfl, rfl, rfl, rfl, rfl, rfl, rfl, rfl, trivial⟩, by omega, j + 1, by omega, rfl, rfl, hm7.trans (hmm9.trans (hG10.trans hm11))⟩))))))
    have hlen78 : (out ++ [(⟨file, 0, 0⟩ : Sn)]).length ≤ 1048577 := by simp; omega
    obtain ⟨x, hx⟩ := get_lt (l := out ++ [(⟨file, 0, 0⟩ : Sn)]) (i := t) (by omega)
    obtain ⟨b1, o1, c1, e1, hxc⟩ := RdSl.get_ encSn_len (by decide) (RdSl.le hrd78 hm11) hx
    simp only [Value.slice.injEq] at e1
    obtain ⟨rfl, _, rfl⟩ := e1
    refine awp_skip (hK10 _ _ (awp_sk fun K11 hK11 => awp_block ?_))
    rw [U_one m11]
    rw [U_one m11] at hxc
    refine awp_rs (ao_r (rig_ix t rfl rfl rfl Try.underlying41 Try.sizeOf45 rfl rfl (by omega)) rfl (ao_r (rig_loadN (vs := encSn x) rfl rfl Try.isAgg45 Try.sizeOf45 hxc) rfl ?_))
    refine ao_x (ex_alloc rfl (Dj_single m11) Try.zeroValue45) rfl fun u m12 ⟨p18, hu, hm12, hD12⟩ => ?_
    subst hu hm12
    refine ao_x0 (ex_store (i := 0) rfl hD12 rfl rfl Try.sizeOf45 (encSn_one x) rfl (Nat.le_refl 3)) fun u m13 ⟨_, hm13, hD13⟩ => ao_nil ?_
    subst hm13
    rw [List.set_cons_zero, putR_all _ _ (by rfl)] at hD13 ⊢
    replace hD13 : Dj [snB p18 x, m11] := hD13
    show AWp _ _ _ _ _ (U [snB p18 x, m11])
    have hx18 := snB_at 0 hD13 rfl
    have h13 : HpLe m11 (U [snB p18 x, m11]) := le_at 1 hD13 rfl
    generalize U [snB p18 x, m11] = m13 at hx18 h13
    clear hD13 hD12 hxc
    have hrdA := RdSl.le hrd16 (hm11.trans h13)
    refine awp_rs (ao_r (rig_move rfl rfl) rfl (ao_r (rig_fieldAddr rfl rfl Try.underlying45 rfl Try.sizeOf3 rfl) rfl (ao_r (rig_load1 rfl rfl Try.isAgg3 hx18.1) rfl ?_)))
    refine ao_x (ex_call rfl rfl e14 (F14 _ _ out x.file hrdA (by omega))) rfl fun u m14 ⟨hu, hm14⟩ => ?_
    subst hu
    rw [U_one m14]
    refine ao_r (rig_move rfl rfl) rfl (ao_r (rig_extract rfl rfl rfl) rfl (ao_r (rig_extract rfl rfl rfl) rfl ?_))
    refine ao_x (ex_alloc rfl (Dj_single m14) Try.zeroValue45) rfl fun u m15 ⟨p19, hu, hm15, hD15⟩ => ?_
    subst hu hm15
    refine ao_x0 (ex_store (i := 0) rfl hD15 rfl rfl Try.sizeOf45 (encSn_one (lonS out x.file)) rfl (Nat.le_refl 3)) fun u m16 ⟨_, hm16, hD16⟩ => ao_r (rig_assign rfl rfl) rfl (ao_nil ?_)
    subst hm16
    rw [List.set_cons_zero, putR_all _ _ (by rfl)] at hD16 ⊢
    replace hD16 : Dj [snB p19 (lonS out x.file), m14] := hD16
    show AWp _ _ _ _ _ (U [snB p19 (lonS out x.file), m14])
    have hx19 := snB_at 0 hD16 rfl
    have h16 : HpLe m14 (U [snB p19 (lonS out x.file), m14]) := le_at 1 hD16 rfl
    generalize U [snB p19 (lonS out x.file), m14] = m16 at hx19 h16
    clear hD16 hD15
    have h1316 := hm14.trans h16
    refine awp_rs (ao_r (rig_move rfl rfl) rfl (ao_r (rig_fieldAddr rfl rfl Try.underlying45 rfl Try.sizeOf3 rfl) rfl (ao_r (rig_load1 rfl rfl Try.isAgg3 (hx18.le h1316).1) rfl ?_)))
    refine ao_x (ex_call rfl rfl e15 (F15 _ _ out x.file (RdSl.le hrdA h1316) (by omega))) rfl fun u m17 ⟨hu, hm17⟩ => ?_
    subst hu
    rw [U_one m17]
    refine ao_r (rig_move rfl rfl) rfl (ao_r (rig_extract rfl rfl rfl) rfl (ao_r (rig_extract rfl rfl rfl) rfl ?_))
    refine ao_x (ex_alloc rfl (Dj_single m17) Try.zeroValue45) rfl fun u m18 ⟨p21, hu, hm18, hD18⟩ => ?_
    subst hu hm18
    refine ao_x0 (ex_store (i := 0) rfl hD18 rfl rfl Try.sizeOf45 (encSn_one (lonS out x.file)) rfl (Nat.le_refl 3)) fun u m19 ⟨_, hm19, hD19⟩ => ao_r (rig_assign rfl rfl) rfl (ao_nil ?_)
    subst hm19
    rw [List.set_cons_zero, putR_all _ _ (by rfl)] at hD19 ⊢
    replace hD19 : Dj [snB p21 (lonS out x.file), m17] := hD19
    show AWp _ _ _ _ _ (U [snB p21 (lonS out x.file), m17])
    have hx21 := snB_at 0 hD19 rfl
    have h19 : HpLe m17 (U [snB p21 (lonS out x.file), m17]) := le_at 1 hD19 rfl
    generalize U [snB p21 (lonS out x.file), m17] = m19 at hx21 h19
    clear hD19 hD18
    have hx19' := hx19.le (hm17.trans h19)
    refine awp_rs (ao_r (rig_loadN (vs := encSn (lonS out x.file)) rfl rfl Try.isAgg45 Try.sizeOf45 hx19') rfl (ao_r (rig_loadN (vs := encSn (lonS out x.file)) rfl rfl Try.isAgg45 Try.sizeOf45 hx21) rfl (ao_r (rig_neqSn (a := lonS out x.file) (b := lonS out x.file) rfl rfl rfl) rfl ?_)))
    rw [decide_eq_true rfl]
    refine ao_r (rig_move rfl rfl) rfl (ao_on rfl rfl (ao_r (rig_move rfl rfl) rfl (ao_on rfl rfl (ao_r (rig_move rfl rfl) rfl (ao_on rfl rfl (ao_r (rig_bneq rfl Try.underlying4 rfl rfl) rfl ?_))))))
    rw [decide_eq_true rfl]
    refine ao_r (rig_pickF rfl rfl rfl) rfl (ao_nil ?_)
    refine awp_false rfl (awp_skip (hK11 _ _ ?_))
    refine awp_region (ao_r (rig_add (c := ((t + 1 : Nat) : Int)) rfl rfl rfl (w64 _ (by omega) (by omega))) rfl (ao_r (rig_move rfl rfl) rfl (ao_nil ?_)))
    exact ⟨[(2, .int .i64 size), (3, .int .i64 file), (10, .pointer (some ⟨p10, 0, none⟩)), (50, .slice (some ⟨b4, 0, none⟩) 4 4), (51, .int .i64 (4 : Nat)), (52, .int .i64 i), (13, .string q), (57, .slice (some ⟨b3, 0, none⟩) 3 3), (58, .int .i64 (3 : Nat)), (59, .int .i64 j), (16, v16), (78, .slice (some ⟨b1, o1, none⟩) (out ++ [(⟨file, 0, 0⟩ : Sn)]).length k78), (79, .int .i64 (out ++ [(⟨file, 0, 0⟩ : Sn)]).length), (80, .int .i64 (t + 1 : Nat))], _, ⟨rfl, rfl, rfl, rfl, rfl, rfl, rfl, rfl, rfl, rfl, rfl, rfl, rfl, rfl, trivial⟩, by omega, t + 1, by omega, rfl, rfl, (hm11.trans h13).trans (h1316.trans (hm17.trans h19))⟩
theorem F3r (m : Hp) (A : Option Addr) (ca : Nat) (l : List UInt8) (pfx : ByteArray) (size file : Int) (ha : RdSl m encB 1 (.slice A l.length ca) l) (hcap : l.length ≤ ca) (hl : l.length ≤ 1099511627776) :
    RC Try.prog 3 #[.slice A l.length ca, .string pfx, .int .i64 size, .int .i64 file] m (.bool true) := rc_of_gc fun m1 hm => F3 m1 A ca l pfx size file (RdSl.le ha hm) hcap hl
end Go.Proofs.Ytbonkkbpjlikjaa
/- The law FingerprintScans holds: 'FingerprintScansUptoSaid'; no condition but the row's own: what the arguments hold together is of bulk at most 1048576. -/
set_option linter.unusedVariables false
namespace Go.Proofs.Ytbonkkbpjlikjaa.fingerprintScans
open Go.ChangeShapes Go.WideShapes Go.ChangeAt Go.RowKit
set_option maxRecDepth 100000 in
theorem contract (H : Type) (enc : TypeId × Value → H) (W : World) (base : Nat) (args : Array Value) (ds gs : List (DataW H)) (before : List MemPlace)
    (hval : ∀ (j : Nat) t v, Try.f3.params[j]? = some t → args[j]? = some v → Value.okWide Try.prog W .any base t v)
    (hW : DataW.Whole enc Try.prog Try.f3.params.toList Rows.fingerprintScansSpec.vars false W args.toList ds gs before) (hk : Rows.uptoSmall H (ds ++ gs) = true) :
    Calls Try.prog 3 args W fun e W' => ∃ v, e = .returned v ∧ Rows.fingerprintScansSpec.post enc Try.prog Try.f3 false true false false W args v W' := by
  have hW' := hW
  obtain ⟨p, q, hA0, hV, rfl, hfz, hnd⟩ := hW
  have hA : DataW.TrodAll enc Try.prog W 0 (fun _ => true) true Try.f3.params.toList args.toList ds p := hA0
  obtain ⟨rfl, rfl⟩ := trodVars_none hV
  have hb := bulk_bound hk
  rw [List.append_nil] at hb
  rw [Try.params3] at hA hval
  obtain ⟨v0, vs0, d0, ds0, p0, q0, hargs, rfl, rfl, h0, r0⟩ := trodAll_cons hA
  obtain ⟨v1, vs1, d1, ds1, p1, q1, rfl, rfl, rfl, h1, r1⟩ := trodAll_cons r0
  obtain ⟨v2, vs2, d2, ds2, p2, q2, rfl, rfl, rfl, h2, r2⟩ := trodAll_cons r1
  obtain ⟨v3, vs3, d3, ds3, p3, q3, rfl, rfl, rfl, h3, r3⟩ := trodAll_cons r2
  obtain ⟨rfl, rfl, rfl⟩ := trodAll_nil r3
  obtain rfl : args = #[v0, v1, v2, v3] := by cases args; simp_all
  obtain ⟨A0, c0, l0, rfl, hr0, hc0, hl0⟩ := open_bytes (hval 0 22 v0 rfl rfl) h0 (Nat.le_trans (bulk_mem (List.mem_cons_self ..)) hb)
  obtain ⟨s1, rfl, hs1⟩ := open_str (hval 1 9 v1 rfl rfl) h1 (Nat.le_trans (bulk_mem (List.mem_cons_of_mem _ (List.mem_cons_self ..))) hb)
  obtain ⟨n2, rfl⟩ := okWide_int Try.underlying3 (hval 2 3 v2 rfl rfl)
  obtain ⟨n3, rfl⟩ := okWide_int Try.underlying3 (hval 3 3 v3 rfl rfl)
  refine (F3r (Go.Aw.all W) A0 c0 l0 s1 n2 n3 hr0 hc0 (by omega) W W (Go.Aw.sat_all W)).mono fun e W' ⟨he, hbel⟩ => ⟨_, he, law_post rfl (by kernel_rfl) rfl ?_ hW' hbel.toBelow⟩
  rw [Try.params3]
  intro t ht
  simp at ht
  rcases ht with rfl | rfl | rfl | rfl <;> exact ⟨by kernel_rfl, of_decide_eq_true (by kernel_rfl)⟩
set_option maxRecDepth 100000 in
theorem lifted (os : Os) (started : os.Started) (H : Type) (enc : TypeId × Value → H) (F : Stop.Interp) :
    ReturnsInHanded {} Try.checked os 3 .any ((Rows.OpenSpec.upto Rows.fingerprintScansSpec).pre6 enc Try.prog Try.f3 Rows.fingerprintScansUptoRow.domain false) (((Rows.OpenSpec.upto Rows.fingerprintScansSpec).at F).post enc Try.prog Try.f3 false true false false) := by
  refine returnsInHanded_of_cond (C := Try.checked) (s := Rows.OpenSpec.upto Rows.fingerprintScansSpec) (k := Rows.uptoSmall) rfl ownK started (by kernel_rfl) Try.func3
    (OpenSpec.witness (enc := enc) (C := Try.checked) (s := Rows.OpenSpec.upto Rows.fingerprintScansSpec) (k := Rows.uptoSmall) rfl false ⟨#[], #[.slice none 0 0, .string ⟨#[]⟩, .int .i64 0, .int .i64 0], []⟩ 8 (by kernel_rfl) (by kernel_rfl) (by kernel_rfl)
      (x := ([.nil, .lit (.string []), .lit (.int .i64 0), .lit (.int .i64 0)], [], [])) (by kernel_rfl) rfl (by kernel_rfl)) ?_
  intro W base args ds gs before hval hW _ hk _
  exact contract H enc W base args ds gs before hval hW hk
theorem over : Rows.fingerprintScansUptoRow.holds Try.pinned (Rows.OpenSpec.upto Rows.fingerprintScansSpec) :=
  OpenClaim.holds_of_cond 3 Try.f3 rfl rfl rfl rfl rfl rfl rfl ⟨rfl, rfl, rfl, rfl, rfl⟩ rfl rfl rfl rfl rfl (by kernel_rfl) Try.func3 (by kernel_rfl)
    (of_decide_eq_true (by kernel_rfl)) (by unfold Func.isWrapper; first | (rw [if_pos (by decide +kernel)]; kernel_rfl) | (rw [if_neg (by decide +kernel)]; exact ⟨rfl, rfl⟩))
    (fun os started H enc _ F => lifted os started H enc F)
theorem proved : Rows.FingerprintScansUptoSaid :=
  over
end Go.Proofs.Ytbonkkbpjlikjaa.fingerprintScans
namespace Go.Proofs.Ytbonkkbpjlikjaa
theorem fingerprintScans_holds : Rows.FingerprintScansUptoSaid := fingerprintScans.proved
end Go.Proofs.Ytbonkkbpjlikjaa
