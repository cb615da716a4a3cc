/- Chapter 7, the reference: refuse. -/
import Derived.Test.YtbonkkbpjlikjaaDirectory
set_option linter.unusedVariables false
set_option linter.unusedSimpArgs false
namespace Go.Aw
open Go Go.RowKit
structure Chg where
  kind : Int
  name : ByteArray
  to : ByteArray
  A : Option Addr
  n : Nat
  cap : Nat
  data : List UInt8
  N : Int
def encC (c : Chg) : List Value := [.int .i64 c.kind, .string c.name, .string c.to, .slice c.A c.n c.cap, .int .i64 c.N]
def Chg.val (c : Chg) : Value := .agg #[.int .i64 c.kind, .string c.name, .string c.to, .slice c.A c.n c.cap, .int .i64 c.N]
/-- What its parts keep. -/
structure Chg.Ok (m : Hp) (c : Chg) : Prop where
  d : RdSl m encB 1 (.slice c.A c.n c.cap) c.data
  dl : c.data.length ≤ 1048576
  nl : c.name.size ≤ 1048576
  tl : c.to.size ≤ 1048576
theorem Chg.Ok.le {m m' : Hp} {c : Chg} (h : c.Ok m) (hl : HpLe m m') : c.Ok m' := ⟨RdSl.le h.d hl, h.dl, h.nl, h.tl⟩
theorem Chg.Ok.len {m : Hp} {c : Chg} (h : c.Ok m) : c.n = c.data.length := by
  obtain ⟨A, cap, e, _⟩ := RdSl.form encB_len (by decide) h.d
  simp at e
  exact e.2.1
end Go.Aw
namespace Go.Proofs.Ytbonkkbpjlikjaa
open Go Go.Aw Go.RowKit
/-- What is known of a change that is not refused. -/
def Acc (c : Chg) (ns : List Nm) (fs : List Fl) : Prop := 1 ≤ c.kind ∧ c.kind ≤ 8 ∧ (c.kind ≠ 1 → ns.any (nameIs c.name) = true ∧ ∃ (i : Nat) (x : Fl), idxG (inoIs (lkI ns c.name)) fs = i ∧ fs[i]? = some x ∧ x.ino = lkI ns c.name ∧ (c.kind = 2 ∨ c.kind = 3 → x.copy = false) ∧ (c.kind = 6 → 1 ≤ c.N))
theorem lk_in {ns : List Nm} {fs : List Fl} {s : ByteArray} (h : ns.any (nameIs s) = true) (hn : ∀ n ∈ ns, ∃ f ∈ fs, f.ino = n.ino) : ∃ (i : Nat) (x : Fl), idxG (inoIs (lkI ns s)) fs = i ∧ fs[i]? = some x ∧ x.ino = lkI ns s := by
  obtain ⟨n, hnm, hp⟩ := List.any_eq_true.1 h
  have hf : ∃ y, ns.find? (nameIs s) = some y := by
    cases hq : ns.find? (nameIs s) with
    | none => rw [List.find?_eq_none] at hq; exact absurd hp (hq n hnm)
    | some y => exact ⟨y, rfl⟩
  obtain ⟨y, hy⟩ := hf
  have hyn := List.mem_of_find?_eq_some hy
  obtain ⟨f, hfm, hfi⟩ := hn y hyn
  have hl : lkI ns s = y.ino := by rw [lkI, hy]
  have hany : fs.any (inoIs (lkI ns s)) = true := List.any_eq_true.2 ⟨f, hfm, decide_eq_true (by rw [hl]; exact hfi)⟩
  obtain ⟨i, x, h1, h2, h3⟩ := idxG_some (idxG_any.2 hany)
  exact ⟨i, x, h1, h2, of_decide_eq_true h3⟩
theorem e18 : Enters Try.prog 18 := enters_of Try.func18 (by kernel_rfl) rfl
set_option maxHeartbeats 4000000 in
set_option maxRecDepth 100000 in
theorem F18 (m : Hp) (vn vf vo : Value) (ns : List Nm) (fs : List Fl) (oz : List Int) (c : Chg) (hd : Dir m vn vf vo ns fs oz) (hc : c.Ok m) (hnl : ns.length ≤ 1048576) (hfl : fs.length ≤ 1048576) (hnam : ∀ n ∈ ns, ∃ f ∈ fs, f.ino = n.ino) (hdl : ∀ f ∈ fs, f.data.length ≤ 1099511627776) :
    GC Try.prog 18 #[.agg #[vn, vf, vo], c.val] m (fun u m' => ∃ e : Int, u = .int .i64 e ∧ HpLe m m' ∧ (e = 0 → Acc c ns fs)) := by
  obtain ⟨An, cn, rfl, _⟩ := RdSl.form encN_len (by decide) hd.n
  obtain ⟨A, ca, rfl, _⟩ := RdSl.form encF_len (by decide) hd.f
  have hcn := hc.len
  refine gc_intro (vs := [_, _]) Try.func18 rfl Try.ntmps18 (by simp) ?_
  refine awp_rs ?_
  refine ao_x (ex_boxR rfl rfl) rfl fun v m2 ⟨p2, hv, hl2, hc2⟩ => ?_
  subst hv
  refine ao_x (ex_boxR rfl rfl) rfl fun v m3 ⟨p3, hv, hl3, hc3⟩ => ao_r (rig_assign rfl rfl) rfl (ao_nil ?_)
  subst hv
  replace hc2 := hc2.le hl3
  have hm3 := hl2.trans hl3
  have hd3 := hd.le hm3
  have hck := hc.le hm3
  obtain ⟨d0, d1, d2, _⟩ := id hc2
  obtain ⟨c0, c1, c2, c3, c4, _⟩ := id hc3
  -- every error
  have herr : ∀ (e : Int) (r : Env) (mm : Hp), e ≠ 0 → HpLe m3 mm → r.get 4 = some (.int .i64 e) → ∃ v, Res Try.prog Try.f18 r mm v ∧ ∃ e : Int, v = .int .i64 e ∧ HpLe m mm ∧ (e = 0 → Acc c ns fs) :=
    fun e r mm he hle hr => ⟨_, res1 Try.results18 hr, e, rfl, hm3.trans hle, fun h => absurd h he⟩
  refine awp_sk fun K1 hK1 => awp_rs ?_
  refine ao_r (rig_fieldAddr rfl rfl Try.underlying37 rfl Try.sizeOf3 rfl) rfl (ao_r (rig_load1 rfl rfl Try.isAgg3 c0) rfl (ao_r (rig_lss rfl rfl rfl) rfl (ao_r (rig_move rfl rfl) rfl ?_)))
  by_cases hk1 : c.kind < 1
  · rw [decide_eq_true hk1]
    refine ao_no rfl rfl rfl rfl (ao_no rfl rfl rfl rfl (ao_no rfl rfl rfl rfl (ao_r (rig_pickT rfl rfl rfl) rfl (ao_nil ?_))))
    exact awp_true rfl (awp_rs (ao_r (rig_assign rfl rfl) rfl (ao_nil (awp_ret (herr 2 _ _ (by decide) (HpLe.refl _) rfl)))))
  rw [decide_eq_false hk1]
  refine ao_on rfl rfl (ao_r (rig_fieldAddr rfl rfl Try.underlying37 rfl Try.sizeOf3 rfl) rfl (ao_on rfl rfl (ao_r (rig_load1 rfl rfl Try.isAgg3 c0) rfl (ao_on rfl rfl (ao_r (rig_gtr rfl rfl rfl) rfl (ao_r (rig_pickF rfl rfl rfl) rfl (ao_nil ?_)))))))
  refine awp_if rfl (fun h => ?_) (fun hk8 => ?_)
  · exact awp_rs (ao_r (rig_assign rfl rfl) rfl (ao_nil (awp_ret (herr 2 _ _ (by decide) (HpLe.refl _) rfl))))
  refine awp_skip (hK1 _ _ ?_)
  -- the names
  refine awp_sk fun K2 hK2 => ?_
  refine awp_mid (fun r mm => ∃ b : Bool, r = [(2, .pointer (some ⟨p2, 0, none⟩)), (3, .pointer (some ⟨p3, 0, none⟩)), (37, .bool b)] ∧ m3 = mm) (awp_region ?_) ?_
  · have hf1 := F42 m3 c.name (by have := hck.nl; omega)
    have hf2 := F42 m3 c.to (by have := hck.tl; omega)
    refine ao_r (rig_fieldAddr rfl rfl Try.underlying37 rfl Try.sizeOf9 rfl) rfl (ao_r (rig_load1 rfl rfl Try.isAgg9 c1) rfl (ao_r (rig_call rfl rfl e42 hf1) rfl (ao_r (rig_not rfl rfl) rfl (ao_r (rig_move rfl rfl) rfl ?_))))
    cases hb1 : fileB c.name with
    | false =>
      refine ao_no rfl rfl rfl rfl (ao_no rfl rfl rfl rfl (ao_no rfl rfl rfl rfl (ao_no rfl rfl rfl rfl (ao_nu rfl rfl rfl (ao_nu rfl rfl rfl (ao_nu rfl rfl rfl (ao_no rfl rfl rfl rfl (ao_no rfl rfl rfl rfl (ao_nu rfl rfl rfl (ao_nu rfl rfl rfl (ao_nu rfl rfl rfl (ao_nu rfl rfl rfl (ao_no rfl rfl rfl rfl (ao_r (rig_pickT rfl rfl rfl) rfl (ao_nil ?_)))))))))))))))
      exact ⟨[(2, .pointer (some ⟨p2, 0, none⟩)), (3, .pointer (some ⟨p3, 0, none⟩)), (37, .bool true)], ⟨rfl, rfl, rfl, trivial⟩, _, rfl, rfl⟩
    | true =>
      refine ao_on rfl rfl (ao_r (rig_fieldAddr rfl rfl Try.underlying37 rfl Try.sizeOf3 rfl) rfl (ao_on rfl rfl (ao_r (rig_load1 rfl rfl Try.isAgg3 c0) rfl (ao_on rfl rfl (ao_r (rig_eql rfl rfl rfl) rfl ?_)))))
      cases hb2 : decide (c.kind = 4) with
      | true =>
        refine ao_on rfl rfl (ao_r (rig_move rfl rfl) rfl (ao_no rfl rfl rfl rfl (ao_no rfl rfl rfl rfl (ao_no rfl rfl rfl rfl (ao_on rfl rfl (ao_r (rig_pickT rfl rfl rfl) rfl (ao_on rfl rfl (ao_r (rig_move rfl rfl) rfl ?_))))))))
        refine ao_on rfl rfl (ao_r (rig_fieldAddr rfl rfl Try.underlying37 rfl Try.sizeOf9 rfl) rfl (ao_on rfl rfl (ao_r (rig_load1 rfl rfl Try.isAgg9 c2) rfl (ao_on rfl rfl (ao_r (rig_call rfl rfl e42 hf2) rfl (ao_on rfl rfl (ao_r (rig_not rfl rfl) rfl (ao_on rfl rfl (ao_r (rig_pickT rfl rfl rfl) rfl (ao_r (rig_pickF rfl rfl rfl) rfl (ao_nil ?_)))))))))))
        exact ⟨[(2, .pointer (some ⟨p2, 0, none⟩)), (3, .pointer (some ⟨p3, 0, none⟩)), (37, .bool _)], ⟨rfl, rfl, rfl, trivial⟩, _, rfl, rfl⟩
      | false =>
        refine ao_on rfl rfl (ao_r (rig_move rfl rfl) rfl (ao_on rfl rfl (ao_r (rig_fieldAddr rfl rfl Try.underlying37 rfl Try.sizeOf3 rfl) rfl (ao_on rfl rfl (ao_r (rig_load1 rfl rfl Try.isAgg3 c0) rfl (ao_on rfl rfl (ao_r (rig_eql rfl rfl rfl) rfl (ao_on rfl rfl (ao_r (rig_pickF rfl rfl rfl) rfl (ao_on rfl rfl (ao_r (rig_move rfl rfl) rfl ?_)))))))))))
        cases hb3 : decide (c.kind = 5) with
        | true =>
          refine ao_on rfl rfl (ao_r (rig_fieldAddr rfl rfl Try.underlying37 rfl Try.sizeOf9 rfl) rfl (ao_on rfl rfl (ao_r (rig_load1 rfl rfl Try.isAgg9 c2) rfl (ao_on rfl rfl (ao_r (rig_call rfl rfl e42 hf2) rfl (ao_on rfl rfl (ao_r (rig_not rfl rfl) rfl (ao_on rfl rfl (ao_r (rig_pickT rfl rfl rfl) rfl (ao_r (rig_pickF rfl rfl rfl) rfl (ao_nil ?_)))))))))))
          exact ⟨[(2, .pointer (some ⟨p2, 0, none⟩)), (3, .pointer (some ⟨p3, 0, none⟩)), (37, .bool _)], ⟨rfl, rfl, rfl, trivial⟩, _, rfl, rfl⟩
        | false =>
          refine ao_no rfl rfl rfl rfl (ao_no rfl rfl rfl rfl (ao_no rfl rfl rfl rfl (ao_no rfl rfl rfl rfl (ao_on rfl rfl (ao_r (rig_pickF rfl rfl rfl) rfl (ao_r (rig_pickF rfl rfl rfl) rfl (ao_nil ?_)))))))
          exact ⟨[(2, .pointer (some ⟨p2, 0, none⟩)), (3, .pointer (some ⟨p3, 0, none⟩)), (37, .bool _)], ⟨rfl, rfl, rfl, trivial⟩, _, rfl, rfl⟩
  rintro r mm ⟨b, rfl, rfl⟩
  refine awp_cond rfl (fun _ => ?_) (fun _ => ?_)
  · exact awp_rs (ao_r (rig_assign rfl rfl) rfl (ao_nil (awp_ret (herr 6 _ _ (by decide) (HpLe.refl _) rfl))))
  refine awp_skip (hK2 _ _ (awp_rs ?_))
  refine ao_r (rig_loadN (vs := [_, _, _]) rfl rfl Try.isAgg30 Try.sizeOf30 hc2) rfl (ao_r (rig_fieldAddr rfl rfl Try.underlying37 rfl Try.sizeOf9 rfl) rfl (ao_r (rig_load1 rfl rfl Try.isAgg9 c1) rfl (ao_r (rig_call rfl rfl e20 (F20 m3 _ _ _ ns c.name hd3.n hnl)) rfl (ao_r (rig_move rfl rfl) rfl (ao_r (rig_extract rfl rfl rfl) rfl (ao_r (rig_extract rfl rfl rfl) rfl (ao_r (rig_assign rfl rfl) rfl (ao_r (rig_assign rfl rfl) rfl (ao_nil ?_)))))))))
  refine awp_rs ?_
  refine ao_r (rig_loadN (vs := [_, _, _]) rfl rfl Try.isAgg30 Try.sizeOf30 hc2) rfl (ao_r (rig_fieldAddr rfl rfl Try.underlying37 rfl Try.sizeOf9 rfl) rfl (ao_r (rig_load1 rfl rfl Try.isAgg9 c2) rfl (ao_r (rig_call rfl rfl e20 (F20 m3 _ _ _ ns c.to hd3.n hnl)) rfl (ao_r (rig_move rfl rfl) rfl (ao_r (rig_extract rfl rfl rfl) rfl (ao_r (rig_extract rfl rfl rfl) rfl (ao_r (rig_assign rfl rfl) rfl (ao_r (rig_assign rfl rfl) rfl (ao_nil ?_)))))))))
  -- Create
  refine awp_sk fun K3 hK3 => awp_rs ?_
  refine ao_r (rig_fieldAddr rfl rfl Try.underlying37 rfl Try.sizeOf3 rfl) rfl (ao_r (rig_load1 rfl rfl Try.isAgg3 c0) rfl (ao_r (rig_eql rfl rfl rfl) rfl (ao_nil ?_)))
  refine awp_if rfl (fun hcr => ?_) (fun hcr => ?_)
  · have hfin : ∀ (r : Env) (mm : Hp), HpLe m3 mm → r.get 4 = some (.int .i64 0) → ∃ v, Res Try.prog Try.f18 r mm v ∧ ∃ e : Int, v = .int .i64 e ∧ HpLe m mm ∧ (e = 0 → Acc c ns fs) :=
      fun r mm hle hr => ⟨_, res1 Try.results18 hr, 0, rfl, hm3.trans hle, fun _ => ⟨by omega, by omega, fun h => absurd hcr h⟩⟩
    refine awp_sk fun K4 hK4 => awp_block (awp_rs (ao_r (rig_move rfl rfl) rfl (ao_r (rig_assign rfl rfl) rfl (ao_nil ?_))))
    refine awp_cond rfl (fun _ => ?_) (fun _ => ?_)
    · exact awp_rs (ao_r (rig_assign rfl rfl) rfl (ao_nil (awp_ret (herr 11 _ _ (by decide) (HpLe.refl _) rfl))))
    refine awp_rs (ao_r (rig_fieldAddr rfl rfl Try.underlying30 rfl Try.sizeOf26 rfl) rfl (ao_r (rig_load1 rfl rfl Try.isAgg26 d0) rfl (ao_r (rig_lenSl rfl rfl Try.underlying26) rfl (ao_r (rig_geq rfl rfl rfl) rfl (ao_r (rig_assign rfl rfl) rfl (ao_nil ?_))))))
    refine awp_cond rfl (fun _ => ?_) (fun _ => ?_)
    · exact awp_rs (ao_r (rig_assign rfl rfl) rfl (ao_nil (awp_ret (herr 4 _ _ (by decide) (HpLe.refl _) rfl))))
    refine awp_rs (ao_r (rig_fieldAddr rfl rfl Try.underlying37 rfl Try.sizeOf22 rfl) rfl (ao_r (rig_load1 rfl rfl Try.isAgg22 c3) rfl (ao_r (rig_lenSl rfl rfl Try.underlying22) rfl (ao_r (rig_gtr rfl rfl rfl) rfl (ao_r (rig_assign rfl rfl) rfl (ao_nil ?_))))))
    refine awp_cond rfl (fun _ => ?_) (fun _ => ?_)
    · exact awp_rs (ao_r (rig_assign rfl rfl) rfl (ao_nil (awp_ret (herr 3 _ _ (by decide) (HpLe.refl _) rfl))))
    refine awp_skip (hK4 _ _ (awp_rs (ao_r (rig_assign rfl rfl) rfl (ao_nil ?_))))
    exact awp_ret (hfin _ _ (HpLe.refl _) rfl)
  refine awp_skip (hK3 _ _ ?_)
  -- a file that is there
  refine awp_sk fun K5 hK5 => awp_rs (ao_r (rig_move rfl rfl) rfl (ao_r (rig_not rfl rfl) rfl (ao_nil ?_)))
  refine awp_cond rfl (fun _ => ?_) (fun hok => ?_)
  · exact awp_rs (ao_r (rig_assign rfl rfl) rfl (ao_nil (awp_ret (herr 12 _ _ (by decide) (HpLe.refl _) rfl))))
  have hany : ns.any (nameIs c.name) = true := by rw [Bool.not_eq_false'] at hok; exact hok
  obtain ⟨i, x, hi, hx, hxi⟩ := lk_in hany hnam
  have hil := (List.getElem?_eq_some_iff.1 hx).1
  obtain ⟨b5, off, cap', e, hxc⟩ := RdSl.get_ encF_len (by decide) hd3.f hx
  simp only [Value.slice.injEq] at e
  obtain ⟨rfl, _, rfl⟩ := e
  have hat := F21 m3 (.slice An ns.length cn) (.slice (some ⟨b5, off, none⟩) fs.length ca) vo fs (lkI ns c.name) hd3.f hfl
  rw [hi] at hat
  refine awp_skip (hK5 _ _ (awp_u ?_))
  have hw1 : HpLe m3 (U [m3]) := by rw [U_single]; exact HpLe.refl _
  have hck2 := hc3.le hw1
  refine awp_ds (.q 0 (.q 1 (.q 2 (.q 3 (.q 4 (.q 5 (.q 6 (.s 7 (.s 8 .fin))))))))) [8] (by kernel_rfl) (by kernel_rfl) ?_
  refine oq rfl (rig_fieldAddr rfl rfl Try.underlying30 rfl Try.sizeOf27 rfl) rfl (oq rfl (rig_load1 rfl rfl Try.isAgg27 (cell_le hw1 d1)) rfl (oq rfl (rig_loadN (vs := [_, _, _]) rfl rfl Try.isAgg30 Try.sizeOf30 (hc2.le hw1)) rfl (oq rfl (rig_move rfl rfl) rfl (oq rfl (rig_call rfl rfl e21 (hat.le hw1)) rfl ?_))))
  refine oq rfl (rig_ix i rfl rfl rfl Try.underlying27 Try.sizeOf61 rfl rfl hil) rfl (oq rfl (rig_loadN (vs := encF x) rfl rfl Try.isAgg61 Try.sizeOf61 (hxc.le hw1)) rfl ?_)
  refine os rfl (ex_alloc rfl (Dj_single m3) Try.zeroValue61) rfl fun u m7 ⟨b9, hu, hm7, hD7⟩ => ⟨fun _ => by subst hm7; exact U_le_tail hD7, ?_⟩
  subst hu hm7
  refine os0 rfl (ex_store (i := 0) rfl hD7 rfl rfl Try.sizeOf61 (encF_one x) rfl (by simp [Value.cells, encF])) fun u m8 ⟨_, hm8, hD8⟩ => ⟨fun h => by simp at h, od_fin ?_⟩
  subst hm8
  rw [List.set_cons_zero, putR_all _ _ (by rfl)] at hD8 ⊢
  replace hD8 : Dj [filB b9 x, m3] := hD8
  have hxb := filB_at 0 hD8 rfl
  have hm8 : HpLe m3 (U [filB b9 x, m3]) := le_at 1 hD8 rfl
  show AWp _ _ _ _ _ (U [filB b9 x, m3])
  generalize U [filB b9 x, m3] = M at hxb hm8
  obtain ⟨x0, x1, x2, x3, x4, _⟩ := id hxb
  have hxn : x.n = x.data.length := (hd.d x (List.mem_of_getElem? hx)).len
  have hxdl := hdl x (List.mem_of_getElem? hx)
  replace d0 := cell_le hm8 d0
  replace c0 := cell_le hm8 c0
  replace c1 := cell_le hm8 c1
  replace c2 := cell_le hm8 c2
  replace c3 := cell_le hm8 c3
  replace c4 := cell_le hm8 c4
  have hcdl := hc.dl
  refine awp_sk fun K6 hK6 => awp_rs ?_
  refine ao_r (rig_fieldAddr rfl rfl Try.underlying37 rfl Try.sizeOf3 rfl) rfl (ao_r (rig_load1 rfl rfl Try.isAgg3 c0) rfl (ao_nil ?_))
  have hfin : ∀ (r : Env), (c.kind = 2 ∨ c.kind = 3 → x.copy = false) → (c.kind = 6 → 1 ≤ c.N) → K6 r M := by
    intro r h1 h2
    refine hK6 _ _ (awp_rs (ao_r (rig_assign rfl rfl) rfl (ao_nil ?_)))
    exact awp_ret ⟨_, res1 Try.results18 rfl, 0, rfl, hm3.trans hm8, fun _ => ⟨by omega, by omega, fun _ => ⟨hany, i, x, hi, hx, hxi, h1, h2⟩⟩⟩
  have herr2 : ∀ (e : Int) (r : Env), e ≠ 0 → r.get 4 = some (.int .i64 e) → ∃ v, Res Try.prog Try.f18 r M v ∧ ∃ e : Int, v = .int .i64 e ∧ HpLe m M ∧ (e = 0 → Acc c ns fs) :=
    fun e r he hr => herr e r M he hm8 hr
  refine awp_block ?_
  refine awp_mid (fun r mm => ∃ b : Bool, r = [(2, .pointer (some ⟨p2, 0, none⟩)), (3, .pointer (some ⟨p3, 0, none⟩)), (8, .bool (ns.any (nameIs c.to))), (9, .pointer (some ⟨b9, 0, none⟩)), (77, .int .i64 c.kind), (78, .bool b)] ∧ (b = false → c.kind ≠ 2 ∧ c.kind ≠ 3) ∧ (b = true → c.kind ≠ 6) ∧ M = mm) ?_ ?_
  · refine awp_rs (ao_r (rig_eql rfl rfl rfl) rfl (ao_r (rig_assign rfl rfl) rfl (ao_nil ?_)))
    refine awp_cond rfl (fun h => ?_) (fun h => ?_)
    · exact awp_skip ⟨[(2, .pointer (some ⟨p2, 0, none⟩)), (3, .pointer (some ⟨p3, 0, none⟩)), (8, .bool (ns.any (nameIs c.to))), (9, .pointer (some ⟨b9, 0, none⟩)), (77, .int .i64 c.kind), (78, .bool (decide (c.kind = 2)))], ⟨rfl, rfl, rfl, rfl, rfl, rfl, trivial⟩, _, rfl, fun h2 => by rw [h] at h2; simp at h2, fun h2 => by have := of_decide_eq_true h2; omega, rfl⟩
    · refine awp_region (ao_r (rig_eql rfl rfl rfl) rfl (ao_r (rig_assign rfl rfl) rfl (ao_nil ?_)))
      exact ⟨[(2, .pointer (some ⟨p2, 0, none⟩)), (3, .pointer (some ⟨p3, 0, none⟩)), (8, .bool (ns.any (nameIs c.to))), (9, .pointer (some ⟨b9, 0, none⟩)), (77, .int .i64 c.kind), (78, .bool (decide (c.kind = 3)))], ⟨rfl, rfl, rfl, rfl, rfl, rfl, trivial⟩, _, rfl, fun h3 => ⟨of_decide_eq_false h, of_decide_eq_false h3⟩, fun h3 => by have := of_decide_eq_true h3; omega, rfl⟩
  rintro r mm ⟨b, rfl, hb, hb6, rfl⟩
  refine awp_cond rfl (fun h => ?_) (fun h => ?_)
  · refine awp_sk fun K8 hK8 => awp_rs ?_
    refine ao_r (rig_fieldAddr rfl rfl Try.underlying61 rfl Try.sizeOf4 rfl) rfl (ao_r (rig_load1 rfl rfl Try.isAgg4 x2) rfl (ao_nil ?_))
    refine awp_cond rfl (fun _ => ?_) (fun hcp => ?_)
    · exact awp_rs (ao_r (rig_assign rfl rfl) rfl (ao_nil (awp_ret (herr2 13 _ (by decide) rfl))))
    refine awp_skip (hK8 _ _ (awp_rs ?_))
    refine ao_r (rig_fieldAddr rfl rfl Try.underlying37 rfl Try.sizeOf3 rfl) rfl (ao_r (rig_load1 rfl rfl Try.isAgg3 c0) rfl (ao_r (rig_eql rfl rfl rfl) rfl (ao_r (rig_move rfl rfl) rfl ?_)))
    cases hk : decide (c.kind = 2) with
    | true =>
      refine ao_on rfl rfl (ao_r (rig_fieldAddr rfl rfl Try.underlying37 rfl Try.sizeOf22 rfl) rfl (ao_on rfl rfl (ao_r (rig_load1 rfl rfl Try.isAgg22 c3) rfl (ao_on rfl rfl (ao_r (rig_lenSl rfl rfl Try.underlying22) rfl ?_)))))
      refine ao_on rfl rfl (ao_r (rig_fieldAddr rfl rfl Try.underlying61 rfl Try.sizeOf22 rfl) rfl (ao_on rfl rfl (ao_r (rig_load1 rfl rfl Try.isAgg22 x1) rfl (ao_on rfl rfl (ao_r (rig_lenSl rfl rfl Try.underlying22) rfl (ao_on rfl rfl (ao_r (rig_sub rfl rfl rfl rfl) rfl (ao_on rfl rfl (ao_r (rig_gtr rfl rfl rfl) rfl (ao_r (rig_pickT rfl rfl rfl) rfl (ao_nil ?_)))))))))))
      refine awp_cond rfl (fun _ => ?_) (fun _ => ?_)
      · exact awp_rs (ao_r (rig_assign rfl rfl) rfl (ao_nil (awp_ret (herr2 3 _ (by decide) rfl))))
      exact awp_skip (hfin _ (fun _ => hcp) (fun h6 => by have := of_decide_eq_true hk; omega))
    | false =>
      refine ao_no rfl rfl rfl rfl (ao_no rfl rfl rfl rfl (ao_no rfl rfl rfl rfl (ao_no rfl rfl rfl rfl (ao_no rfl rfl rfl rfl (ao_no rfl rfl rfl rfl (ao_no rfl rfl rfl rfl (ao_no rfl rfl rfl rfl (ao_r (rig_pickF rfl rfl rfl) rfl (ao_nil ?_)))))))))
      refine awp_false rfl (awp_skip (hfin _ (fun _ => hcp) (fun h6 => absurd h6 (hb6 h))))
  obtain ⟨n2, n3⟩ := hb h
  have hn : ∀ r : Env, c.kind ≠ 6 → K6 r M := fun r h6 => hfin r (fun h => by omega) (fun h => absurd h h6)
  refine awp_rs (ao_r (rig_eql rfl rfl rfl) rfl (ao_r (rig_assign rfl rfl) rfl (ao_nil ?_)))
  refine awp_if rfl (fun h4 => ?_) (fun h4 => ?_)
  · refine awp_rs ?_
    refine ao_r (rig_fieldAddr rfl rfl Try.underlying37 rfl Try.sizeOf9 rfl) rfl (ao_r (rig_load1 rfl rfl Try.isAgg9 c2) rfl (ao_r (rig_fieldAddr rfl rfl Try.underlying37 rfl Try.sizeOf9 rfl) rfl (ao_r (rig_load1 rfl rfl Try.isAgg9 c1) rfl (ao_r (rig_seql rfl rfl rfl) rfl (ao_nil ?_)))))
    refine awp_cond rfl (fun _ => ?_) (fun _ => ?_)
    · exact awp_rs (ao_r (rig_assign rfl rfl) rfl (ao_nil (awp_ret (herr2 17 _ (by decide) rfl))))
    exact awp_skip (hn _ (by omega))
  refine awp_rs (ao_r (rig_eql rfl rfl rfl) rfl (ao_r (rig_assign rfl rfl) rfl (ao_nil ?_)))
  refine awp_if rfl (fun h5 => ?_) (fun h5 => ?_)
  · have hq : ∀ r : Env, K6 r M := fun r => hn r (by omega)
    refine awp_block (awp_mid (fun r mm => ∃ b : Bool, r = [(2, .pointer (some ⟨p2, 0, none⟩)), (3, .pointer (some ⟨p3, 0, none⟩)), (8, .bool (ns.any (nameIs c.to))), (105, .bool b)] ∧ M = mm) (awp_region ?_) ?_)
    · refine ao_r (rig_fieldAddr rfl rfl Try.underlying61 rfl Try.sizeOf4 rfl) rfl (ao_r (rig_load1 rfl rfl Try.isAgg4 x2) rfl (ao_r (rig_move rfl rfl) rfl ?_))
      cases hcp : x.copy with
      | true =>
        refine ao_on rfl rfl (ao_r (rig_fieldAddr rfl rfl Try.underlying61 rfl Try.sizeOf4 rfl) rfl (ao_on rfl rfl (ao_r (rig_load1 rfl rfl Try.isAgg4 x3) rfl (ao_on rfl rfl (ao_r (rig_not rfl rfl) rfl (ao_r (rig_pickT rfl rfl rfl) rfl (ao_r (rig_assign rfl rfl) rfl (ao_nil ?_))))))))
        exact ⟨[(2, .pointer (some ⟨p2, 0, none⟩)), (3, .pointer (some ⟨p3, 0, none⟩)), (8, .bool (ns.any (nameIs c.to))), (105, .bool (!x.whole))], ⟨rfl, rfl, rfl, rfl, trivial⟩, _, rfl, rfl⟩
      | false =>
        refine ao_no rfl rfl rfl rfl (ao_no rfl rfl rfl rfl (ao_no rfl rfl rfl rfl (ao_r (rig_pickF rfl rfl rfl) rfl (ao_r (rig_assign rfl rfl) rfl (ao_nil ?_)))))
        exact ⟨[(2, .pointer (some ⟨p2, 0, none⟩)), (3, .pointer (some ⟨p3, 0, none⟩)), (8, .bool (ns.any (nameIs c.to))), (105, .bool false)], ⟨rfl, rfl, rfl, rfl, trivial⟩, _, rfl, rfl⟩
    rintro r mm ⟨b, rfl, rfl⟩
    refine awp_cond rfl (fun _ => ?_) (fun _ => ?_)
    · exact awp_rs (ao_r (rig_assign rfl rfl) rfl (ao_nil (awp_ret (herr2 13 _ (by decide) rfl))))
    refine awp_rs (ao_r (rig_move rfl rfl) rfl (ao_r (rig_assign rfl rfl) rfl (ao_nil ?_)))
    refine awp_cond rfl (fun _ => ?_) (fun _ => ?_)
    · exact awp_rs (ao_r (rig_assign rfl rfl) rfl (ao_nil (awp_ret (herr2 11 _ (by decide) rfl))))
    refine awp_rs (ao_r (rig_fieldAddr rfl rfl Try.underlying30 rfl Try.sizeOf26 rfl) rfl (ao_r (rig_load1 rfl rfl Try.isAgg26 d0) rfl (ao_r (rig_lenSl rfl rfl Try.underlying26) rfl (ao_r (rig_geq rfl rfl rfl) rfl (ao_r (rig_assign rfl rfl) rfl (ao_nil ?_))))))
    refine awp_cond rfl (fun _ => ?_) (fun _ => ?_)
    · exact awp_rs (ao_r (rig_assign rfl rfl) rfl (ao_nil (awp_ret (herr2 4 _ (by decide) rfl))))
    exact awp_skip (hq _)
  refine awp_rs (ao_r (rig_eql rfl rfl rfl) rfl (ao_r (rig_assign rfl rfl) rfl (ao_nil ?_)))
  refine awp_if rfl (fun h6 => ?_) (fun h6 => ?_)
  · refine awp_sk fun K8 hK8 => awp_rs ?_
    have hrest : ∀ r : Env, r.get 3 = some (.pointer (some ⟨p3, 0, none⟩)) → K8 r M := by
      intro r hr
      refine hK8 _ _ (awp_rs ?_)
      refine ao_r (rig_fieldAddr rfl hr Try.underlying37 rfl Try.sizeOf3 rfl) rfl (ao_r (rig_load1 rfl rfl Try.isAgg3 c4) rfl (ao_r (rig_lss rfl rfl rfl) rfl (ao_nil ?_)))
      refine awp_if rfl (fun _ => ?_) (fun h1 => ?_)
      · exact awp_rs (ao_r (rig_assign rfl rfl) rfl (ao_nil (awp_ret (herr2 2 _ (by decide) rfl))))
      exact awp_skip (hfin _ (fun h => by omega) (fun _ => by omega))
    refine ao_r (rig_fieldAddr rfl rfl Try.underlying61 rfl Try.sizeOf4 rfl) rfl (ao_r (rig_load1 rfl rfl Try.isAgg4 x2) rfl (ao_r (rig_not rfl rfl) rfl (ao_r (rig_move rfl rfl) rfl ?_)))
    cases hcp : x.copy with
    | true =>
      refine ao_on rfl rfl (ao_r (rig_fieldAddr rfl rfl Try.underlying61 rfl Try.sizeOf4 rfl) rfl (ao_on rfl rfl (ao_r (rig_load1 rfl rfl Try.isAgg4 x3) rfl (ao_r (rig_pickF rfl rfl rfl) rfl (ao_nil ?_)))))
      refine awp_cond rfl (fun _ => ?_) (fun _ => ?_)
      · exact awp_rs (ao_r (rig_assign rfl rfl) rfl (ao_nil (awp_ret (herr2 17 _ (by decide) rfl))))
      exact awp_skip (hrest _ rfl)
    | false =>
      refine ao_no rfl rfl rfl rfl (ao_no rfl rfl rfl rfl (ao_r (rig_pickT rfl rfl rfl) rfl (ao_nil ?_)))
      exact awp_true rfl (awp_rs (ao_r (rig_assign rfl rfl) rfl (ao_nil (awp_ret (herr2 17 _ (by decide) rfl)))))
  refine awp_rs (ao_r (rig_eql rfl rfl rfl) rfl (ao_r (rig_assign rfl rfl) rfl (ao_nil ?_)))
  refine awp_if rfl (fun h8 => ?_) (fun h8 => ?_)
  · refine awp_rs (ao_r (rig_fieldAddr rfl rfl Try.underlying37 rfl Try.sizeOf22 rfl) rfl (ao_r (rig_load1 rfl rfl Try.isAgg22 c3) rfl (ao_r (rig_lenSl rfl rfl Try.underlying22) rfl (ao_r (rig_gtr rfl rfl rfl) rfl (ao_nil ?_)))))
    refine awp_cond rfl (fun _ => ?_) (fun _ => ?_)
    · exact awp_rs (ao_r (rig_assign rfl rfl) rfl (ao_nil (awp_ret (herr2 3 _ (by decide) rfl))))
    exact awp_skip (hn _ (by omega))
  exact awp_skip (hn _ h6)
end Go.Proofs.Ytbonkkbpjlikjaa
/- Chapter 7, the reference: what every change keeps (plain), and rows that change in one field. -/
set_option linter.unusedVariables false
set_option linter.unusedSimpArgs false
namespace Go.Aw
open Go Go.RowKit
/-- A field of one element of a row. -/
theorem putR_field {α : Type} {enc : α → List Value} {k : Nat} (hk : ∀ x, (enc x).length = k) (l : List α) (i j : Nat) (x y : α) (v : Value) (sp : List Value) (hi : l[i]? = some x) (hj : j < k) (hy : enc y = (enc x).set j v) : putR (rows enc l ++ sp).toArray (i * k + j) [v] = (rows enc (l.set i y) ++ sp).toArray := by
  have hlt := (List.getElem?_eq_some_iff.1 hi).1
  have hle : i * k + k ≤ l.length * k := by rw [← Nat.succ_mul]; exact Nat.mul_le_mul_right _ hlt
  apply Array.ext_getElem?
  intro q
  rw [putR_get [v] _ _ (by simp only [List.length_singleton, List.size_toArray, List.length_append, rows_length hk]; omega), List.getElem?_toArray, List.getElem?_toArray, rows_set hk l i y sp hlt q, hy]
  simp only [List.length_singleton]
  have hx : ∀ p, p < k → (rows enc l ++ sp)[i * k + p]? = (enc x)[p]? := by
    intro p hp
    have := rows_set hk l i x sp hlt (i * k + p)
    rw [if_pos ⟨by omega, by omega⟩, Nat.add_sub_cancel_left] at this
    rw [← this]
    have e : l.set i x = l := by
      have h2 := List.set_getElem_self hlt
      rwa [(List.getElem?_eq_some_iff.1 hi).2] at h2
    rw [e]
  by_cases h : i * k ≤ q ∧ q < i * k + k
  · rw [if_pos h]
    obtain ⟨p, rfl⟩ : ∃ p, q = i * k + p := ⟨q - i * k, by omega⟩
    rw [Nat.add_sub_cancel_left]
    by_cases hpj : p = j
    · subst hpj
      rw [if_pos ⟨by omega, by omega⟩, List.getElem?_set_self (by rw [hk]; exact hj)]
      simp
    · rw [if_neg (by omega), List.getElem?_set_ne (by omega), hx p (by omega)]
  · rw [if_neg (by omega), if_neg h]
/-- What every change keeps. -/
structure FOk (B : Nat) (f : Fl) : Prop where
  p : 1 ≤ f.ino
  b : f.ino ≤ B
  l0 : 0 ≤ f.left
  l1 : f.left ≤ f.data.length
  c : f.copy = false → f.left = 0
  w : f.whole = true → f.left = 0
  d : f.data.length ≤ B
theorem FOk.mono {B C : Nat} {f : Fl} (h : FOk B f) (hl : B ≤ C) : FOk C f := ⟨h.p, by have := h.b; omega, h.l0, h.l1, h.c, h.w, by have := h.d; omega⟩
structure DI (B : Nat) (ns : List Nm) (fs : List Fl) : Prop where
  asc : fs.Pairwise (fun a b => a.ino < b.ino)
  nam : ∀ n ∈ ns, ∃ f ∈ fs, f.ino = n.ino
  nl : ns.length ≤ B
  fl : fs.length ≤ B
  ok : ∀ f ∈ fs, FOk B f
theorem DI.mono {B C : Nat} {ns : List Nm} {fs : List Fl} (h : DI B ns fs) (hl : B ≤ C) : DI C ns fs :=
  ⟨h.asc, h.nam, by have := h.nl; omega, by have := h.fl; omega, fun f hf => (h.ok f hf).mono hl⟩
theorem DI.nil (B : Nat) : DI B [] [] := ⟨List.Pairwise.nil, by simp, by simp, by simp, by simp⟩
/-- Other names. -/
theorem DI.names {B C : Nat} {ns ns' : List Nm} {fs : List Fl} (h : DI B ns fs) (hn : ∀ n ∈ ns', ∃ f ∈ fs, f.ino = n.ino) (hl : ns'.length ≤ C) (hB : B ≤ C) : DI C ns' fs :=
  ⟨h.asc, hn, hl, by have := h.fl; omega, fun f hf => (h.ok f hf).mono hB⟩
/-- One file has changed. -/
theorem DI.put {B C : Nat} {ns : List Nm} {fs : List Fl} {i : Nat} {x y : Fl} (h : DI B ns fs) (hx : fs[i]? = some x) (hy : y.ino = x.ino) (ho : FOk C y) (hB : B ≤ C) : DI C ns (fs.set i y) := by
  have hlt := (List.getElem?_eq_some_iff.1 hx).1
  have hxe := (List.getElem?_eq_some_iff.1 hx).2
  have hino : (fs.set i y).map Fl.ino = fs.map Fl.ino := by
    apply List.ext_getElem?
    intro j
    rw [List.getElem?_map, List.getElem?_map, List.getElem?_set]
    by_cases e : i = j
    · subst e; rw [if_pos rfl, if_pos hlt, hx]; simp [hy]
    · rw [if_neg e]
  refine ⟨?_, fun n hn => ?_, by have := h.nl; omega, by rw [List.length_set]; have := h.fl; omega, fun f hf => ?_⟩
  · have := h.asc
    rw [← List.pairwise_map (f := Fl.ino) (R := fun a b => a < b)] at this ⊢
    rw [hino]; exact this
  · obtain ⟨f, hf, e⟩ := h.nam n hn
    have : f.ino ∈ fs.map Fl.ino := List.mem_map_of_mem hf
    rw [← hino] at this
    obtain ⟨g, hg, e2⟩ := List.mem_map.1 this
    exact ⟨g, hg, e2.trans e⟩
  · rcases List.mem_or_eq_of_mem_set hf with h1 | rfl
    · exact (h.ok f h1).mono hB
    · exact ho
end Go.Aw
namespace Go.Proofs.Ytbonkkbpjlikjaa
open Go Go.Aw Go.RowKit
theorem sweep_ok {B : Nat} {ns : List Nm} {fs : List Fl} (h : DI B ns fs) (oz : List Int) : DI B ns (fs.filter (keepF ns oz)) := by
  refine ⟨h.asc.filter _, fun n hn => ?_, h.nl, Nat.le_trans (List.length_filter_le _ _) h.fl, fun f hf => h.ok f (List.mem_filter.1 hf).1⟩
  obtain ⟨f, hf, e⟩ := h.nam n hn
  refine ⟨f, List.mem_filter.2 ⟨hf, ?_⟩, e⟩
  rw [keepF, Bool.or_eq_true]
  exact .inl (List.any_eq_true.2 ⟨n, hn, decide_eq_true e.symm⟩)
/-- A new file. -/
theorem add_ok {B C : Nat} {ns : List Nm} {fs out : List Fl} {x : Fl} (h : DI B ns fs) (hp : PutIn fs x out) (hx : FOk C x) (hn : fs.any (inoIs x.ino) = false) (hB : B + 1 ≤ C) : DI C ns out ∧ x ∈ out ∧ (∀ f ∈ fs, f ∈ out) ∧ (∀ f ∈ out, f ∈ fs ∨ f = x) := by
  obtain ⟨k, hk, rfl, h1, h2⟩ := hp
  have hne : ∀ f ∈ fs, f.ino ≠ x.ino := fun f hf e => by
    rw [List.any_eq_false] at hn
    exact hn f hf (decide_eq_true e)
  have hmem : ∀ f ∈ fs, f ∈ fs.take k ++ x :: fs.drop k := fun f hf => by
    rw [← List.take_append_drop k fs, List.mem_append] at hf
    rw [List.mem_append, List.mem_cons]
    exact hf.imp id .inr
  have hin : ∀ f ∈ fs.take k ++ x :: fs.drop k, f ∈ fs ∨ f = x := fun f hf => by
    rw [List.mem_append, List.mem_cons] at hf
    rcases hf with h | h | h
    · exact .inl (List.mem_of_mem_take h)
    · exact .inr h
    · exact .inl (List.mem_of_mem_drop h)
  have hlow : ∀ f ∈ fs.take k, f.ino < x.ino := by
    intro f hf
    have hk0 : 0 < k := by
      rcases Nat.eq_zero_or_pos k with h | h
      · subst h; simp at hf
      · exact h
    obtain ⟨y, hy, hle⟩ := h2 hk0
    have hym : y ∈ fs := List.mem_of_getElem? hy
    have hfy : f.ino ≤ y.ino := by
      obtain ⟨j, hj, e⟩ := List.mem_take_iff_getElem.1 hf
      obtain ⟨h3, h4⟩ := List.getElem?_eq_some_iff.1 hy
      rcases Nat.lt_or_ge j (k - 1) with h5 | h5
      · have := List.pairwise_iff_getElem.1 h.asc j (k - 1) (by omega) h3 h5
        rw [e, h4] at this; omega
      · have : j = k - 1 := by omega
        subst this
        rw [← e, ← h4]; exact Int.le_refl _
    have := hne y hym
    omega
  refine ⟨⟨?_, fun n hnm => ?_, by have := h.nl; omega, ?_, fun f hf => ?_⟩, by simp, hmem, hin⟩
  · have ht := h.asc.sublist (List.take_sublist k fs)
    have hd := h.asc.sublist (List.drop_sublist k fs)
    have htd := h.asc
    rw [← List.take_append_drop k fs, List.pairwise_append] at htd
    rw [List.pairwise_append, List.pairwise_cons]
    refine ⟨ht, ⟨h1, hd⟩, fun a ha b hb => ?_⟩
    rcases List.mem_cons.1 hb with rfl | hb
    · exact hlow a ha
    · exact htd.2.2 a ha b hb
  · obtain ⟨f, hf, e⟩ := h.nam n hnm
    exact ⟨f, hmem f hf, e⟩
  · have := h.fl
    simp only [List.length_append, List.length_cons, List.length_take, List.length_drop]
    omega
  · rcases hin f hf with h1 | rfl
    · exact (h.ok f h1).mono (by omega)
    · exact hx
end Go.Proofs.Ytbonkkbpjlikjaa
/- Chapter 7, the reference: Do. -/
set_option linter.unusedVariables false
set_option linter.unusedSimpArgs false
namespace Go.Aw
open Go Go.RowKit
theorem encC_one (c : Chg) : ∀ q ∈ encC c, q.oneCell' = true := by
  intro q hq; simp [encC] at hq; rcases hq with rfl | rfl | rfl | rfl | rfl <;> rfl
/-- The box of a change. -/
def chgB (p : Nat) (c : Chg) : Hp := one p (.cells (encC c).toArray 37 (0, 0))
theorem chgB_at {L : List Hp} (i : Nat) {p : Nat} {c : Chg} (hD : Dj L) (hi : L[i]? = some (chgB p c)) : CellsAt (U L) p 0 (encC c) :=
  (cellsAt_one p (encC c).toArray 37).le (le_at i hD hi)
theorem Own.le_cap {E : TypeId} {k : Nat} {c : Hp} {A : Option Addr} {n cap : Nat} {xs : List Value} (h : Own E k c (.slice A n cap) xs) : n ≤ cap := by
  rcases h with ⟨e, _, _⟩ | ⟨g, n2, cap2, sp, e, _, _, _, h4, _⟩
  · simp only [Value.slice.injEq] at e; omega
  · simp only [Value.slice.injEq] at e; omega
/-- The box of no directory. -/
def nilB (p : Nat) : Hp := dirB p (.slice none 0 0) (.slice none 0 0) (.slice none 0 0)
end Go.Aw
namespace Go.Proofs.Ytbonkkbpjlikjaa
open Go Go.Aw Go.RowKit
theorem encB_one (b : UInt8) : ∀ q ∈ encB b, q.oneCell' = true := by
  intro q hq; simp [encB] at hq; subst hq; rfl
theorem e8 : Enters Try.prog 8 := enters_of Try.func8 (by kernel_rfl) rfl
set_option maxHeartbeats 4000000 in
set_option maxRecDepth 100000 in
theorem F8 (m : Hp) (vn vf vo : Value) (ns : List Nm) (fs : List Fl) (oz : List Int) (c : Chg) (B : Nat) (hd : Dir m vn vf vo ns fs oz) (hi : DI B ns fs) (hc : c.Ok m) (hol : oz.length ≤ 1048576) (hB : B + c.data.length + 1 ≤ 1048576) :
    GC Try.prog 8 #[.agg #[vn, vf, vo], c.val] m (fun u m' => ∃ vn' vf' vo' ns' fs' e, u = .tuple #[.agg #[vn', vf', vo'], .int .i64 e] ∧ HpLe m m' ∧ Dir m' vn' vf' vo' ns' fs' oz ∧ DI (B + c.data.length + 1) ns' fs' ∧ (vo' = vo ∨ ∃ N, (∀ k, N k ≠ none → m k = none) ∧ HpLe N m' ∧ RdSl N encZ 1 vo' oz)) := by
  have h1 := hd.n.one_
  have h2 := hd.f.one_
  have h3 := hd.o.one_
  refine gc_intro (vs := [_, _]) Try.func8 rfl Try.ntmps8 (by simp) ?_
  refine awp_u (awp_rs ?_)
  refine ao_x (ex_box rfl (Dj_single m) rfl) rfl fun u m1 ⟨p2, hu, hm1, hD1⟩ => ?_
  subst hu hm1
  refine ao_x (ex_box rfl hD1 rfl) rfl fun u m1 ⟨p3, hu, hm1, hD2⟩ => ?_
  subst hu hm1
  refine ao_x (ex_alloc rfl hD2 zero30) rfl fun u m2 ⟨p4, hu, hm2, hD3⟩ => ao_r (rig_assign rfl rfl) rfl (ao_nil ?_)
  subst hu hm2
  replace hD3 : Dj [nilB p4, chgB p3 c, dirB p2 vn vf vo, m] := hD3
  show AWp _ _ _ _ _ (U [nilB p4, chgB p3 c, dirB p2 vn vf vo, m])
  have hm0 : HpLe m (U [nilB p4, chgB p3 c, dirB p2 vn vf vo, m]) := le_at 3 hD3 rfl
  clear hD2 hD1
  refine awp_sk fun K1 hK1 => awp_rs ?_
  refine ao_r (rig_loadN (vs := [_, _, _]) rfl rfl Try.isAgg30 Try.sizeOf30 (dirB_at 2 hD3 rfl)) rfl (ao_r (rig_loadN (vs := encC c) rfl rfl Try.isAgg37 Try.sizeOf37 (chgB_at 1 hD3 rfl)) rfl ?_)
  refine ao_x (ex_call rfl rfl e18 (F18 _ vn vf vo ns fs oz c (hd.le hm0) (hc.le hm0) (by have := hi.nl; omega) (by have := hi.fl; omega) hi.nam (fun f hf => by have := (hi.ok f hf).d; omega))) rfl fun u m3 ⟨e, hu, hm3, hacc⟩ => ao_r (rig_assign rfl rfl) rfl (ao_nil ?_)
  subst hu
  obtain ⟨G, hG, hD4, rfl⟩ := grow_to (cs := [nilB p4, chgB p3 c, dirB p2 vn vf vo]) hD3 hm3
  replace hD4 : Dj [nilB p4, chgB p3 c, dirB p2 vn vf vo, G] := hD4
  show AWp _ _ _ _ _ (U [nilB p4, chgB p3 c, dirB p2 vn vf vo, G])
  clear hm3 hD3 hm0
  refine awp_rs (ao_r (rig_move rfl rfl) rfl (ao_r (rig_neq rfl rfl rfl) rfl (ao_nil ?_)))
  refine awp_ifn rfl (fun he => ?_) (fun he => ?_)
  · refine awp_rs (ao_r (rig_loadN (vs := [_, _, _]) rfl rfl Try.isAgg30 Try.sizeOf30 (dirB_at 2 hD4 rfl)) rfl (ao_r (rig_move rfl rfl) rfl ?_))
    refine ao_x0 (ex_store (i := 0) rfl hD4 rfl rfl Try.sizeOf30 (three_one h1 h2 h3) rfl (Nat.le_refl 3)) fun u m7 ⟨_, hm7, hD7⟩ => ao_r (rig_assign rfl rfl) rfl (ao_nil ?_)
    subst hm7
    replace hD7 : Dj [dirB p4 vn vf vo, chgB p3 c, dirB p2 vn vf vo, G] := hD7
    have hmG : HpLe m (U [dirB p4 vn vf vo, chgB p3 c, dirB p2 vn vf vo, G]) := hG.trans (le_at 3 hD7 rfl)
    exact awp_ret ⟨_, resC2 (vs := [_, _, _]) Try.results8 rfl rfl Try.isAgg30 Try.sizeOf30 (dirB_at 0 hD7 rfl), _, _, _, ns, fs, _, rfl, hmG, hd.le hmG, hi.mono (by omega), .inl rfl⟩
  obtain ⟨k1, k8, hkn⟩ := hacc he
  refine awp_skip (hK1 _ _ (awp_rs ?_))
  clear hacc hK1 K1
  -- a copy
  have hmL : HpLe m (U [nilB p4, chgB p3 c, dirB p2 vn vf vo, G]) := hG.trans (le_at 3 hD4 rfl)
  refine ao_r (rig_loadN (vs := [_, _, _]) rfl rfl Try.isAgg30 Try.sizeOf30 (dirB_at 2 hD4 rfl)) rfl ?_
  refine ao_x (ex_call rfl rfl e19 (F19 _ vn vf vo ns fs oz (hd.le hmL) (by have := hi.nl; omega) (by have := hi.fl; omega) hol)) rfl fun u m5 ⟨wn, wf, wo, cf, N, G2, hu, hm5, hD5, hG2, hO, hrn, hro⟩ => ?_
  subst hu hm5
  obtain ⟨G3, hG3, hD6, rfl⟩ := grow_to (cs := [nilB p4, chgB p3 c, dirB p2 vn vf vo]) hD4 hG2
  replace hD6 : Dj [nilB p4, chgB p3 c, dirB p2 vn vf vo, G3] := hD6
  replace hD5 : Dj [cf, N, U [nilB p4, chgB p3 c, dirB p2 vn vf vo, G3]] := hD5
  have hD7 : Dj [cf, N, nilB p4, chgB p3 c, dirB p2 vn vf vo, G3] := Dj_flat (A := [cf, N]) hD5 hD6
  have e7 : U [cf, N, U [nilB p4, chgB p3 c, dirB p2 vn vf vo, G3]] = U [cf, N, nilB p4, chgB p3 c, dirB p2 vn vf vo, G3] := U_flat [cf, N] _
  show AOps _ _ _ _ _ (U [cf, N, U [nilB p4, chgB p3 c, dirB p2 vn vf vo, G3]]) _
  rw [e7]
  have hmG3 : HpLe m G3 := hG.trans hG3
  have hroN := hro
  have hNf : ∀ k, N k ≠ none → m k = none := fun k hk => by
    have h5 := hD7.2.1 k hk
    cases hq : m k with
    | none => rfl
    | some ob =>
      have h6 := (le_at 3 hD7.2.2 rfl) k ob (hmG3 k ob hq)
      rw [h5] at h6; cases h6
  clear hG2 hD5 hD6 e7 hmL hD4 hG hG3
  have w1 := hrn.one_
  have w3 := hro.one_
  have w2 := hO.one_
  refine ao_x0 (ex_store (i := 4) rfl hD7 rfl rfl Try.sizeOf30 (three_one w1 w2 w3) rfl (Nat.le_refl 3)) fun u m8 ⟨_, hm8, hD8⟩ => ao_nil ?_
  subst hm8
  replace hD8 : Dj [cf, N, nilB p4, chgB p3 c, dirB p2 wn wf wo, G3] := hD8
  show AWp _ _ _ _ _ (U [cf, N, nilB p4, chgB p3 c, dirB p2 wn wf wo, G3])
  have hp : U [cf, N, nilB p4, chgB p3 c, dirB p2 wn wf wo, G3] = U [dirB p2 wn wf wo, cf, nilB p4, N, chgB p3 c, G3] ∧ Dj [dirB p2 wn wf wo, cf, nilB p4, N, chgB p3 c, G3] := U_pm [4, 0, 2, 1, 3, 5] rfl hD8
  rw [hp.1]
  obtain ⟨-, hD9⟩ := hp
  clear hD8 hD7
  have hrdf := hO.rd
  obtain ⟨Af, kf, rfl⟩ := hO.len encF_len (by decide)
  obtain ⟨c0, c1, c2, c3, c4, _⟩ := chgB_at 4 hD9 rfl
  have hcn := hc.len
  refine awp_rs (ao_r (rig_loadN (vs := [_, _, _]) rfl rfl Try.isAgg30 Try.sizeOf30 (dirB_at 0 hD9 rfl)) rfl (ao_r (rig_fieldAddr rfl rfl Try.underlying37 rfl Try.sizeOf9 rfl) rfl (ao_r (rig_load1 rfl rfl Try.isAgg9 c1) rfl ?_)))
  refine ao_r (rig_call rfl rfl e20 (F20 _ _ _ _ ns c.name (RdSl.le hrn (le_at 3 hD9 rfl)) (by have := hi.nl; omega))) rfl (ao_r (rig_move rfl rfl) rfl (ao_r (rig_extract rfl rfl rfl) rfl (ao_r (rig_extract rfl rfl rfl) rfl (ao_r (rig_assign rfl rfl) rfl (ao_r (rig_assign rfl rfl) rfl (ao_nil ?_))))))
  refine awp_rs (ao_r (rig_fieldAddr rfl rfl Try.underlying37 rfl Try.sizeOf22 rfl) rfl (ao_r (rig_load1 rfl rfl Try.isAgg22 c3) rfl ?_))
  refine ao_x (ex_appendNil (by_ := 1) rfl hD9 rfl rfl Try.underlying22 inf5 rfl (by decide) (by decide) (RdSl.le hc.d (hmG3.trans (le_at 5 hD9 rfl))) (one_rows encB_one _) (by rw [rows_length encB_len]; omega)) rfl fun vd m10 ⟨cd, hOd, hm10, hD10⟩ => ao_r (rig_assign rfl rfl) rfl (ao_nil ?_)
  subst hm10
  obtain ⟨Ad, kd, rfl⟩ := hOd.len encB_len (by decide)
  have hdk := hOd.le_cap
  replace hD10 : Dj [cd, dirB p2 wn (.slice Af fs.length kf) wo, cf, nilB p4, N, chgB p3 c, G3] := hD10
  have hp : U [cd, dirB p2 wn (.slice Af fs.length kf) wo, cf, nilB p4, N, chgB p3 c, G3] = U [dirB p2 wn (.slice Af fs.length kf) wo, cf, nilB p4, cd, N, chgB p3 c, G3] ∧ Dj [dirB p2 wn (.slice Af fs.length kf) wo, cf, nilB p4, cd, N, chgB p3 c, G3] := U_pm [1, 2, 3, 0, 4, 5, 6] rfl hD10
  have e11 : U [dirB p2 wn (.slice Af fs.length kf) wo, cf, nilB p4, cd, N, chgB p3 c, G3] = U [dirB p2 wn (.slice Af fs.length kf) wo, cf, nilB p4, U [cd, N, chgB p3 c, G3]] := (U_flat [_, _, _] _).symm
  have hD11 : Dj [dirB p2 wn (.slice Af fs.length kf) wo, cf, nilB p4, U [cd, N, chgB p3 c, G3]] := Dj_unflat (A := [_, _, _]) hp.2
  have hDg : Dj [cd, N, chgB p3 c, G3] := hp.2.2.2.2
  show AWp _ _ _ _ _ (U [cd, dirB p2 wn (.slice Af fs.length kf) wo, cf, nilB p4, N, chgB p3 c, G3])
  rw [hp.1, e11]
  have hmG : HpLe m (U [cd, N, chgB p3 c, G3]) := hmG3.trans (le_at 3 hDg rfl)
  replace hrn := RdSl.le hrn (le_at 1 hDg rfl)
  replace hro := RdSl.le hro (le_at 1 hDg rfl)
  have hNG : HpLe N (U [cd, N, chgB p3 c, G3]) := le_at 1 hDg rfl
  have hrd := RdSl.le hOd.rd (le_at 0 hDg rfl)
  have hcg := chgB_at 2 hDg rfl
  generalize U [cd, N, chgB p3 c, G3] = G4 at hD11 hmG hrn hro hrd hcg hNG
  clear e11 hDg hp hD10 hD9 hmG3 c0 c1 c2 c3 c4 hOd
  have hns := hi.nl
  have hfs := hi.fl
  -- the place
  refine awp_rs (ao_r (rig_loadN (vs := [_, _, _]) rfl rfl Try.isAgg30 Try.sizeOf30 (dirB_at 0 hD11 rfl)) rfl (ao_r (rig_move rfl rfl) rfl ?_))
  refine ao_r (rig_call rfl rfl e21 (F21 _ _ _ _ fs (lkI ns c.name) (RdSl.le hrdf (le_at 1 hD11 rfl)) (by omega))) rfl (ao_r (rig_assign rfl rfl) rfl (ao_nil ?_))
  -- behind the switch
  refine awp_sk fun K1 hK1 => ?_
  have hend : ∀ (r : Env) (un : Value) (uf : Value) (G' : Hp) (ns1 : List Nm) (fs1 : List Fl), Dj [dirB p2 un uf wo, nilB p4, G'] → HpLe m G' → HpLe N G' → RdSl G' encN 2 un ns1 → RdSl G' encF 5 uf fs1 → RdSl G' encZ 1 wo oz → (∀ x ∈ fs1, x.Ok G') → DI (B + c.data.length + 1) ns1 fs1 → EnvLe [(2, .pointer (some ⟨p2, 0, none⟩)), (4, .pointer (some ⟨p4, 0, none⟩))] r → K1 r (U [dirB p2 un uf wo, nilB p4, G']) := by
    intro r un uf G' ns1 fs1 hd1 hm1 hN1 hn1 hf1 ho1 hx1 hi1 hr
    have hG' : HpLe G' (U [dirB p2 un uf wo, nilB p4, G']) := le_at 2 hd1 rfl
    refine hK1 _ _ (awp_le _ hr (awp_rs ?_))
    refine ao_r (rig_loadN (vs := [_, _, _]) rfl rfl Try.isAgg30 Try.sizeOf30 (dirB_at 0 hd1 rfl)) rfl ?_
    refine ao_x (ex_call rfl rfl e26 (F26 _ un uf wo ns1 fs1 oz ⟨RdSl.le hn1 hG', RdSl.le hf1 hG', RdSl.le ho1 hG', fun x hx => (hx1 x hx).le hG'⟩ (by have := hi1.nl; omega) (by have := hi1.fl; omega) hol)) rfl fun u m3 ⟨ug, cg, G5, hu, hm3, hd3, hG5, hf3⟩ => ?_
    subst hu hm3
    obtain ⟨G6, hG6, hd6, rfl⟩ := grow_to (cs := [dirB p2 un uf wo, nilB p4]) hd1 hG5
    replace hd6 : Dj [dirB p2 un uf wo, nilB p4, G6] := hd6
    replace hd3 : Dj [cg, U [dirB p2 un uf wo, nilB p4, G6]] := hd3
    have hd7 : Dj [cg, dirB p2 un uf wo, nilB p4, G6] := Dj_flat (A := [cg]) hd3 hd6
    have e7 : U [cg, U [dirB p2 un uf wo, nilB p4, G6]] = U [cg, dirB p2 un uf wo, nilB p4, G6] := U_flat [cg] _
    show AOps _ _ _ _ _ (U [cg, U [dirB p2 un uf wo, nilB p4, G6]]) _
    rw [e7]
    refine ao_x0 (ex_store (i := 2) rfl hd7 rfl rfl Try.sizeOf30 (three_one hn1.one_ hf3.one_ ho1.one_) rfl (Nat.le_refl 3)) fun u m7 ⟨_, hm7, hD7⟩ => ao_r (rig_assign rfl rfl) rfl (ao_nil ?_)
    subst hm7
    replace hD7 : Dj [cg, dirB p2 un uf wo, dirB p4 un ug wo, G6] := hD7
    have hG7 : HpLe G' (U [cg, dirB p2 un uf wo, dirB p4 un ug wo, G6]) := hG6.trans (le_at 3 hD7 rfl)
    have hI := sweep_ok hi1 oz
    exact awp_ret ⟨_, resC2 (vs := [_, _, _]) Try.results8 rfl rfl Try.isAgg30 Try.sizeOf30 (dirB_at 2 hD7 rfl), _, _, _, ns1, _, _, rfl, hm1.trans hG7, ⟨RdSl.le hn1 hG7, RdSl.le hf3 (le_at 0 hD7 rfl), RdSl.le ho1 hG7, fun x hx => (hx1 x (List.mem_filter.1 hx).1).le hG7⟩, hI, .inr ⟨N, hNf, hN1.trans hG7, hroN⟩⟩
  -- the switch
  refine awp_rs (ao_r (rig_fieldAddr rfl rfl Try.underlying37 rfl Try.sizeOf3 rfl) rfl (ao_r (rig_load1 rfl rfl Try.isAgg3 (cell_le (le_at 3 hD11 rfl) hcg.1)) rfl (ao_nil ?_)))
  obtain ⟨c0, c1, c2, c3, c4, _⟩ := hcg
  have hE : ∀ b : Bool, True := fun _ => trivial
  refine awp_block ?_
  refine awp_mid (fun r mm => ∃ b : Bool, r = [(2, .pointer (some ⟨p2, 0, none⟩)), (3, .pointer (some ⟨p3, 0, none⟩)), (4, .pointer (some ⟨p4, 0, none⟩)), (7, .int .i64 (lkI ns c.name)), (9, .slice Ad c.data.length kd), (10, .int .i64 (idxG (inoIs (lkI ns c.name)) fs)), (37, .int .i64 c.kind), (38, .bool b)] ∧ (b = false → c.kind ≠ 1 ∧ c.kind ≠ 8) ∧ U [dirB p2 wn (.slice Af fs.length kf) wo, cf, nilB p4, G4] = mm) ?_ ?_
  · refine awp_rs (ao_r (rig_eql rfl rfl rfl) rfl (ao_r (rig_assign rfl rfl) rfl (ao_nil ?_)))
    refine awp_cond rfl (fun h => ?_) (fun h => ?_)
    · exact awp_skip ⟨[(2, .pointer (some ⟨p2, 0, none⟩)), (3, .pointer (some ⟨p3, 0, none⟩)), (4, .pointer (some ⟨p4, 0, none⟩)), (7, .int .i64 (lkI ns c.name)), (9, .slice Ad c.data.length kd), (10, .int .i64 (idxG (inoIs (lkI ns c.name)) fs)), (37, .int .i64 c.kind), (38, .bool (decide (c.kind = 1)))], ⟨rfl, rfl, rfl, rfl, rfl, rfl, rfl, rfl, trivial⟩, _, rfl, fun h2 => (by rw [h] at h2; simp at h2), rfl⟩
    · refine awp_region (ao_r (rig_eql rfl rfl rfl) rfl (ao_r (rig_assign rfl rfl) rfl (ao_nil ?_)))
      exact ⟨[(2, .pointer (some ⟨p2, 0, none⟩)), (3, .pointer (some ⟨p3, 0, none⟩)), (4, .pointer (some ⟨p4, 0, none⟩)), (7, .int .i64 (lkI ns c.name)), (9, .slice Ad c.data.length kd), (10, .int .i64 (idxG (inoIs (lkI ns c.name)) fs)), (37, .int .i64 c.kind), (38, .bool (decide (c.kind = 8)))], ⟨rfl, rfl, rfl, rfl, rfl, rfl, rfl, rfl, trivial⟩, _, rfl, fun h2 => ⟨of_decide_eq_false h, of_decide_eq_false h2⟩, rfl⟩
  rintro r mm ⟨b, rfl, hb, rfl⟩
  clear hE
  -- add, link: common to two branches
  have hlink : ∀ (vf2 : Value) (out : List Fl) (cf2 cn G5 G6 : Hp) (vn2 : Value) (x : Fl) (s : ByteArray) (nout : List Nm), Dj [cf2, dirB p2 wn (.slice Af fs.length kf) wo, nilB p4, G5] → Dj [cn, G6] → HpLe G4 G5 → HpLe (U [cf2, dirB p2 wn (.slice Af fs.length kf) wo, nilB p4, G5]) G6 → Own 61 5 cf2 vf2 (rows encF out) → RdSl cn encN 2 vn2 nout → x.Ok G5 → FOk (B + c.data.length + 1) x → fs.any (inoIs x.ino) = false → PutIn fs x out → (∀ n ∈ nout, n ∈ ns ∨ n = ⟨s, x.ino⟩) → nout.length ≤ ns.length + 1 →
      ∃ G7, U [cn, G6] = U [dirB p2 wn (.slice Af fs.length kf) wo, nilB p4, cn, cf2, G7] ∧ Dj [dirB p2 wn (.slice Af fs.length kf) wo, nilB p4, cn, cf2, G7] ∧ (∀ r, Dj [dirB p2 vn2 vf2 wo, nilB p4, cn, cf2, G7] → EnvLe [(2, .pointer (some ⟨p2, 0, none⟩)), (4, .pointer (some ⟨p4, 0, none⟩))] r → K1 r (U [dirB p2 vn2 vf2 wo, nilB p4, cn, cf2, G7])) := by
    intro vf2 out cf2 cn G5 G6 vn2 x s nout hd1 hd2 hl1 hl2 ho hn hxo hxf hxn hput hnm hnl
    obtain ⟨G7, g1, g2, g3, g4⟩ := grow_by (cs := [cf2, dirB p2 wn (.slice Af fs.length kf) wo, nilB p4]) hd2 hd1 hl2
    have hp : U [cn, cf2, dirB p2 wn (.slice Af fs.length kf) wo, nilB p4, G7] = U [dirB p2 wn (.slice Af fs.length kf) wo, nilB p4, cn, cf2, G7] ∧ Dj [dirB p2 wn (.slice Af fs.length kf) wo, nilB p4, cn, cf2, G7] := U_pm [2, 3, 0, 1, 4] rfl g2
    refine ⟨G7, g3.trans hp.1, hp.2, fun r hd8 hr => ?_⟩
    have e8 : U [dirB p2 vn2 vf2 wo, nilB p4, cn, cf2, G7] = U [dirB p2 vn2 vf2 wo, nilB p4, U [cn, cf2, G7]] := (U_flat [_, _] _).symm
    have hd9 : Dj [dirB p2 vn2 vf2 wo, nilB p4, U [cn, cf2, G7]] := Dj_unflat (A := [_, _]) hd8
    have hdt : Dj [cn, cf2, G7] := hd8.2.2
    have hG7 : HpLe G7 (U [cn, cf2, G7]) := le_at 2 hdt rfl
    have h48 : HpLe G4 (U [cn, cf2, G7]) := hl1.trans (g1.trans hG7)
    rw [e8]
    obtain ⟨a1, a2, a3, a4⟩ := add_ok hi hput hxf hxn (by omega)
    refine hend r vn2 vf2 _ nout out hd9 (hmG.trans h48) (hNG.trans h48) (RdSl.le hn (le_at 0 hdt rfl)) (RdSl.le ho.rd (le_at 1 hdt rfl)) (RdSl.le hro h48) (fun y hy => ?_) (a1.names (fun n hn => ?_) (by omega) (Nat.le_refl _)) hr
    · rcases a4 y hy with h | rfl
      · exact (hd.d y h).le (hmG.trans h48)
      · exact hxo.le (g1.trans hG7)
    · rcases hnm n hn with h | rfl
      · obtain ⟨f, hf, e⟩ := hi.nam n h
        exact ⟨f, a3 f hf, e⟩
      · exact ⟨x, a2, rfl⟩
  refine awp_cond rfl (fun h => ?_) (fun h => ?_)
  · -- Create, Replace
    refine awp_rs (ao_r (rig_loadN (vs := [_, _, _]) rfl rfl Try.isAgg30 Try.sizeOf30 (dirB_at 0 hD11 rfl)) rfl ?_)
    refine ao_x (ex_call rfl rfl e22 (F22 _ wn _ wo fs (RdSl.le hrdf (le_at 1 hD11 rfl)) (by omega) B (fun f hf => (hi.ok f hf).b) (by omega))) rfl fun u m3 ⟨n, hu, hm3, hn1, hnB, hnf⟩ => ao_r (rig_assign rfl rfl) rfl (ao_nil ?_)
    subst hu
    obtain ⟨G5, hG5, hD12, rfl⟩ := grow_to (cs := [dirB p2 wn (.slice Af fs.length kf) wo, cf, nilB p4]) hD11 hm3
    replace hD12 : Dj [dirB p2 wn (.slice Af fs.length kf) wo, cf, nilB p4, G5] := hD12
    have hp : U [dirB p2 wn (.slice Af fs.length kf) wo, cf, nilB p4, G5] = U [cf, dirB p2 wn (.slice Af fs.length kf) wo, nilB p4, G5] ∧ Dj [cf, dirB p2 wn (.slice Af fs.length kf) wo, nilB p4, G5] := U_pm [1, 0, 2, 3] rfl hD12
    have e13 : U [cf, dirB p2 wn (.slice Af fs.length kf) wo, nilB p4, G5] = U [cf, U [dirB p2 wn (.slice Af fs.length kf) wo, nilB p4, G5]] := (U_flat [_] _).symm
    have hD13 : Dj [cf, U [dirB p2 wn (.slice Af fs.length kf) wo, nilB p4, G5]] := Dj_unflat (A := [_]) hp.2
    have hDF : Dj [dirB p2 wn (.slice Af fs.length kf) wo, nilB p4, G5] := hp.2.2
    show AWp _ _ _ _ _ (U [dirB p2 wn (.slice Af fs.length kf) wo, cf, nilB p4, G5])
    rw [hp.1, e13]
    have hFU : HpLe (U [dirB p2 wn (.slice Af fs.length kf) wo, nilB p4, G5]) (U [cf, U [dirB p2 wn (.slice Af fs.length kf) wo, nilB p4, G5]]) := le_at 1 hD13 rfl
    have c1F := cell_le (hG5.trans (le_at 2 hDF rfl)) c1
    have hxo : Fl.Ok G5 ⟨n, Ad, c.data.length, kd, c.data, false, true, 0⟩ := ⟨RdSl.le hrd hG5, hdk⟩
    have hxf : FOk (B + c.data.length + 1) ⟨n, Ad, c.data.length, kd, c.data, false, true, 0⟩ := ⟨by show (1 : Int) ≤ (n : Int); omega, by show (n : Int) ≤ _; omega, Int.le_refl _, by show (0 : Int) ≤ (c.data.length : Int); omega, fun _ => rfl, fun _ => rfl, by show c.data.length ≤ _; omega⟩
    refine awp_draw (.q 0 (.q 1 (.q 2 (.q 3 (.p 5 (.p 7 (.b 4 (.q 6 (.s 8 (.s 9 .fin))) 6 (.s 4 (.s 8 (.s 9 .fin)))))))))) [4, 9] (by kernel_rfl) (by kernel_rfl) ?_
    refine oq rfl (rig_loadN (vs := [_, _, _]) rfl rfl Try.isAgg30 Try.sizeOf30 ((dirB_at 0 hDF rfl).le hFU)) rfl (oq rfl (rig_move rfl rfl) rfl (oq rfl (rig_move rfl rfl) rfl (oq rfl (rig_build (pl := #[(0, 1), (1, 1), (2, 1), (3, 1), (4, 1)]) (cs := (encF ⟨n, Ad, c.data.length, kd, c.data, false, true, 0⟩).toArray) rfl rfl Try.underlying61 Try.zeroValue61 (fun w => by kernel_rfl) rfl) rfl ?_)))
    refine opu rfl (rig_fieldAddr rfl rfl Try.underlying37 rfl Try.sizeOf9 rfl) rfl (opu rfl (rig_move rfl rfl) rfl (od_b ?_ ?_))
    · refine os rfl (ex_call rfl rfl e24 (F24 cf _ wn (.slice Af fs.length kf) wo fs ⟨n, Ad, c.data.length, kd, c.data, false, true, 0⟩ hO hD13 w1 w3 (by omega))) rfl fun u m6 ⟨vf2, out, cf2, F2, hu, hm6, hd6, hF2, ho2, hput⟩ => ⟨fun h => by simp at h, ?_⟩
      subst hu hm6
      obtain ⟨G6, hG6, hdF2, rfl⟩ := grow_to (cs := [dirB p2 wn (.slice Af fs.length kf) wo, nilB p4]) hDF hF2
      replace hdF2 : Dj [dirB p2 wn (.slice Af fs.length kf) wo, nilB p4, G6] := hdF2
      replace hd6 : Dj [cf2, U [dirB p2 wn (.slice Af fs.length kf) wo, nilB p4, G6]] := hd6
      have hd7 : Dj [cf2, dirB p2 wn (.slice Af fs.length kf) wo, nilB p4, G6] := Dj_flat (A := [cf2]) hd6 hdF2
      have hFU2 : HpLe (U [dirB p2 wn (.slice Af fs.length kf) wo, nilB p4, G6]) (U [cf2, U [dirB p2 wn (.slice Af fs.length kf) wo, nilB p4, G6]]) := le_at 1 hd6 rfl
      have hGU2 : HpLe G6 (U [cf2, U [dirB p2 wn (.slice Af fs.length kf) wo, nilB p4, G6]]) := (le_at 2 hdF2 rfl).trans hFU2
      show AOrd _ _ _ _ _ _ _ (U [cf2, U [dirB p2 wn (.slice Af fs.length kf) wo, nilB p4, G6]])
      refine oq rfl (rig_load1 rfl rfl Try.isAgg9 (cell_le (hF2.trans hFU2) c1F)) rfl ?_
      refine os rfl (ex_call rfl rfl e23 (F23 _ wn vf2 wo ns ⟨c.name, n⟩ (RdSl.le hrn ((hG5.trans hG6).trans hGU2)) ho2.one_ w3 (by omega))) rfl fun u m8 ⟨vn3, nout, cn, G8, hu, hm8, hd8, hG8, hn8, hnm, hnl⟩ => ⟨fun _ => by subst hm8; exact hG8.trans (le_at 1 hd8 rfl), ?_⟩
      subst hu hm8
      rw [show U [cf2, U [dirB p2 wn (.slice Af fs.length kf) wo, nilB p4, G6]] = U [cf2, dirB p2 wn (.slice Af fs.length kf) wo, nilB p4, G6] from U_flat [cf2] _] at hG8
      obtain ⟨G7, e9, hd9, hfin⟩ := hlink vf2 out cf2 cn G6 G8 vn3 ⟨n, Ad, c.data.length, kd, c.data, false, true, 0⟩ c.name nout hd7 hd8 (hG5.trans hG6) hG8 ho2 hn8 (hxo.le hG6) hxf hnf hput hnm hnl
      rw [e9]
      refine os0 rfl (ex_store (i := 0) rfl hd9 rfl rfl Try.sizeOf30 (three_one hn8.one_ ho2.one_ w3) rfl (Nat.le_refl 3)) fun u m10 ⟨_, hm10, hd10⟩ => ⟨fun h => by simp at h, od_fin ?_⟩
      subst hm10
      exact hfin _ hd10 ⟨rfl, rfl, trivial⟩
    · refine os rfl (rig_load1 rfl rfl Try.isAgg9 (cell_le hFU c1F)).ex rfl fun u m6 ⟨hu, hm6⟩ => ⟨fun _ => by subst hm6; exact HpLe.refl _, ?_⟩
      subst hu hm6
      refine os rfl (ex_call rfl rfl e24 (F24 cf _ wn (.slice Af fs.length kf) wo fs ⟨n, Ad, c.data.length, kd, c.data, false, true, 0⟩ hO hD13 w1 w3 (by omega))) rfl fun u m6 ⟨vf2, out, cf2, F2, hu, hm6, hd6, hF2, ho2, hput⟩ => ⟨fun h => by simp at h, ?_⟩
      subst hu hm6
      obtain ⟨G6, hG6, hdF2, rfl⟩ := grow_to (cs := [dirB p2 wn (.slice Af fs.length kf) wo, nilB p4]) hDF hF2
      replace hdF2 : Dj [dirB p2 wn (.slice Af fs.length kf) wo, nilB p4, G6] := hdF2
      replace hd6 : Dj [cf2, U [dirB p2 wn (.slice Af fs.length kf) wo, nilB p4, G6]] := hd6
      have hd7 : Dj [cf2, dirB p2 wn (.slice Af fs.length kf) wo, nilB p4, G6] := Dj_flat (A := [cf2]) hd6 hdF2
      have hFU2 : HpLe (U [dirB p2 wn (.slice Af fs.length kf) wo, nilB p4, G6]) (U [cf2, U [dirB p2 wn (.slice Af fs.length kf) wo, nilB p4, G6]]) := le_at 1 hd6 rfl
      have hGU2 : HpLe G6 (U [cf2, U [dirB p2 wn (.slice Af fs.length kf) wo, nilB p4, G6]]) := (le_at 2 hdF2 rfl).trans hFU2
      show AOrd _ _ _ _ _ _ _ (U [cf2, U [dirB p2 wn (.slice Af fs.length kf) wo, nilB p4, G6]])
      refine os rfl (ex_call rfl rfl e23 (F23 _ wn vf2 wo ns ⟨c.name, n⟩ (RdSl.le hrn ((hG5.trans hG6).trans hGU2)) ho2.one_ w3 (by omega))) rfl fun u m8 ⟨vn3, nout, cn, G8, hu, hm8, hd8, hG8, hn8, hnm, hnl⟩ => ⟨fun _ => by subst hm8; exact hG8.trans (le_at 1 hd8 rfl), ?_⟩
      subst hu hm8
      rw [show U [cf2, U [dirB p2 wn (.slice Af fs.length kf) wo, nilB p4, G6]] = U [cf2, dirB p2 wn (.slice Af fs.length kf) wo, nilB p4, G6] from U_flat [cf2] _] at hG8
      obtain ⟨G7, e9, hd9, hfin⟩ := hlink vf2 out cf2 cn G6 G8 vn3 ⟨n, Ad, c.data.length, kd, c.data, false, true, 0⟩ c.name nout hd7 hd8 (hG5.trans hG6) hG8 ho2 hn8 (hxo.le hG6) hxf hnf hput hnm hnl
      rw [e9]
      refine os0 rfl (ex_store (i := 0) rfl hd9 rfl rfl Try.sizeOf30 (three_one hn8.one_ ho2.one_ w3) rfl (Nat.le_refl 3)) fun u m10 ⟨_, hm10, hd10⟩ => ⟨fun h => by simp at h, od_fin ?_⟩
      subst hm10
      exact hfin _ hd10 ⟨rfl, rfl, trivial⟩
  obtain ⟨nk1, nk8⟩ := hb h
  obtain ⟨hany, i, x, hidx, hx, hxi, hcp, hN1⟩ := hkn nk1
  have hil := (List.getElem?_eq_some_iff.1 hx).1
  have hxm := List.mem_of_getElem? hx
  have hxF := hi.ok x hxm
  have hxk := hd.d x hxm
  have hxn := hxk.len
  rw [hidx]
  -- other names
  have hnames : ∀ (cn G6 : Hp) (vn2 : Value) (nout : List Nm), Dj [cn, G6] → HpLe (U [dirB p2 wn (.slice Af fs.length kf) wo, cf, nilB p4, G4]) G6 → RdSl cn encN 2 vn2 nout → (∀ n ∈ nout, ∃ f ∈ fs, f.ino = n.ino) → nout.length ≤ ns.length + 1 →
      ∃ G7, U [cn, G6] = U [dirB p2 wn (.slice Af fs.length kf) wo, nilB p4, cn, cf, G7] ∧ Dj [dirB p2 wn (.slice Af fs.length kf) wo, nilB p4, cn, cf, G7] ∧ (∀ r, Dj [dirB p2 vn2 (.slice Af fs.length kf) wo, nilB p4, cn, cf, G7] → EnvLe [(2, .pointer (some ⟨p2, 0, none⟩)), (4, .pointer (some ⟨p4, 0, none⟩))] r → K1 r (U [dirB p2 vn2 (.slice Af fs.length kf) wo, nilB p4, cn, cf, G7])) := by
    intro cn G6 vn2 nout hd2 hl2 hn hnm hnl
    obtain ⟨G7, g1, g2, g3, g4⟩ := grow_by (cs := [dirB p2 wn (.slice Af fs.length kf) wo, cf, nilB p4]) hd2 hD11 hl2
    have hp : U [cn, dirB p2 wn (.slice Af fs.length kf) wo, cf, nilB p4, G7] = U [dirB p2 wn (.slice Af fs.length kf) wo, nilB p4, cn, cf, G7] ∧ Dj [dirB p2 wn (.slice Af fs.length kf) wo, nilB p4, cn, cf, G7] := U_pm [1, 3, 0, 2, 4] rfl g2
    refine ⟨G7, g3.trans hp.1, hp.2, fun r hd8 hr => ?_⟩
    have e8 : U [dirB p2 vn2 (.slice Af fs.length kf) wo, nilB p4, cn, cf, G7] = U [dirB p2 vn2 (.slice Af fs.length kf) wo, nilB p4, U [cn, cf, G7]] := (U_flat [_, _] _).symm
    have hd9 : Dj [dirB p2 vn2 (.slice Af fs.length kf) wo, nilB p4, U [cn, cf, G7]] := Dj_unflat (A := [_, _]) hd8
    have hdt : Dj [cn, cf, G7] := hd8.2.2
    have hG7 : HpLe G7 (U [cn, cf, G7]) := le_at 2 hdt rfl
    have h48 : HpLe G4 (U [cn, cf, G7]) := g1.trans hG7
    rw [e8]
    exact hend r vn2 _ _ nout fs hd9 (hmG.trans h48) (hNG.trans h48) (RdSl.le hn (le_at 0 hdt rfl)) (RdSl.le hrdf (le_at 1 hdt rfl)) (RdSl.le hro h48) (fun y hy => (hd.d y hy).le (hmG.trans h48)) (hi.names hnm (by omega) (by omega)) hr
  -- one file, in place
  have hsome : ∃ g sp, Af = some ⟨g, 0, none⟩ ∧ cf = Go.Aw.one g (.cells (rows encF fs ++ sp).toArray 61 (0, 0)) ∧ (rows encF fs ++ sp).length = kf * 5 ∧ fs.length ≤ kf ∧ kf ≤ maxLen := by
    obtain ⟨g, cap, sp, e, e2, h1, h2, h3⟩ := hO.some_ encF_len (by decide) (by omega)
    simp only [Value.slice.injEq] at e
    obtain ⟨rfl, _, rfl⟩ := e
    exact ⟨g, sp, rfl, e2, h1, h2, h3⟩
  have hput : ∀ (r : Env) (g : Nat) (sp : List Value) (y : Fl) (G5 : Hp), (rows encF fs ++ sp).length = kf * 5 → fs.length ≤ kf → kf ≤ maxLen → Dj [dirB p2 wn (.slice (some ⟨g, 0, none⟩) fs.length kf) wo, Go.Aw.one g (.cells (rows encF (fs.set i y) ++ sp).toArray 61 (0, 0)), nilB p4, G5] → HpLe G4 G5 → y.Ok G5 → y.ino = x.ino → FOk (B + c.data.length + 1) y → EnvLe [(2, .pointer (some ⟨p2, 0, none⟩)), (4, .pointer (some ⟨p4, 0, none⟩))] r → K1 r (U [dirB p2 wn (.slice (some ⟨g, 0, none⟩) fs.length kf) wo, Go.Aw.one g (.cells (rows encF (fs.set i y) ++ sp).toArray 61 (0, 0)), nilB p4, G5]) := by
    intro r g sp y G5 hsp hcap hmax hdj hl hyo hyi hyf hr
    have hp : U [dirB p2 wn (.slice (some ⟨g, 0, none⟩) fs.length kf) wo, Go.Aw.one g (.cells (rows encF (fs.set i y) ++ sp).toArray 61 (0, 0)), nilB p4, G5] = U [dirB p2 wn (.slice (some ⟨g, 0, none⟩) fs.length kf) wo, nilB p4, Go.Aw.one g (.cells (rows encF (fs.set i y) ++ sp).toArray 61 (0, 0)), G5] ∧ Dj [dirB p2 wn (.slice (some ⟨g, 0, none⟩) fs.length kf) wo, nilB p4, Go.Aw.one g (.cells (rows encF (fs.set i y) ++ sp).toArray 61 (0, 0)), G5] := U_pm [0, 2, 1, 3] rfl hdj
    have e8 : U [dirB p2 wn (.slice (some ⟨g, 0, none⟩) fs.length kf) wo, nilB p4, Go.Aw.one g (.cells (rows encF (fs.set i y) ++ sp).toArray 61 (0, 0)), G5] = U [dirB p2 wn (.slice (some ⟨g, 0, none⟩) fs.length kf) wo, nilB p4, U [Go.Aw.one g (.cells (rows encF (fs.set i y) ++ sp).toArray 61 (0, 0)), G5]] := (U_flat [_, _] _).symm
    have hd9 := Dj_unflat (A := [_, _]) hp.2
    have hdt := hp.2.2.2
    have hG5 : HpLe G5 (U [Go.Aw.one g (.cells (rows encF (fs.set i y) ++ sp).toArray 61 (0, 0)), G5]) := le_at 1 hdt rfl
    have hOy := Own.mk_ (E := 61) (g := g) (cap := kf) (sp := sp) (l := fs.set i y) encF_len (by rw [List.length_append, rows_length encF_len] at hsp ⊢; rw [List.length_set]; exact hsp) (by rw [List.length_set]; exact hcap) hmax
    rw [List.length_set] at hOy
    rw [hp.1, e8]
    refine hend r wn _ _ ns (fs.set i y) hd9 (hmG.trans (hl.trans hG5)) (hNG.trans (hl.trans hG5)) (RdSl.le hrn (hl.trans hG5)) (RdSl.le hOy.rd (le_at 0 hdt rfl)) (RdSl.le hro (hl.trans hG5)) (fun z hz => ?_) (hi.put hx hyi hyf (by omega)) hr
    rcases List.mem_or_eq_of_mem_set hz with h1 | rfl
    · exact (hd.d z h1).le (hmG.trans (hl.trans hG5))
    · exact hyo.le hG5
  refine awp_rs (ao_r (rig_eql rfl rfl rfl) rfl (ao_r (rig_assign rfl rfl) rfl (ao_nil ?_)))
  refine awp_if rfl (fun h2 => ?_) (fun h2 => ?_)
  · -- Append
    obtain ⟨g, sp, rfl, rfl, hsp, hcap, hmax⟩ := hsome
    obtain ⟨d0, d1, d2, _⟩ := dirB_at 0 hD11 rfl
    obtain ⟨bx, ox, cx, ex, hxc⟩ := RdSl.get_ encF_len (by decide) (RdSl.le hrdf (le_at 1 hD11 rfl)) hx
    simp only [Value.slice.injEq, Option.some.injEq, Addr.mk.injEq, and_true, true_and] at ex
    obtain ⟨⟨rfl, rfl⟩, rfl⟩ := ex
    obtain ⟨x0, x1, x2, x3, x4, _⟩ := id hxc
    have hlen5 : i * 5 + 5 ≤ fs.length * 5 := by omega
    have hxd := hxF.d
    refine awp_draw (.p 0 (.p 2 (.q 3 (.q 4 (.q 5 (.q 6 (.q 7 (.q 8 (.q 10 (.b 1 (.s 9 (.s 11 (.q 12 (.q 13 (.s 14 .fin))))) 9 (.b 1 (.s 11 (.q 12 (.q 13 (.s 14 .fin)))) 11 (.s 1 (.q 12 (.q 13 (.s 14 .fin))))))))))))))) [11, 14] (by kernel_rfl) (by kernel_rfl) ?_
    refine opu rfl (rig_fieldAddr rfl rfl Try.underlying30 rfl Try.sizeOf27 rfl) rfl (opu rfl (rig_move rfl rfl) rfl (oq rfl (rig_fieldAddr rfl rfl Try.underlying30 rfl Try.sizeOf27 rfl) rfl (oq rfl (rig_load1 rfl rfl Try.isAgg27 d1) rfl (oq rfl (rig_move rfl rfl) rfl (oq rfl (rig_ix i rfl rfl rfl Try.underlying27 Try.sizeOf61 rfl rfl hil) rfl (oq rfl (rig_fieldAddr rfl rfl Try.underlying61 rfl Try.sizeOf22 rfl) rfl (oq rfl (rig_load1 rfl rfl Try.isAgg22 x1) rfl (oq rfl (rig_move rfl rfl) rfl ?_))))))))
    refine od_b ?_ ?_
    · refine os rfl (rig_load1 rfl rfl Try.isAgg27 d1).ex rfl fun u m7 ⟨hu, hm7⟩ => ⟨fun _ => by subst hm7; exact HpLe.refl _, ?_⟩
      subst hu hm7
      refine os rfl (ex_appendNil (by_ := 1) rfl hD11 rfl rfl Try.underlying22 inf5 rfl (by decide) (by decide) (RdSl.le hxk.1 (hmG.trans (le_at 3 hD11 rfl))) (one_rows encB_one _) (by rw [rows_length encB_len]; omega)) rfl fun v9 m9 ⟨c9, hO9, hm9, hD12⟩ => ⟨fun _ => by subst hm9; exact U_le_tail hD12, ?_⟩
      subst hm9
      refine os rfl (ex_append 0 (by_ := 1) rfl hD12 rfl rfl Try.underlying22 inf5 rfl (by decide) (by decide) hO9 rfl (RdSl.le hrd ((le_at 3 hD11 rfl).trans (U_le_tail hD12))) (one_rows encB_one _) (by rw [rows_length encB_len, rows_length encB_len]; omega)) rfl fun v10 m10 ⟨c10, hO10, hm10, hD13⟩ => ⟨fun h => by simp at h, ?_⟩
      subst hm10
      rw [← rows_append] at hO10
      obtain ⟨A10, k10, rfl⟩ := hO10.len encB_len (by decide)
      have hk10 := hO10.le_cap
      replace hD13 : Dj [c10, dirB p2 wn (.slice (some ⟨g, 0, none⟩) fs.length kf) wo, Go.Aw.one g (.cells (rows encF fs ++ sp).toArray 61 (0, 0)), nilB p4, G4] := hD13
      show AOrd _ _ _ _ _ _ _ (U [c10, dirB p2 wn (.slice (some ⟨g, 0, none⟩) fs.length kf) wo, Go.Aw.one g (.cells (rows encF fs ++ sp).toArray 61 (0, 0)), nilB p4, G4])
      refine oq rfl (rig_ix i rfl rfl rfl Try.underlying27 Try.sizeOf61 rfl rfl hil) rfl (oq rfl (rig_fieldAddr rfl rfl Try.underlying61 rfl Try.sizeOf22 rfl) rfl ?_)
      have erow : putR (rows encF fs ++ sp).toArray (0 + i * 5 + 1) [.slice A10 (x.data ++ c.data).length k10] = (rows encF (fs.set i ⟨x.ino, A10, (x.data ++ c.data).length, k10, x.data ++ c.data, x.copy, x.whole, x.left⟩) ++ sp).toArray := by
        rw [Nat.zero_add]; exact putR_field encF_len fs i 1 x _ _ sp hx (by decide) rfl
      refine os0 rfl (ex_store (i := 2) rfl hD13 rfl rfl Try.sizeOf22 (by simp [Value.cells, Value.oneCell']) rfl (by simp [Value.cells, rows_length encF_len]; omega)) fun u m8 ⟨_, hm8, hD14⟩ => ⟨fun h => by simp at h, od_fin ?_⟩
      subst hm8
      replace hD14 : Dj [c10, dirB p2 wn (.slice (some ⟨g, 0, none⟩) fs.length kf) wo, Go.Aw.one g (.cells (putR (rows encF fs ++ sp).toArray (0 + i * 5 + 1) [.slice A10 (x.data ++ c.data).length k10]) 61 (0, 0)), nilB p4, G4] := hD14
      show K1 _ (U [c10, dirB p2 wn (.slice (some ⟨g, 0, none⟩) fs.length kf) wo, Go.Aw.one g (.cells (putR (rows encF fs ++ sp).toArray (0 + i * 5 + 1) [.slice A10 (x.data ++ c.data).length k10]) 61 (0, 0)), nilB p4, G4])
      rw [erow] at hD14 ⊢
      have hl0 := hxF.c (hcp (.inl h2))
      have hp : U [c10, dirB p2 wn (.slice (some ⟨g, 0, none⟩) fs.length kf) wo, Go.Aw.one g (.cells (rows encF (fs.set i ⟨x.ino, A10, (x.data ++ c.data).length, k10, x.data ++ c.data, x.copy, x.whole, x.left⟩) ++ sp).toArray 61 (0, 0)), nilB p4, G4] = U [dirB p2 wn (.slice (some ⟨g, 0, none⟩) fs.length kf) wo, Go.Aw.one g (.cells (rows encF (fs.set i ⟨x.ino, A10, (x.data ++ c.data).length, k10, x.data ++ c.data, x.copy, x.whole, x.left⟩) ++ sp).toArray 61 (0, 0)), nilB p4, c10, G4] ∧ Dj [dirB p2 wn (.slice (some ⟨g, 0, none⟩) fs.length kf) wo, Go.Aw.one g (.cells (rows encF (fs.set i ⟨x.ino, A10, (x.data ++ c.data).length, k10, x.data ++ c.data, x.copy, x.whole, x.left⟩) ++ sp).toArray 61 (0, 0)), nilB p4, c10, G4] := U_pm [1, 2, 3, 0, 4] rfl hD14
      have e8 : U [dirB p2 wn (.slice (some ⟨g, 0, none⟩) fs.length kf) wo, Go.Aw.one g (.cells (rows encF (fs.set i ⟨x.ino, A10, (x.data ++ c.data).length, k10, x.data ++ c.data, x.copy, x.whole, x.left⟩) ++ sp).toArray 61 (0, 0)), nilB p4, c10, G4] = U [dirB p2 wn (.slice (some ⟨g, 0, none⟩) fs.length kf) wo, Go.Aw.one g (.cells (rows encF (fs.set i ⟨x.ino, A10, (x.data ++ c.data).length, k10, x.data ++ c.data, x.copy, x.whole, x.left⟩) ++ sp).toArray 61 (0, 0)), nilB p4, U [c10, G4]] := (U_flat [_, _, _] _).symm
      have hd9 : Dj [dirB p2 wn (.slice (some ⟨g, 0, none⟩) fs.length kf) wo, Go.Aw.one g (.cells (rows encF (fs.set i ⟨x.ino, A10, (x.data ++ c.data).length, k10, x.data ++ c.data, x.copy, x.whole, x.left⟩) ++ sp).toArray 61 (0, 0)), nilB p4, U [c10, G4]] := Dj_unflat (A := [_, _, _]) hp.2
      have hdt : Dj [c10, G4] := hp.2.2.2.2
      rw [hp.1, e8]
      exact hput _ g sp _ _ hsp hcap hmax hd9 (le_at 1 hdt rfl) ⟨RdSl.le hO10.rd (le_at 0 hdt rfl), hk10⟩ rfl ⟨hxF.p, by have := hxF.b; show x.ino ≤ _; omega, hxF.l0, by show x.left ≤ (((x.data ++ c.data).length : Nat) : Int); omega, fun _ => hl0, fun _ => hl0, by have := hxF.d; show (x.data ++ c.data).length ≤ _; rw [List.length_append]; omega⟩ ⟨rfl, rfl, trivial⟩
    · refine os rfl (ex_appendNil (by_ := 1) rfl hD11 rfl rfl Try.underlying22 inf5 rfl (by decide) (by decide) (RdSl.le hxk.1 (hmG.trans (le_at 3 hD11 rfl))) (one_rows encB_one _) (by rw [rows_length encB_len]; omega)) rfl fun v9 m9 ⟨c9, hO9, hm9, hD12⟩ => ⟨fun _ => by subst hm9; exact U_le_tail hD12, ?_⟩
      subst hm9
      refine od_b ?_ ?_
      · refine os rfl (rig_load1 rfl rfl Try.isAgg27 (cell_le (U_le_tail hD12) d1)).ex rfl fun u m7 ⟨hu, hm7⟩ => ⟨fun _ => by subst hm7; exact HpLe.refl _, ?_⟩
        subst hu hm7
        refine os rfl (ex_append 0 (by_ := 1) rfl hD12 rfl rfl Try.underlying22 inf5 rfl (by decide) (by decide) hO9 rfl (RdSl.le hrd ((le_at 3 hD11 rfl).trans (U_le_tail hD12))) (one_rows encB_one _) (by rw [rows_length encB_len, rows_length encB_len]; omega)) rfl fun v10 m10 ⟨c10, hO10, hm10, hD13⟩ => ⟨fun h => by simp at h, ?_⟩
        subst hm10
        rw [← rows_append] at hO10
        obtain ⟨A10, k10, rfl⟩ := hO10.len encB_len (by decide)
        have hk10 := hO10.le_cap
        replace hD13 : Dj [c10, dirB p2 wn (.slice (some ⟨g, 0, none⟩) fs.length kf) wo, Go.Aw.one g (.cells (rows encF fs ++ sp).toArray 61 (0, 0)), nilB p4, G4] := hD13
        show AOrd _ _ _ _ _ _ _ (U [c10, dirB p2 wn (.slice (some ⟨g, 0, none⟩) fs.length kf) wo, Go.Aw.one g (.cells (rows encF fs ++ sp).toArray 61 (0, 0)), nilB p4, G4])
        refine oq rfl (rig_ix i rfl rfl rfl Try.underlying27 Try.sizeOf61 rfl rfl hil) rfl (oq rfl (rig_fieldAddr rfl rfl Try.underlying61 rfl Try.sizeOf22 rfl) rfl ?_)
        have erow : putR (rows encF fs ++ sp).toArray (0 + i * 5 + 1) [.slice A10 (x.data ++ c.data).length k10] = (rows encF (fs.set i ⟨x.ino, A10, (x.data ++ c.data).length, k10, x.data ++ c.data, x.copy, x.whole, x.left⟩) ++ sp).toArray := by
          rw [Nat.zero_add]; exact putR_field encF_len fs i 1 x _ _ sp hx (by decide) rfl
        refine os0 rfl (ex_store (i := 2) rfl hD13 rfl rfl Try.sizeOf22 (by simp [Value.cells, Value.oneCell']) rfl (by simp [Value.cells, rows_length encF_len]; omega)) fun u m8 ⟨_, hm8, hD14⟩ => ⟨fun h => by simp at h, od_fin ?_⟩
        subst hm8
        replace hD14 : Dj [c10, dirB p2 wn (.slice (some ⟨g, 0, none⟩) fs.length kf) wo, Go.Aw.one g (.cells (putR (rows encF fs ++ sp).toArray (0 + i * 5 + 1) [.slice A10 (x.data ++ c.data).length k10]) 61 (0, 0)), nilB p4, G4] := hD14
        show K1 _ (U [c10, dirB p2 wn (.slice (some ⟨g, 0, none⟩) fs.length kf) wo, Go.Aw.one g (.cells (putR (rows encF fs ++ sp).toArray (0 + i * 5 + 1) [.slice A10 (x.data ++ c.data).length k10]) 61 (0, 0)), nilB p4, G4])
        rw [erow] at hD14 ⊢
        have hl0 := hxF.c (hcp (.inl h2))
        have hp : U [c10, dirB p2 wn (.slice (some ⟨g, 0, none⟩) fs.length kf) wo, Go.Aw.one g (.cells (rows encF (fs.set i ⟨x.ino, A10, (x.data ++ c.data).length, k10, x.data ++ c.data, x.copy, x.whole, x.left⟩) ++ sp).toArray 61 (0, 0)), nilB p4, G4] = U [dirB p2 wn (.slice (some ⟨g, 0, none⟩) fs.length kf) wo, Go.Aw.one g (.cells (rows encF (fs.set i ⟨x.ino, A10, (x.data ++ c.data).length, k10, x.data ++ c.data, x.copy, x.whole, x.left⟩) ++ sp).toArray 61 (0, 0)), nilB p4, c10, G4] ∧ Dj [dirB p2 wn (.slice (some ⟨g, 0, none⟩) fs.length kf) wo, Go.Aw.one g (.cells (rows encF (fs.set i ⟨x.ino, A10, (x.data ++ c.data).length, k10, x.data ++ c.data, x.copy, x.whole, x.left⟩) ++ sp).toArray 61 (0, 0)), nilB p4, c10, G4] := U_pm [1, 2, 3, 0, 4] rfl hD14
        have e8 : U [dirB p2 wn (.slice (some ⟨g, 0, none⟩) fs.length kf) wo, Go.Aw.one g (.cells (rows encF (fs.set i ⟨x.ino, A10, (x.data ++ c.data).length, k10, x.data ++ c.data, x.copy, x.whole, x.left⟩) ++ sp).toArray 61 (0, 0)), nilB p4, c10, G4] = U [dirB p2 wn (.slice (some ⟨g, 0, none⟩) fs.length kf) wo, Go.Aw.one g (.cells (rows encF (fs.set i ⟨x.ino, A10, (x.data ++ c.data).length, k10, x.data ++ c.data, x.copy, x.whole, x.left⟩) ++ sp).toArray 61 (0, 0)), nilB p4, U [c10, G4]] := (U_flat [_, _, _] _).symm
        have hd9 : Dj [dirB p2 wn (.slice (some ⟨g, 0, none⟩) fs.length kf) wo, Go.Aw.one g (.cells (rows encF (fs.set i ⟨x.ino, A10, (x.data ++ c.data).length, k10, x.data ++ c.data, x.copy, x.whole, x.left⟩) ++ sp).toArray 61 (0, 0)), nilB p4, U [c10, G4]] := Dj_unflat (A := [_, _, _]) hp.2
        have hdt : Dj [c10, G4] := hp.2.2.2.2
        rw [hp.1, e8]
        exact hput _ g sp _ _ hsp hcap hmax hd9 (le_at 1 hdt rfl) ⟨RdSl.le hO10.rd (le_at 0 hdt rfl), hk10⟩ rfl ⟨hxF.p, by have := hxF.b; show x.ino ≤ _; omega, hxF.l0, by show x.left ≤ (((x.data ++ c.data).length : Nat) : Int); omega, fun _ => hl0, fun _ => hl0, by have := hxF.d; show (x.data ++ c.data).length ≤ _; rw [List.length_append]; omega⟩ ⟨rfl, rfl, trivial⟩
      · refine os rfl (ex_append 0 (by_ := 1) rfl hD12 rfl rfl Try.underlying22 inf5 rfl (by decide) (by decide) hO9 rfl (RdSl.le hrd ((le_at 3 hD11 rfl).trans (U_le_tail hD12))) (one_rows encB_one _) (by rw [rows_length encB_len, rows_length encB_len]; omega)) rfl fun v10 m10 ⟨c10, hO10, hm10, hD13⟩ => ⟨fun h => by simp at h, ?_⟩
        subst hm10
        rw [← rows_append] at hO10
        obtain ⟨A10, k10, rfl⟩ := hO10.len encB_len (by decide)
        have hk10 := hO10.le_cap
        replace hD13 : Dj [c10, dirB p2 wn (.slice (some ⟨g, 0, none⟩) fs.length kf) wo, Go.Aw.one g (.cells (rows encF fs ++ sp).toArray 61 (0, 0)), nilB p4, G4] := hD13
        show AOrd _ _ _ _ _ _ _ (U [c10, dirB p2 wn (.slice (some ⟨g, 0, none⟩) fs.length kf) wo, Go.Aw.one g (.cells (rows encF fs ++ sp).toArray 61 (0, 0)), nilB p4, G4])
        refine os rfl (rig_load1 rfl rfl Try.isAgg27 (dirB_at 1 hD13 rfl).2.1).ex rfl fun u m7 ⟨hu, hm7⟩ => ⟨fun _ => by subst hm7; exact HpLe.refl _, ?_⟩
        subst hu hm7
        refine oq rfl (rig_ix i rfl rfl rfl Try.underlying27 Try.sizeOf61 rfl rfl hil) rfl (oq rfl (rig_fieldAddr rfl rfl Try.underlying61 rfl Try.sizeOf22 rfl) rfl ?_)
        have erow : putR (rows encF fs ++ sp).toArray (0 + i * 5 + 1) [.slice A10 (x.data ++ c.data).length k10] = (rows encF (fs.set i ⟨x.ino, A10, (x.data ++ c.data).length, k10, x.data ++ c.data, x.copy, x.whole, x.left⟩) ++ sp).toArray := by
          rw [Nat.zero_add]; exact putR_field encF_len fs i 1 x _ _ sp hx (by decide) rfl
        refine os0 rfl (ex_store (i := 2) rfl hD13 rfl rfl Try.sizeOf22 (by simp [Value.cells, Value.oneCell']) rfl (by simp [Value.cells, rows_length encF_len]; omega)) fun u m8 ⟨_, hm8, hD14⟩ => ⟨fun h => by simp at h, od_fin ?_⟩
        subst hm8
        replace hD14 : Dj [c10, dirB p2 wn (.slice (some ⟨g, 0, none⟩) fs.length kf) wo, Go.Aw.one g (.cells (putR (rows encF fs ++ sp).toArray (0 + i * 5 + 1) [.slice A10 (x.data ++ c.data).length k10]) 61 (0, 0)), nilB p4, G4] := hD14
        show K1 _ (U [c10, dirB p2 wn (.slice (some ⟨g, 0, none⟩) fs.length kf) wo, Go.Aw.one g (.cells (putR (rows encF fs ++ sp).toArray (0 + i * 5 + 1) [.slice A10 (x.data ++ c.data).length k10]) 61 (0, 0)), nilB p4, G4])
        rw [erow] at hD14 ⊢
        have hl0 := hxF.c (hcp (.inl h2))
        have hp : U [c10, dirB p2 wn (.slice (some ⟨g, 0, none⟩) fs.length kf) wo, Go.Aw.one g (.cells (rows encF (fs.set i ⟨x.ino, A10, (x.data ++ c.data).length, k10, x.data ++ c.data, x.copy, x.whole, x.left⟩) ++ sp).toArray 61 (0, 0)), nilB p4, G4] = U [dirB p2 wn (.slice (some ⟨g, 0, none⟩) fs.length kf) wo, Go.Aw.one g (.cells (rows encF (fs.set i ⟨x.ino, A10, (x.data ++ c.data).length, k10, x.data ++ c.data, x.copy, x.whole, x.left⟩) ++ sp).toArray 61 (0, 0)), nilB p4, c10, G4] ∧ Dj [dirB p2 wn (.slice (some ⟨g, 0, none⟩) fs.length kf) wo, Go.Aw.one g (.cells (rows encF (fs.set i ⟨x.ino, A10, (x.data ++ c.data).length, k10, x.data ++ c.data, x.copy, x.whole, x.left⟩) ++ sp).toArray 61 (0, 0)), nilB p4, c10, G4] := U_pm [1, 2, 3, 0, 4] rfl hD14
        have e8 : U [dirB p2 wn (.slice (some ⟨g, 0, none⟩) fs.length kf) wo, Go.Aw.one g (.cells (rows encF (fs.set i ⟨x.ino, A10, (x.data ++ c.data).length, k10, x.data ++ c.data, x.copy, x.whole, x.left⟩) ++ sp).toArray 61 (0, 0)), nilB p4, c10, G4] = U [dirB p2 wn (.slice (some ⟨g, 0, none⟩) fs.length kf) wo, Go.Aw.one g (.cells (rows encF (fs.set i ⟨x.ino, A10, (x.data ++ c.data).length, k10, x.data ++ c.data, x.copy, x.whole, x.left⟩) ++ sp).toArray 61 (0, 0)), nilB p4, U [c10, G4]] := (U_flat [_, _, _] _).symm
        have hd9 : Dj [dirB p2 wn (.slice (some ⟨g, 0, none⟩) fs.length kf) wo, Go.Aw.one g (.cells (rows encF (fs.set i ⟨x.ino, A10, (x.data ++ c.data).length, k10, x.data ++ c.data, x.copy, x.whole, x.left⟩) ++ sp).toArray 61 (0, 0)), nilB p4, U [c10, G4]] := Dj_unflat (A := [_, _, _]) hp.2
        have hdt : Dj [c10, G4] := hp.2.2.2.2
        rw [hp.1, e8]
        exact hput _ g sp _ _ hsp hcap hmax hd9 (le_at 1 hdt rfl) ⟨RdSl.le hO10.rd (le_at 0 hdt rfl), hk10⟩ rfl ⟨hxF.p, by have := hxF.b; show x.ino ≤ _; omega, hxF.l0, by show x.left ≤ (((x.data ++ c.data).length : Nat) : Int); omega, fun _ => hl0, fun _ => hl0, by have := hxF.d; show (x.data ++ c.data).length ≤ _; rw [List.length_append]; omega⟩ ⟨rfl, rfl, trivial⟩
  refine awp_rs (ao_r (rig_eql rfl rfl rfl) rfl (ao_r (rig_assign rfl rfl) rfl (ao_nil ?_)))
  refine awp_if rfl (fun h3 => ?_) (fun h3 => ?_)
  · -- Truncate
    obtain ⟨g, sp, rfl, rfl, hsp, hcap, hmax⟩ := hsome
    obtain ⟨d0, d1, d2, _⟩ := dirB_at 0 hD11 rfl
    obtain ⟨bx, ox, cx, ex, hxc⟩ := RdSl.get_ encF_len (by decide) (RdSl.le hrdf (le_at 1 hD11 rfl)) hx
    simp only [Value.slice.injEq, Option.some.injEq, Addr.mk.injEq, and_true, true_and] at ex
    obtain ⟨⟨rfl, rfl⟩, rfl⟩ := ex
    obtain ⟨x0, x1, x2, x3, x4, _⟩ := id hxc
    have hlen5 : i * 5 + 5 ≤ fs.length * 5 := by omega
    refine awp_region ?_
    refine ao_r (rig_fieldAddr rfl rfl Try.underlying30 rfl Try.sizeOf27 rfl) rfl (ao_r (rig_load1 rfl rfl Try.isAgg27 d1) rfl (ao_r (rig_move rfl rfl) rfl (ao_r (rig_ix i rfl rfl rfl Try.underlying27 Try.sizeOf61 rfl rfl hil) rfl (ao_r (rig_fieldAddr rfl rfl Try.underlying61 rfl Try.sizeOf22 rfl) rfl ?_))))
    have erow : putR (rows encF fs ++ sp).toArray (0 + i * 5 + 1) [.slice none 0 0] = (rows encF (fs.set i ⟨x.ino, none, 0, 0, [], x.copy, x.whole, x.left⟩) ++ sp).toArray := by
      rw [Nat.zero_add]; exact putR_field encF_len fs i 1 x _ _ sp hx (by decide) rfl
    refine ao_x0 (ex_store (i := 1) rfl hD11 rfl rfl Try.sizeOf22 (by simp [Value.cells, Value.oneCell']) rfl (by simp [Value.cells, rows_length encF_len]; omega)) fun u m8 ⟨_, hm8, hD12⟩ => ao_nil ?_
    subst hm8
    replace hD12 : Dj [dirB p2 wn (.slice (some ⟨g, 0, none⟩) fs.length kf) wo, Go.Aw.one g (.cells (putR (rows encF fs ++ sp).toArray (0 + i * 5 + 1) [.slice none 0 0]) 61 (0, 0)), nilB p4, G4] := hD12
    show K1 _ (U [dirB p2 wn (.slice (some ⟨g, 0, none⟩) fs.length kf) wo, Go.Aw.one g (.cells (putR (rows encF fs ++ sp).toArray (0 + i * 5 + 1) [.slice none 0 0]) 61 (0, 0)), nilB p4, G4])
    rw [erow] at hD12 ⊢
    have hl0 := hxF.c (hcp (.inr h3))
    exact hput _ g sp _ G4 hsp hcap hmax hD12 (HpLe.refl _) ⟨⟨none, 0, 0, rfl, rfl, .inl rfl⟩, Nat.le_refl _⟩ rfl ⟨hxF.p, by have := hxF.b; show x.ino ≤ _; omega, hxF.l0, by show x.left ≤ ((0 : Nat) : Int); omega, fun _ => hl0, fun _ => hl0, Nat.zero_le _⟩ ⟨rfl, rfl, trivial⟩
  refine awp_rs (ao_r (rig_eql rfl rfl rfl) rfl (ao_r (rig_assign rfl rfl) rfl (ao_nil ?_)))
  refine awp_if rfl (fun h4 => ?_) (fun h4 => ?_)
  · -- Rename
    have c1U := cell_le (le_at 3 hD11 rfl) c1
    have c2U := cell_le (le_at 3 hD11 rfl) c2
    refine awp_draw (.q 0 (.q 1 (.q 2 (.q 4 (.q 5 (.q 6 (.s 3 (.s 7 (.s 8 .fin))))))))) [8] (by kernel_rfl) (by kernel_rfl) ?_
    refine oq rfl (rig_loadN (vs := [_, _, _]) rfl rfl Try.isAgg30 Try.sizeOf30 (dirB_at 0 hD11 rfl)) rfl (oq rfl (rig_fieldAddr rfl rfl Try.underlying37 rfl Try.sizeOf9 rfl) rfl (oq rfl (rig_load1 rfl rfl Try.isAgg9 c1U) rfl (oq rfl (rig_fieldAddr rfl rfl Try.underlying37 rfl Try.sizeOf9 rfl) rfl (oq rfl (rig_load1 rfl rfl Try.isAgg9 c2U) rfl (oq rfl (rig_move rfl rfl) rfl ?_)))))
    refine os rfl (ex_call rfl rfl e25 (F25 _ wn (.slice Af fs.length kf) wo ns c.name (RdSl.le hrn (le_at 3 hD11 rfl)) w2 w3 (by omega))) rfl fun u m6 ⟨vn2, c6, G6, hu, hm6, hd6, hG6, hO6⟩ => ⟨fun _ => by subst hm6; exact hG6.trans (le_at 1 hd6 rfl), ?_⟩
    subst hu hm6
    have hfl := List.length_filter_le (fun y => !nameIs c.name y) ns
    refine os rfl (ex_call rfl rfl e23 (F23 _ vn2 (.slice Af fs.length kf) wo _ ⟨c.to, lkI ns c.name⟩ (RdSl.le hO6.rd (le_at 0 hd6 rfl)) w2 w3 (by omega))) rfl fun u m8 ⟨vn3, nout, cn, G8, hu, hm8, hd8, hG8, hn8, hnm, hnl⟩ => ⟨fun _ => by subst hm8; exact hG8.trans (le_at 1 hd8 rfl), ?_⟩
    subst hu hm8
    obtain ⟨G7, e9, hd9, hfin⟩ := hnames cn G8 vn3 nout hd8 ((hG6.trans (le_at 1 hd6 rfl)).trans hG8) hn8 (fun n hn => by
      rcases hnm n hn with h | rfl
      · exact hi.nam n (List.mem_filter.1 h).1
      · exact ⟨x, hxm, hxi⟩) (by omega)
    rw [e9]
    refine os0 rfl (ex_store (i := 0) rfl hd9 rfl rfl Try.sizeOf30 (three_one hn8.one_ w2 w3) rfl (Nat.le_refl 3)) fun u m10 ⟨_, hm10, hd10⟩ => ⟨fun h => by simp at h, od_fin ?_⟩
    subst hm10
    exact hfin _ hd10 ⟨rfl, rfl, trivial⟩
  refine awp_rs (ao_r (rig_eql rfl rfl rfl) rfl (ao_r (rig_assign rfl rfl) rfl (ao_nil ?_)))
  refine awp_if rfl (fun h5 => ?_) (fun h5 => ?_)
  · -- StartCopy
    refine awp_rs (ao_r (rig_loadN (vs := [_, _, _]) rfl rfl Try.isAgg30 Try.sizeOf30 (dirB_at 0 hD11 rfl)) rfl ?_)
    refine ao_x (ex_call rfl rfl e22 (F22 _ wn _ wo fs (RdSl.le hrdf (le_at 1 hD11 rfl)) (by omega) B (fun f hf => (hi.ok f hf).b) (by omega))) rfl fun u m3 ⟨n, hu, hm3, hn1, hnB, hnf⟩ => ao_r (rig_assign rfl rfl) rfl (ao_nil ?_)
    subst hu
    obtain ⟨Gx, hGx, hDx, rfl⟩ := grow_to (cs := [dirB p2 wn (.slice Af fs.length kf) wo, cf, nilB p4]) hD11 hm3
    replace hDx : Dj [dirB p2 wn (.slice Af fs.length kf) wo, cf, nilB p4, Gx] := hDx
    show AWp _ _ _ _ _ (U [dirB p2 wn (.slice Af fs.length kf) wo, cf, nilB p4, Gx])
    obtain ⟨d0, d1, d2, _⟩ := dirB_at 0 hDx rfl
    obtain ⟨bx, ox, cx, ex, hxc⟩ := RdSl.get_ encF_len (by decide) (RdSl.le hrdf (le_at 1 hDx rfl)) hx
    simp only [Value.slice.injEq] at ex
    obtain ⟨rfl, _, rfl⟩ := ex
    obtain ⟨x0, x1, x2, x3, x4, _⟩ := id hxc
    have hxd := hxF.d
    refine awp_rs ?_
    refine ao_r (rig_fieldAddr rfl rfl Try.underlying30 rfl Try.sizeOf27 rfl) rfl (ao_r (rig_load1 rfl rfl Try.isAgg27 d1) rfl (ao_r (rig_move rfl rfl) rfl (ao_r (rig_ix i rfl rfl rfl Try.underlying27 Try.sizeOf61 rfl rfl hil) rfl (ao_r (rig_fieldAddr rfl rfl Try.underlying61 rfl Try.sizeOf22 rfl) rfl (ao_r (rig_load1 rfl rfl Try.isAgg22 x1) rfl ?_)))))
    refine ao_x (ex_appendNil (by_ := 1) rfl hDx rfl rfl Try.underlying22 inf5 rfl (by decide) (by decide) (RdSl.le hxk.1 ((hmG.trans hGx).trans (le_at 3 hDx rfl))) (one_rows encB_one _) (by rw [rows_length encB_len]; omega)) rfl fun v13 m13 ⟨c13, hO13, hm13, hD14⟩ => ao_r (rig_assign rfl rfl) rfl (ao_nil ?_)
    subst hm13
    obtain ⟨A13, k13, rfl⟩ := hO13.len encB_len (by decide)
    have hk13 := hO13.le_cap
    replace hD14 : Dj [c13, dirB p2 wn (.slice (some ⟨bx, ox, none⟩) fs.length kf) wo, cf, nilB p4, Gx] := hD14
    have hpx : U [c13, dirB p2 wn (.slice (some ⟨bx, ox, none⟩) fs.length kf) wo, cf, nilB p4, Gx] = U [dirB p2 wn (.slice (some ⟨bx, ox, none⟩) fs.length kf) wo, cf, nilB p4, c13, Gx] ∧ Dj [dirB p2 wn (.slice (some ⟨bx, ox, none⟩) fs.length kf) wo, cf, nilB p4, c13, Gx] := U_pm [1, 2, 3, 0, 4] rfl hD14
    have ex8 : U [dirB p2 wn (.slice (some ⟨bx, ox, none⟩) fs.length kf) wo, cf, nilB p4, c13, Gx] = U [dirB p2 wn (.slice (some ⟨bx, ox, none⟩) fs.length kf) wo, cf, nilB p4, U [c13, Gx]] := (U_flat [_, _, _] _).symm
    have hD12 : Dj [dirB p2 wn (.slice (some ⟨bx, ox, none⟩) fs.length kf) wo, cf, nilB p4, U [c13, Gx]] := Dj_unflat (A := [_, _, _]) hpx.2
    have hdx : Dj [c13, Gx] := hpx.2.2.2.2
    have hrd13 := RdSl.le hO13.rd (le_at 0 hdx rfl)
    have hG5 : HpLe G4 (U [c13, Gx]) := hGx.trans (le_at 1 hdx rfl)
    show AWp _ _ _ _ _ (U [c13, dirB p2 wn (.slice (some ⟨bx, ox, none⟩) fs.length kf) wo, cf, nilB p4, Gx])
    rw [hpx.1, ex8]
    generalize U [c13, Gx] = G5 at hD12 hrd13 hG5
    clear ex8 hpx hD14 hdx hDx hGx d0 d1 d2 x0 x1 x2 x3 x4 hxc
    have hp : U [dirB p2 wn (.slice (some ⟨bx, ox, none⟩) fs.length kf) wo, cf, nilB p4, G5] = U [cf, dirB p2 wn (.slice (some ⟨bx, ox, none⟩) fs.length kf) wo, nilB p4, G5] ∧ Dj [cf, dirB p2 wn (.slice (some ⟨bx, ox, none⟩) fs.length kf) wo, nilB p4, G5] := U_pm [1, 0, 2, 3] rfl hD12
    have e13 : U [cf, dirB p2 wn (.slice (some ⟨bx, ox, none⟩) fs.length kf) wo, nilB p4, G5] = U [cf, U [dirB p2 wn (.slice (some ⟨bx, ox, none⟩) fs.length kf) wo, nilB p4, G5]] := (U_flat [_] _).symm
    have hD13 : Dj [cf, U [dirB p2 wn (.slice (some ⟨bx, ox, none⟩) fs.length kf) wo, nilB p4, G5]] := Dj_unflat (A := [_]) hp.2
    have hDF : Dj [dirB p2 wn (.slice (some ⟨bx, ox, none⟩) fs.length kf) wo, nilB p4, G5] := hp.2.2
    show AWp _ _ _ _ _ (U [dirB p2 wn (.slice (some ⟨bx, ox, none⟩) fs.length kf) wo, cf, nilB p4, G5])
    rw [hp.1, e13]
    have hFU : HpLe (U [dirB p2 wn (.slice (some ⟨bx, ox, none⟩) fs.length kf) wo, nilB p4, G5]) (U [cf, U [dirB p2 wn (.slice (some ⟨bx, ox, none⟩) fs.length kf) wo, nilB p4, G5]]) := le_at 1 hD13 rfl
    have c2F := cell_le (hG5.trans (le_at 2 hDF rfl)) c2
    have hxo : Fl.Ok G5 ⟨n, A13, x.data.length, k13, x.data, true, false, x.data.length⟩ := ⟨hrd13, hk13⟩
    have hxf : FOk (B + c.data.length + 1) ⟨n, A13, x.data.length, k13, x.data, true, false, x.data.length⟩ := ⟨by show (1 : Int) ≤ (n : Int); omega, by show (n : Int) ≤ _; omega, by show (0 : Int) ≤ (x.data.length : Int); omega, Int.le_refl _, fun h => (by cases h), fun h => (by cases h), by have := hxF.d; show x.data.length ≤ _; omega⟩
    refine awp_draw (.q 0 (.q 1 (.q 2 (.q 3 (.q 4 (.q 5 (.p 7 (.p 9 (.b 6 (.q 8 (.s 10 (.s 11 .fin))) 8 (.s 6 (.s 10 (.s 11 .fin)))))))))))) [6, 11] (by kernel_rfl) (by kernel_rfl) ?_
    refine oq rfl (rig_loadN (vs := [_, _, _]) rfl rfl Try.isAgg30 Try.sizeOf30 ((dirB_at 0 hDF rfl).le hFU)) rfl (oq rfl (rig_move rfl rfl) rfl (oq rfl (rig_move rfl rfl) rfl (oq rfl (rig_move rfl rfl) rfl (oq rfl (rig_lenSl rfl rfl Try.underlying22) rfl (oq rfl (rig_build (pl := #[(0, 1), (1, 1), (2, 1), (3, 1), (4, 1)]) (cs := (encF ⟨n, A13, x.data.length, k13, x.data, true, false, x.data.length⟩).toArray) rfl rfl Try.underlying61 Try.zeroValue61 (fun w => by kernel_rfl) rfl) rfl ?_)))))
    refine opu rfl (rig_fieldAddr rfl rfl Try.underlying37 rfl Try.sizeOf9 rfl) rfl (opu rfl (rig_move rfl rfl) rfl (od_b ?_ ?_))
    · refine os rfl (ex_call rfl rfl e24 (F24 cf _ wn (.slice (some ⟨bx, ox, none⟩) fs.length kf) wo fs ⟨n, A13, x.data.length, k13, x.data, true, false, x.data.length⟩ hO hD13 w1 w3 (by omega))) rfl fun u m6 ⟨vf2, out, cf2, F2, hu, hm6, hd6, hF2, ho2, hput⟩ => ⟨fun h => by simp at h, ?_⟩
      subst hu hm6
      obtain ⟨G6, hG6, hdF2, rfl⟩ := grow_to (cs := [dirB p2 wn (.slice (some ⟨bx, ox, none⟩) fs.length kf) wo, nilB p4]) hDF hF2
      replace hdF2 : Dj [dirB p2 wn (.slice (some ⟨bx, ox, none⟩) fs.length kf) wo, nilB p4, G6] := hdF2
      replace hd6 : Dj [cf2, U [dirB p2 wn (.slice (some ⟨bx, ox, none⟩) fs.length kf) wo, nilB p4, G6]] := hd6
      have hd7 : Dj [cf2, dirB p2 wn (.slice (some ⟨bx, ox, none⟩) fs.length kf) wo, nilB p4, G6] := Dj_flat (A := [cf2]) hd6 hdF2
      have hFU2 : HpLe (U [dirB p2 wn (.slice (some ⟨bx, ox, none⟩) fs.length kf) wo, nilB p4, G6]) (U [cf2, U [dirB p2 wn (.slice (some ⟨bx, ox, none⟩) fs.length kf) wo, nilB p4, G6]]) := le_at 1 hd6 rfl
      have hGU2 : HpLe G6 (U [cf2, U [dirB p2 wn (.slice (some ⟨bx, ox, none⟩) fs.length kf) wo, nilB p4, G6]]) := (le_at 2 hdF2 rfl).trans hFU2
      show AOrd _ _ _ _ _ _ _ (U [cf2, U [dirB p2 wn (.slice (some ⟨bx, ox, none⟩) fs.length kf) wo, nilB p4, G6]])
      refine oq rfl (rig_load1 rfl rfl Try.isAgg9 (cell_le (hF2.trans hFU2) c2F)) rfl ?_
      refine os rfl (ex_call rfl rfl e23 (F23 _ wn vf2 wo ns ⟨c.to, n⟩ (RdSl.le hrn ((hG5.trans hG6).trans hGU2)) ho2.one_ w3 (by omega))) rfl fun u m8 ⟨vn3, nout, cn, G8, hu, hm8, hd8, hG8, hn8, hnm, hnl⟩ => ⟨fun _ => by subst hm8; exact hG8.trans (le_at 1 hd8 rfl), ?_⟩
      subst hu hm8
      rw [show U [cf2, U [dirB p2 wn (.slice (some ⟨bx, ox, none⟩) fs.length kf) wo, nilB p4, G6]] = U [cf2, dirB p2 wn (.slice (some ⟨bx, ox, none⟩) fs.length kf) wo, nilB p4, G6] from U_flat [cf2] _] at hG8
      obtain ⟨G7, e9, hd9, hfin⟩ := hlink vf2 out cf2 cn G6 G8 vn3 ⟨n, A13, x.data.length, k13, x.data, true, false, x.data.length⟩ c.to nout hd7 hd8 (hG5.trans hG6) hG8 ho2 hn8 (hxo.le hG6) hxf hnf hput hnm hnl
      rw [e9]
      refine os0 rfl (ex_store (i := 0) rfl hd9 rfl rfl Try.sizeOf30 (three_one hn8.one_ ho2.one_ w3) rfl (Nat.le_refl 3)) fun u m10 ⟨_, hm10, hd10⟩ => ⟨fun h => by simp at h, od_fin ?_⟩
      subst hm10
      exact hfin _ hd10 ⟨rfl, rfl, trivial⟩
    · refine os rfl (rig_load1 rfl rfl Try.isAgg9 (cell_le hFU c2F)).ex rfl fun u m6 ⟨hu, hm6⟩ => ⟨fun _ => by subst hm6; exact HpLe.refl _, ?_⟩
      subst hu hm6
      refine os rfl (ex_call rfl rfl e24 (F24 cf _ wn (.slice (some ⟨bx, ox, none⟩) fs.length kf) wo fs ⟨n, A13, x.data.length, k13, x.data, true, false, x.data.length⟩ hO hD13 w1 w3 (by omega))) rfl fun u m6 ⟨vf2, out, cf2, F2, hu, hm6, hd6, hF2, ho2, hput⟩ => ⟨fun h => by simp at h, ?_⟩
      subst hu hm6
      obtain ⟨G6, hG6, hdF2, rfl⟩ := grow_to (cs := [dirB p2 wn (.slice (some ⟨bx, ox, none⟩) fs.length kf) wo, nilB p4]) hDF hF2
      replace hdF2 : Dj [dirB p2 wn (.slice (some ⟨bx, ox, none⟩) fs.length kf) wo, nilB p4, G6] := hdF2
      replace hd6 : Dj [cf2, U [dirB p2 wn (.slice (some ⟨bx, ox, none⟩) fs.length kf) wo, nilB p4, G6]] := hd6
      have hd7 : Dj [cf2, dirB p2 wn (.slice (some ⟨bx, ox, none⟩) fs.length kf) wo, nilB p4, G6] := Dj_flat (A := [cf2]) hd6 hdF2
      have hFU2 : HpLe (U [dirB p2 wn (.slice (some ⟨bx, ox, none⟩) fs.length kf) wo, nilB p4, G6]) (U [cf2, U [dirB p2 wn (.slice (some ⟨bx, ox, none⟩) fs.length kf) wo, nilB p4, G6]]) := le_at 1 hd6 rfl
      have hGU2 : HpLe G6 (U [cf2, U [dirB p2 wn (.slice (some ⟨bx, ox, none⟩) fs.length kf) wo, nilB p4, G6]]) := (le_at 2 hdF2 rfl).trans hFU2
      show AOrd _ _ _ _ _ _ _ (U [cf2, U [dirB p2 wn (.slice (some ⟨bx, ox, none⟩) fs.length kf) wo, nilB p4, G6]])
      refine os rfl (ex_call rfl rfl e23 (F23 _ wn vf2 wo ns ⟨c.to, n⟩ (RdSl.le hrn ((hG5.trans hG6).trans hGU2)) ho2.one_ w3 (by omega))) rfl fun u m8 ⟨vn3, nout, cn, G8, hu, hm8, hd8, hG8, hn8, hnm, hnl⟩ => ⟨fun _ => by subst hm8; exact hG8.trans (le_at 1 hd8 rfl), ?_⟩
      subst hu hm8
      rw [show U [cf2, U [dirB p2 wn (.slice (some ⟨bx, ox, none⟩) fs.length kf) wo, nilB p4, G6]] = U [cf2, dirB p2 wn (.slice (some ⟨bx, ox, none⟩) fs.length kf) wo, nilB p4, G6] from U_flat [cf2] _] at hG8
      obtain ⟨G7, e9, hd9, hfin⟩ := hlink vf2 out cf2 cn G6 G8 vn3 ⟨n, A13, x.data.length, k13, x.data, true, false, x.data.length⟩ c.to nout hd7 hd8 (hG5.trans hG6) hG8 ho2 hn8 (hxo.le hG6) hxf hnf hput hnm hnl
      rw [e9]
      refine os0 rfl (ex_store (i := 0) rfl hd9 rfl rfl Try.sizeOf30 (three_one hn8.one_ ho2.one_ w3) rfl (Nat.le_refl 3)) fun u m10 ⟨_, hm10, hd10⟩ => ⟨fun h => by simp at h, od_fin ?_⟩
      subst hm10
      exact hfin _ hd10 ⟨rfl, rfl, trivial⟩
  refine awp_rs (ao_r (rig_eql rfl rfl rfl) rfl (ao_r (rig_assign rfl rfl) rfl (ao_nil ?_)))
  refine awp_if rfl (fun h6 => ?_) (fun h6 => ?_)
  · -- CopyMore
    obtain ⟨g, sp, rfl, rfl, hsp, hcap, hmax⟩ := hsome
    obtain ⟨d0, d1, d2, _⟩ := dirB_at 0 hD11 rfl
    obtain ⟨bx, ox, cx, ex, hxc⟩ := RdSl.get_ encF_len (by decide) (RdSl.le hrdf (le_at 1 hD11 rfl)) hx
    simp only [Value.slice.injEq, Option.some.injEq, Addr.mk.injEq, and_true, true_and] at ex
    obtain ⟨⟨rfl, rfl⟩, rfl⟩ := ex
    obtain ⟨x0, x1, x2, x3, x4, _⟩ := id hxc
    have hlen5 : i * 5 + 5 ≤ fs.length * 5 := by omega
    have hN := hN1 h6
    have c4U := cell_le (le_at 3 hD11 rfl) c4
    have hl0 := hxF.l0
    have hl1 := hxF.l1
    have hxd := hxF.d
    refine awp_ds (.q 0 (.q 1 (.q 2 (.q 3 (.q 4 (.q 5 (.q 6 (.q 7 (.q 8 (.q 9 (.q 10 (.q 11 (.q 12 (.q 13 (.q 14 (.q 15 (.q 16 (.q 17 (.s 18 .fin))))))))))))))))))) [18] (by kernel_rfl) (by kernel_rfl) ?_
    refine oq rfl (rig_fieldAddr rfl rfl Try.underlying30 rfl Try.sizeOf27 rfl) rfl (oq rfl (rig_load1 rfl rfl Try.isAgg27 d1) rfl (oq rfl (rig_move rfl rfl) rfl (oq rfl (rig_ix i rfl rfl rfl Try.underlying27 Try.sizeOf61 rfl rfl hil) rfl (oq rfl (rig_fieldAddr rfl rfl Try.underlying61 rfl Try.sizeOf3 rfl) rfl (oq rfl (rig_load1 rfl rfl Try.isAgg3 x4) rfl (oq rfl (rig_fieldAddr rfl rfl Try.underlying37 rfl Try.sizeOf3 rfl) rfl (oq rfl (rig_load1 rfl rfl Try.isAgg3 c4U) rfl ?_)))))))
    refine oq rfl (rig_fieldAddr rfl rfl Try.underlying30 rfl Try.sizeOf27 rfl) rfl (oq rfl (rig_load1 rfl rfl Try.isAgg27 d1) rfl (oq rfl (rig_move rfl rfl) rfl (oq rfl (rig_ix i rfl rfl rfl Try.underlying27 Try.sizeOf61 rfl rfl hil) rfl (oq rfl (rig_fieldAddr rfl rfl Try.underlying61 rfl Try.sizeOf3 rfl) rfl (oq rfl (rig_load1 rfl rfl Try.isAgg3 x4) rfl (oq rfl (rig_min rfl rfl rfl) rfl ?_))))))
    obtain ⟨L, hL⟩ : ∃ L, L = x.left - (if x.left < c.N then x.left else c.N) := ⟨_, rfl⟩
    have hL1 : 0 ≤ L ∧ L ≤ x.left ∧ (x.left = 0 → L = 0) := by
      rw [hL]; split <;> omega
    refine oq rfl (rig_sub (c := L) rfl rfl rfl (by rw [← hL]; exact w64 _ (by omega) (by omega))) rfl (oq rfl (rig_ix i rfl rfl rfl Try.underlying27 Try.sizeOf61 rfl rfl hil) rfl (oq rfl (rig_fieldAddr rfl rfl Try.underlying61 rfl Try.sizeOf3 rfl) rfl ?_))
    have erow : putR (rows encF fs ++ sp).toArray (0 + i * 5 + 4) [.int .i64 L] = (rows encF (fs.set i ⟨x.ino, x.A, x.n, x.cap, x.data, x.copy, x.whole, L⟩) ++ sp).toArray := by
      rw [Nat.zero_add]; exact putR_field encF_len fs i 4 x _ _ sp hx (by decide) rfl
    refine os0 rfl (ex_store (i := 1) rfl hD11 rfl rfl Try.sizeOf3 (by simp [Value.cells, Value.oneCell']) rfl (by simp [Value.cells, rows_length encF_len]; omega)) fun u m8 ⟨_, hm8, hD12⟩ => ⟨fun h => by simp at h, od_fin ?_⟩
    subst hm8
    replace hD12 : Dj [dirB p2 wn (.slice (some ⟨g, 0, none⟩) fs.length kf) wo, Go.Aw.one g (.cells (putR (rows encF fs ++ sp).toArray (0 + i * 5 + 4) [.int .i64 L]) 61 (0, 0)), nilB p4, G4] := hD12
    show AWp _ _ _ _ _ (U [dirB p2 wn (.slice (some ⟨g, 0, none⟩) fs.length kf) wo, Go.Aw.one g (.cells (putR (rows encF fs ++ sp).toArray (0 + i * 5 + 4) [.int .i64 L]) 61 (0, 0)), nilB p4, G4])
    rw [erow] at hD12 ⊢
    clear erow d0 d1 d2 x0 x1 x2 x3 x4 hxc
    have hx1 : (fs.set i ⟨x.ino, x.A, x.n, x.cap, x.data, x.copy, x.whole, L⟩)[i]? = some ⟨x.ino, x.A, x.n, x.cap, x.data, x.copy, x.whole, L⟩ := List.getElem?_set_self hil
    have hO1 := Own.mk_ (E := 61) (g := g) (cap := kf) (sp := sp) (l := fs.set i ⟨x.ino, x.A, x.n, x.cap, x.data, x.copy, x.whole, L⟩) encF_len (by rw [List.length_append, rows_length encF_len] at hsp ⊢; rw [List.length_set]; exact hsp) (by rw [List.length_set]; exact hcap) hmax
    obtain ⟨d0, d1, d2, _⟩ := dirB_at 0 hD12 rfl
    obtain ⟨bx, ox, cx, ex, hxc⟩ := RdSl.get_ encF_len (by decide) (RdSl.le hO1.rd (le_at 1 hD12 rfl)) hx1
    simp only [Value.slice.injEq, Option.some.injEq, Addr.mk.injEq, and_true, true_and] at ex
    obtain ⟨⟨rfl, rfl⟩, rfl⟩ := ex
    obtain ⟨x0, x1, x2, x3, x4, _⟩ := id hxc
    refine awp_draw (.q 0 (.q 1 (.q 2 (.q 3 (.q 4 (.q 5 (.q 6 (.q 7 (.q 8 (.q 9 (.q 10 (.q 11 (.s 12 .fin))))))))))))) [12] (by kernel_rfl) (by kernel_rfl) ?_
    refine oq rfl (rig_fieldAddr rfl rfl Try.underlying30 rfl Try.sizeOf27 rfl) rfl (oq rfl (rig_load1 rfl rfl Try.isAgg27 d1) rfl (oq rfl (rig_move rfl rfl) rfl (oq rfl (rig_fieldAddr rfl rfl Try.underlying30 rfl Try.sizeOf27 rfl) rfl (oq rfl (rig_load1 rfl rfl Try.isAgg27 d1) rfl (oq rfl (rig_move rfl rfl) rfl (oq rfl (rig_ix i rfl rfl rfl Try.underlying27 Try.sizeOf61 rfl rfl hil) rfl (oq rfl (rig_fieldAddr rfl rfl Try.underlying61 rfl Try.sizeOf3 rfl) rfl (oq rfl (rig_load1 rfl rfl Try.isAgg3 x4) rfl (oq rfl (rig_eql rfl rfl rfl) rfl ?_)))))))))
    refine oq rfl (rig_ix i rfl rfl rfl Try.underlying27 Try.sizeOf61 rfl rfl hil) rfl (oq rfl (rig_fieldAddr rfl rfl Try.underlying61 rfl Try.sizeOf4 rfl) rfl ?_)
    have erow : putR (rows encF (fs.set i ⟨x.ino, x.A, x.n, x.cap, x.data, x.copy, x.whole, L⟩) ++ sp).toArray (0 + i * 5 + 3) [.bool (decide (L = 0))] = (rows encF (fs.set i ⟨x.ino, x.A, x.n, x.cap, x.data, x.copy, decide (L = 0), L⟩) ++ sp).toArray := by
      rw [Nat.zero_add, putR_field encF_len (fs.set i ⟨x.ino, x.A, x.n, x.cap, x.data, x.copy, x.whole, L⟩) i 3 ⟨x.ino, x.A, x.n, x.cap, x.data, x.copy, x.whole, L⟩ ⟨x.ino, x.A, x.n, x.cap, x.data, x.copy, decide (L = 0), L⟩ _ sp hx1 (by decide) rfl, List.set_set]
    refine os0 rfl (ex_store (i := 1) rfl hD12 rfl rfl Try.sizeOf4 (by simp [Value.cells, Value.oneCell']) rfl (by simp [Value.cells, rows_length encF_len]; omega)) fun u m8 ⟨_, hm8, hD13⟩ => ⟨fun h => by simp at h, od_fin ?_⟩
    subst hm8
    replace hD13 : Dj [dirB p2 wn (.slice (some ⟨g, 0, none⟩) fs.length kf) wo, Go.Aw.one g (.cells (putR (rows encF (fs.set i ⟨x.ino, x.A, x.n, x.cap, x.data, x.copy, x.whole, L⟩) ++ sp).toArray (0 + i * 5 + 3) [.bool (decide (L = 0))]) 61 (0, 0)), nilB p4, G4] := hD13
    show K1 _ (U [dirB p2 wn (.slice (some ⟨g, 0, none⟩) fs.length kf) wo, Go.Aw.one g (.cells (putR (rows encF (fs.set i ⟨x.ino, x.A, x.n, x.cap, x.data, x.copy, x.whole, L⟩) ++ sp).toArray (0 + i * 5 + 3) [.bool (decide (L = 0))]) 61 (0, 0)), nilB p4, G4])
    rw [erow] at hD13 ⊢
    exact hput _ g sp ⟨x.ino, x.A, x.n, x.cap, x.data, x.copy, decide (L = 0), L⟩ G4 hsp hcap hmax hD13 (HpLe.refl _) ⟨RdSl.le hxk.1 hmG, hxk.2⟩ rfl ⟨hxF.p, by have := hxF.b; show x.ino ≤ _; omega, hL1.1, by show L ≤ (x.data.length : Int); omega, fun h => hL1.2.2 (hxF.c h), fun h => of_decide_eq_true h, by show x.data.length ≤ _; omega⟩ ⟨rfl, rfl, trivial⟩
  refine awp_rs (ao_r (rig_eql rfl rfl rfl) rfl (ao_r (rig_assign rfl rfl) rfl (ao_nil ?_)))
  refine awp_if rfl (fun h7 => ?_) (fun h7 => by omega)
  -- Remove
  have c1U := cell_le (le_at 3 hD11 rfl) c1
  refine awp_region ?_
  refine ao_r (rig_loadN (vs := [_, _, _]) rfl rfl Try.isAgg30 Try.sizeOf30 (dirB_at 0 hD11 rfl)) rfl (ao_r (rig_fieldAddr rfl rfl Try.underlying37 rfl Try.sizeOf9 rfl) rfl (ao_r (rig_load1 rfl rfl Try.isAgg9 c1U) rfl ?_))
  refine ao_x (ex_call rfl rfl e25 (F25 _ wn (.slice Af fs.length kf) wo ns c.name (RdSl.le hrn (le_at 3 hD11 rfl)) w2 w3 (by omega))) rfl fun u m6 ⟨vn2, c6, G6, hu, hm6, hd6, hG6, hO6⟩ => ?_
  subst hu hm6
  have hfl := List.length_filter_le (fun y => !nameIs c.name y) ns
  obtain ⟨G7, e9, hd9, hfin⟩ := hnames c6 G6 vn2 _ hd6 hG6 hO6.rd (fun n hn => hi.nam n (List.mem_filter.1 hn).1) (by omega)
  rw [e9]
  refine ao_x0 (ex_store (i := 0) rfl hd9 rfl rfl Try.sizeOf30 (three_one hO6.one_ w2 w3) rfl (Nat.le_refl 3)) fun u m10 ⟨_, hm10, hd10⟩ => ao_nil ?_
  subst hm10
  exact hfin _ hd10 ⟨rfl, rfl, trivial⟩
end Go.Proofs.Ytbonkkbpjlikjaa
/- Chapter 7, the reference: Hold, New. -/
set_option linter.unusedVariables false
set_option linter.unusedSimpArgs false
namespace Go.Proofs.Ytbonkkbpjlikjaa
open Go Go.Aw Go.RowKit
theorem e6 : Enters Try.prog 6 := enters_of Try.func6 (by kernel_rfl) rfl
set_option maxRecDepth 100000 in
theorem F6 (m : Hp) : GC Try.prog 6 #[] m (fun u m' => u = .agg #[.slice none 0 0, .slice none 0 0, .slice none 0 0] ∧ HpLe m m') := by
  refine gc_intro (vs := []) Try.func6 rfl Try.ntmps6 (by simp) ?_
  refine awp_u (awp_rs ?_)
  refine ao_x (ex_alloc rfl (Dj_single m) zero30) rfl fun u m2 ⟨p4, hu, hm2, hD3⟩ => ao_nil ?_
  subst hu hm2
  replace hD3 : Dj [nilB p4, m] := hD3
  show AWp _ _ _ _ _ (U [nilB p4, m])
  refine awp_rs (ao_r (rig_build (pl := #[(0, 1), (1, 1), (2, 1)]) (cs := #[.slice none 0 0, .slice none 0 0, .slice none 0 0]) rfl rfl Try.underlying30 Try.zeroValue30 (fun w => by kernel_rfl) rfl) rfl ?_)
  refine ao_x0 (ex_store (i := 0) rfl hD3 rfl rfl Try.sizeOf30 (three_one rfl rfl rfl) rfl (Nat.le_refl 3)) fun u m7 ⟨_, hm7, hD7⟩ => ao_nil ?_
  subst hm7
  replace hD7 : Dj [nilB p4, m] := hD7
  exact awp_ret ⟨_, resC (vs := [_, _, _]) Try.results6 rfl Try.isAgg30 Try.sizeOf30 (dirB_at 0 hD7 rfl), rfl, le_at 1 hD7 rfl⟩
theorem e10 : Enters Try.prog 10 := enters_of Try.func10 (by kernel_rfl) rfl
set_option maxHeartbeats 4000000 in
set_option maxRecDepth 100000 in
theorem F10 (m : Hp) (vn vf vo vi : Value) (ns : List Nm) (fs : List Fl) (oz zs : List Int) (B : Nat) (hd : Dir m vn vf vo ns fs oz) (hi : DI B ns fs) (hol : oz.length ≤ 1048576) (hB : B ≤ 1048576) (hz : RdSl m encZ 1 vi zs) (hzl : zs.length ≤ 1048576) :
    GC Try.prog 10 #[.agg #[vn, vf, vo], vi] m (fun u m' => ∃ vn' vf' vo' fs' oz', u = .agg #[vn', vf', vo'] ∧ HpLe m m' ∧ Dir m' vn' vf' vo' ns fs' oz' ∧ DI B ns fs' ∧ oz'.length ≤ B ∧ ∃ N, (∀ k, N k ≠ none → m k = none) ∧ HpLe N m' ∧ RdSl N encZ 1 vo' oz') := by
  obtain ⟨Az, cz, rfl, _⟩ := RdSl.form encZ_len (by decide) hz
  refine gc_intro (vs := [_, _]) Try.func10 rfl Try.ntmps10 (by simp) ?_
  refine awp_u (awp_rs ?_)
  refine ao_x (ex_box rfl (Dj_single m) rfl) rfl fun u m1 ⟨p2, hu, hm1, hD1⟩ => ?_
  subst hu hm1
  refine ao_x (ex_alloc rfl hD1 zero30) rfl fun u m2 ⟨p4, hu, hm2, hD3⟩ => ao_nil ?_
  subst hu hm2
  replace hD4 : Dj [nilB p4, dirB p2 vn vf vo, m] := hD3
  show AWp _ _ _ _ _ (U [nilB p4, dirB p2 vn vf vo, m])
  clear hD1 hD3
  have hmL : HpLe m (U [nilB p4, dirB p2 vn vf vo, m]) := le_at 2 hD4 rfl
  refine awp_rs (ao_r (rig_loadN (vs := [_, _, _]) rfl rfl Try.isAgg30 Try.sizeOf30 (dirB_at 1 hD4 rfl)) rfl ?_)
  refine ao_x (ex_call rfl rfl e19 (F19 _ vn vf vo ns fs oz (hd.le hmL) (by have := hi.nl; omega) (by have := hi.fl; omega) hol)) rfl fun u m5 ⟨wn, wf, wo, cf, N, G2, hu, hm5, hD5, hG2, hO, hrn, hro⟩ => ?_
  subst hu hm5
  obtain ⟨G3, hG3, hD6, rfl⟩ := grow_to (cs := [nilB p4, dirB p2 vn vf vo]) hD4 hG2
  replace hD6 : Dj [nilB p4, dirB p2 vn vf vo, G3] := hD6
  replace hD5 : Dj [cf, N, U [nilB p4, dirB p2 vn vf vo, G3]] := hD5
  have hD7 : Dj [cf, N, nilB p4, dirB p2 vn vf vo, G3] := Dj_flat (A := [cf, N]) hD5 hD6
  have e7 : U [cf, N, U [nilB p4, dirB p2 vn vf vo, G3]] = U [cf, N, nilB p4, dirB p2 vn vf vo, G3] := U_flat [cf, N] _
  show AOps _ _ _ _ _ (U [cf, N, U [nilB p4, dirB p2 vn vf vo, G3]]) _
  rw [e7]
  clear hG2 hD5 hD6 e7 hmL hD4
  have w1 := hrn.one_
  have w2 := hO.one_
  refine ao_x0 (ex_store (i := 3) rfl hD7 rfl rfl Try.sizeOf30 (three_one w1 w2 hro.one_) rfl (Nat.le_refl 3)) fun u m8 ⟨_, hm8, hD8⟩ => ao_nil ?_
  subst hm8
  replace hD8 : Dj [cf, N, nilB p4, dirB p2 wn wf wo, G3] := hD8
  show AWp _ _ _ _ _ (U [cf, N, nilB p4, dirB p2 wn wf wo, G3])
  refine awp_rs (ao_r (rig_fieldAddr rfl rfl Try.underlying30 rfl Try.sizeOf28 rfl) rfl ?_)
  refine ao_x0 (ex_store (i := 3) rfl hD8 rfl rfl Try.sizeOf28 (by simp [Value.cells, Value.oneCell']) rfl (by simp [Value.cells])) fun u m9 ⟨_, hm9, hD9⟩ => ao_nil ?_
  subst hm9
  replace hD9 : Dj [cf, N, nilB p4, dirB p2 wn wf (.slice none 0 0), G3] := hD9
  have hp : U [cf, N, nilB p4, dirB p2 wn wf (.slice none 0 0), G3] = U [dirB p2 wn wf (.slice none 0 0), nilB p4, cf, N, G3] ∧ Dj [dirB p2 wn wf (.slice none 0 0), nilB p4, cf, N, G3] := U_pm [3, 2, 0, 1, 4] rfl hD9
  have e11 : U [dirB p2 wn wf (.slice none 0 0), nilB p4, cf, N, G3] = U [dirB p2 wn wf (.slice none 0 0), nilB p4, U [cf, N, G3]] := (U_flat [_, _] _).symm
  have hD11 : Dj [dirB p2 wn wf (.slice none 0 0), nilB p4, U [cf, N, G3]] := Dj_unflat (A := [_, _]) hp.2
  have hDg : Dj [cf, N, G3] := hp.2.2.2
  show AWp _ _ _ _ _ (U [cf, N, nilB p4, dirB p2 wn wf (.slice none 0 0), G3])
  rw [hp.1, e11]
  have hmG : HpLe m (U [cf, N, G3]) := hG3.trans (le_at 2 hDg rfl)
  replace hrn := RdSl.le hrn (le_at 1 hDg rfl)
  have hrf := RdSl.le hO.rd (le_at 0 hDg rfl)
  generalize U [cf, N, G3] = G4 at hD11 hmG hrn hrf
  clear e11 hDg hp hD9 hD8 hD7 hG3 hro hO
  obtain ⟨Af, kf, rfl, _⟩ := RdSl.form encF_len (by decide) hrf
  have hns := hi.nl
  have hfs := hi.fl
  refine awp_sk fun K1 hK1 => ?_
  have hend : ∀ (r : Env) (vo1 : Value) (oz1 : List Int) (Y G : Hp), Dj [dirB p2 wn (.slice Af fs.length kf) vo1, Y, nilB p4, G] → HpLe G4 G → Own 3 1 Y vo1 (rows encZ oz1) → oz1.length ≤ fs.length → EnvLe [(2, .pointer (some ⟨p2, 0, none⟩)), (4, .pointer (some ⟨p4, 0, none⟩))] r → K1 r (U [dirB p2 wn (.slice Af fs.length kf) vo1, Y, nilB p4, G]) := by
    intro r vo1 oz1 Y G hd1 hm1 ho1 hl1 hr
    have hG' : HpLe G (U [dirB p2 wn (.slice Af fs.length kf) vo1, Y, nilB p4, G]) := le_at 3 hd1 rfl
    have hG4 := hm1.trans hG'
    refine hK1 _ _ (awp_le _ hr (awp_rs ?_))
    refine ao_r (rig_loadN (vs := [_, _, _]) rfl rfl Try.isAgg30 Try.sizeOf30 (dirB_at 0 hd1 rfl)) rfl ?_
    refine ao_x (ex_call rfl rfl e26 (F26 _ wn (.slice Af fs.length kf) vo1 ns fs oz1 ⟨RdSl.le hrn hG4, RdSl.le hrf hG4, RdSl.le ho1.rd (le_at 1 hd1 rfl), fun x hx => (hd.d x hx).le (hmG.trans hG4)⟩ (by omega) (by omega) (by omega))) rfl fun u m3 ⟨ug, cg, G5, hu, hm3, hd3, hG5, hf3⟩ => ?_
    subst hu hm3
    obtain ⟨G6, hG6, hd6, rfl⟩ := grow_to (cs := [dirB p2 wn (.slice Af fs.length kf) vo1, Y, nilB p4]) hd1 hG5
    replace hd6 : Dj [dirB p2 wn (.slice Af fs.length kf) vo1, Y, nilB p4, G6] := hd6
    replace hd3 : Dj [cg, U [dirB p2 wn (.slice Af fs.length kf) vo1, Y, nilB p4, G6]] := hd3
    have hd7 : Dj [cg, dirB p2 wn (.slice Af fs.length kf) vo1, Y, nilB p4, G6] := Dj_flat (A := [cg]) hd3 hd6
    have e7 : U [cg, U [dirB p2 wn (.slice Af fs.length kf) vo1, Y, nilB p4, G6]] = U [cg, dirB p2 wn (.slice Af fs.length kf) vo1, Y, nilB p4, G6] := U_flat [cg] _
    show AOps _ _ _ _ _ (U [cg, U [dirB p2 wn (.slice Af fs.length kf) vo1, Y, nilB p4, G6]]) _
    rw [e7]
    refine ao_x0 (ex_store (i := 3) rfl hd7 rfl rfl Try.sizeOf30 (three_one hrn.one_ hf3.one_ ho1.one_) rfl (Nat.le_refl 3)) fun u m7 ⟨_, hm7, hD7⟩ => ao_nil ?_
    subst hm7
    replace hD7 : Dj [cg, dirB p2 wn (.slice Af fs.length kf) vo1, Y, dirB p4 wn ug vo1, G6] := hD7
    have hG7 : HpLe G4 (U [cg, dirB p2 wn (.slice Af fs.length kf) vo1, Y, dirB p4 wn ug vo1, G6]) := hm1.trans (hG6.trans (le_at 4 hD7 rfl))
    have hI := sweep_ok hi oz1
    have hfr : ∀ k, Y k ≠ none → m k = none := fun k hk => by
      have h5 := hD7.2.2.1 k hk
      cases hq : m k with
      | none => rfl
      | some ob =>
        have h6 := (le_at 1 hD7.2.2.2 rfl) k ob (((hmG.trans hm1).trans hG6) k ob hq)
        rw [h5] at h6; cases h6
    exact awp_ret ⟨_, resC (vs := [_, _, _]) Try.results10 rfl Try.isAgg30 Try.sizeOf30 (dirB_at 3 hD7 rfl), _, _, _, _, oz1, rfl, hmG.trans hG7, ⟨RdSl.le hrn hG7, RdSl.le hf3 (le_at 0 hD7 rfl), RdSl.le ho1.rd (le_at 2 hD7 rfl), fun x hx => (hd.d x (List.mem_filter.1 hx).1).le (hmG.trans hG7)⟩, hI, by omega, Y, hfr, le_at 2 hD7 rfl, ho1.rd⟩
  refine awp_rs (ao_r (rig_assign rfl rfl) rfl (ao_nil ?_))
  refine awp_block ?_
  refine awp_le [(1, .slice Az zs.length cz), (2, .pointer (some ⟨p2, 0, none⟩)), (4, .pointer (some ⟨p4, 0, none⟩)), (5, .int .i64 (0 : Nat))] ⟨rfl, rfl, rfl, rfl, trivial⟩ ?_
  have hD12 : Dj [dirB p2 wn (.slice Af fs.length kf) (.slice none 0 0), hp0, nilB p4, G4] ∧ U [dirB p2 wn (.slice Af fs.length kf) (.slice none 0 0), hp0, nilB p4, G4] = U [dirB p2 wn (.slice Af fs.length kf) (.slice none 0 0), nilB p4, G4] := by
    have h := Dj_hp0 hD11
    have h2 : U [hp0, dirB p2 wn (.slice Af fs.length kf) (.slice none 0 0), nilB p4, G4] = U [dirB p2 wn (.slice Af fs.length kf) (.slice none 0 0), hp0, nilB p4, G4] ∧ Dj [dirB p2 wn (.slice Af fs.length kf) (.slice none 0 0), hp0, nilB p4, G4] := U_pm [1, 0, 2, 3] rfl h
    exact ⟨h2.2, h2.1.symm.trans (U_hp0 _)⟩
  refine awp_loop (fun k r mm => ∃ (i : Nat) (vo1 : Value) (oz1 : List Int) (Y G : Hp), i ≤ fs.length ∧ k = fs.length - i ∧ r = [(1, .slice Az zs.length cz), (2, .pointer (some ⟨p2, 0, none⟩)), (4, .pointer (some ⟨p4, 0, none⟩)), (5, .int .i64 i)] ∧ U [dirB p2 wn (.slice Af fs.length kf) vo1, Y, nilB p4, G] = mm ∧ Dj [dirB p2 wn (.slice Af fs.length kf) vo1, Y, nilB p4, G] ∧ HpLe G4 G ∧ Own 3 1 Y vo1 (rows encZ oz1) ∧ oz1.length ≤ i) _
    ⟨0, _, [], hp0, G4, by omega, rfl, rfl, hD12.2, hD12.1, HpLe.refl _, Own.nil 3 1, Nat.le_refl _⟩ ?_
  clear hD12 hD11
  rintro k r mm ⟨i, vo1, oz1, Y, G, hil, rfl, rfl, rfl, hD, hG, hO, hl1⟩
  obtain ⟨d0, d1, d2, _⟩ := dirB_at 0 hD rfl
  have hGU : HpLe G (U [dirB p2 wn (.slice Af fs.length kf) vo1, Y, nilB p4, G]) := le_at 3 hD rfl
  refine awp_sk fun K2 hK2 => awp_rs ?_
  refine ao_r (rig_move rfl rfl) rfl (ao_r (rig_fieldAddr rfl rfl Try.underlying30 rfl Try.sizeOf27 rfl) rfl (ao_r (rig_load1 rfl rfl Try.isAgg27 d1) rfl (ao_r (rig_lenSl rfl rfl Try.underlying27) rfl (ao_r (rig_lss rfl rfl rfl) rfl (ao_nil ?_)))))
  refine awp_if rfl (fun h => ?_) (fun h => ?_)
  · have hi2 : i < fs.length := by omega
    obtain ⟨x, hx⟩ := get_lt hi2
    obtain ⟨b, off, cap', e, hxc⟩ := RdSl.get_ encF_len (by decide) (RdSl.le hrf (hG.trans hGU)) hx
    simp only [Value.slice.injEq] at e
    obtain ⟨rfl, _, rfl⟩ := e
    obtain ⟨x0, x1, x2, x3, x4, _⟩ := id hxc
    refine awp_skip (hK2 _ _ (awp_sk fun K3 hK3 => ?_))
    have hnext : ∀ (r : Env) (vo2 : Value) (oz2 : List Int) (Y2 G2 : Hp), Dj [dirB p2 wn (.slice (some ⟨b, off, none⟩) fs.length kf) vo2, Y2, nilB p4, G2] → HpLe G4 G2 → Own 3 1 Y2 vo2 (rows encZ oz2) → oz2.length ≤ i + 1 → EnvLe [(1, .slice Az zs.length cz), (2, .pointer (some ⟨p2, 0, none⟩)), (4, .pointer (some ⟨p4, 0, none⟩)), (5, .int .i64 i)] r → K3 r (U [dirB p2 wn (.slice (some ⟨b, off, none⟩) fs.length kf) vo2, Y2, nilB p4, G2]) := by
      intro r vo2 oz2 Y2 G2 hd2 hg2 ho2 hl2 hr
      refine hK3 _ _ (awp_le _ hr (awp_region ?_))
      refine ao_r (rig_move rfl rfl) rfl (ao_r (rig_add (c := ((i + 1 : Nat) : Int)) rfl rfl rfl (w64 _ (by omega) (by omega))) rfl (ao_r (rig_assign rfl rfl) rfl (ao_nil ?_)))
      exact ⟨[(1, .slice Az zs.length cz), (2, .pointer (some ⟨p2, 0, none⟩)), (4, .pointer (some ⟨p4, 0, none⟩)), (5, .int .i64 (i + 1 : Nat))], _, ⟨rfl, rfl, rfl, rfl, trivial⟩, by omega, i + 1, vo2, oz2, Y2, G2, by omega, rfl, rfl, rfl, hd2, hg2, ho2, hl2⟩
    refine awp_block ?_
    refine awp_rs (ao_r (rig_assign rfl rfl) rfl (ao_nil ?_))
    refine awp_block ?_
    refine awp_le [(1, .slice Az zs.length cz), (2, .pointer (some ⟨p2, 0, none⟩)), (4, .pointer (some ⟨p4, 0, none⟩)), (5, .int .i64 i), (6, .int .i64 (0 : Nat))] ⟨rfl, rfl, rfl, rfl, rfl, trivial⟩ ?_
    refine awp_loop (fun k r mm => ∃ j : Nat, j ≤ zs.length ∧ k = zs.length - j ∧ r = [(1, .slice Az zs.length cz), (2, .pointer (some ⟨p2, 0, none⟩)), (4, .pointer (some ⟨p4, 0, none⟩)), (5, .int .i64 i), (6, .int .i64 j)] ∧ U [dirB p2 wn (.slice (some ⟨b, off, none⟩) fs.length kf) vo1, Y, nilB p4, G] = mm) _ ⟨0, by omega, rfl, rfl, rfl⟩ ?_
    rintro k r mm ⟨j, hj, rfl, rfl, rfl⟩
    refine awp_sk fun K4 hK4 => awp_rs ?_
    refine ao_r (rig_move rfl rfl) rfl (ao_r (rig_move rfl rfl) rfl (ao_r (rig_lenSl rfl rfl Try.underlying28) rfl (ao_r (rig_lss rfl rfl rfl) rfl (ao_nil ?_))))
    refine awp_if rfl (fun h => ?_) (fun h => ?_)
    · have hj2 : j < zs.length := by omega
      obtain ⟨z, hzz⟩ := get_lt hj2
      obtain ⟨bz, oz', cz', e, hzc⟩ := RdSl.get_ encZ_len (by decide) (RdSl.le hz (hmG.trans (hG.trans hGU))) hzz
      simp only [Value.slice.injEq] at e
      obtain ⟨rfl, _, rfl⟩ := e
      refine awp_skip (hK4 _ _ (awp_sk fun K5 hK5 => awp_block ?_))
      refine awp_ds (.q 0 (.q 1 (.q 2 (.q 3 (.q 4 (.q 5 (.q 6 (.q 7 (.q 8 (.q 9 (.q 10 .fin))))))))))) [] (by kernel_rfl) (by kernel_rfl) ?_
      refine oq rfl (rig_move rfl rfl) rfl (oq rfl (rig_move rfl rfl) rfl (oq rfl (rig_ix j rfl rfl rfl Try.underlying28 Try.sizeOf3 rfl rfl hj2) rfl (oq rfl (rig_load1 rfl rfl Try.isAgg3 hzc.1) rfl ?_)))
      refine oq rfl (rig_fieldAddr rfl rfl Try.underlying30 rfl Try.sizeOf27 rfl) rfl (oq rfl (rig_load1 rfl rfl Try.isAgg27 d1) rfl (oq rfl (rig_move rfl rfl) rfl (oq rfl (rig_ix i rfl rfl rfl Try.underlying27 Try.sizeOf61 rfl rfl hi2) rfl (oq rfl (rig_fieldAddr rfl rfl Try.underlying61 rfl Try.sizeOf3 rfl) rfl (oq rfl (rig_load1 rfl rfl Try.isAgg3 x0) rfl (oq rfl (rig_eql rfl rfl rfl) rfl (od_fin ?_)))))))
      refine awp_cond rfl (fun h3 => ?_) (fun h3 => ?_)
      · refine awp_ds (.q 0 (.q 1 (.q 2 (.q 3 (.q 4 (.q 5 (.s 6 (.s 7 (.q 8 (.s 9 .fin)))))))))) [7, 9] (by kernel_rfl) (by kernel_rfl) ?_
        refine oq rfl (rig_fieldAddr rfl rfl Try.underlying30 rfl Try.sizeOf28 rfl) rfl (oq rfl (rig_load1 rfl rfl Try.isAgg28 d2) rfl (oq rfl (rig_move rfl rfl) rfl (oq rfl (rig_move rfl rfl) rfl (oq rfl (rig_ix j rfl rfl rfl Try.underlying28 Try.sizeOf3 rfl rfl hj2) rfl (oq rfl (rig_load1 rfl rfl Try.isAgg3 hzc.1) rfl ?_)))))
        refine os rfl (ex_buildSlice rfl hD rfl Try.underlying28 Try.sizeOf3 Try.zeroValue3 (by decide) (by decide) (fill_one rfl (rangeMap_size _ _))) rfl fun w2 m2 ⟨b2, hw2, hm2, hD5⟩ => ⟨fun _ => by subst hm2; exact U_le_tail hD5, ?_⟩
        subst hw2 hm2
        refine os rfl (ex_append 2 (by_ := 8) rfl hD5 rfl rfl Try.underlying28 inf3 rfl (by decide) (by decide) hO rfl (src_one (enc := encZ) (x := z) encZ_len ((cellsAt_one b2 (encZ z).toArray 3).le U_le_head)) (one_rows encZ_one _) (by rw [rows_length encZ_len, rows_length encZ_len]; simp; omega)) rfl fun w3 m3 ⟨Y3, hO3, hm3, hD6⟩ => ⟨fun h => by simp at h, ?_⟩
        subst hm3
        rw [← rows_append] at hO3
        obtain ⟨A3, k3, rfl⟩ := hO3.len encZ_len (by decide)
        refine oq rfl (rig_fieldAddr rfl rfl Try.underlying30 rfl Try.sizeOf28 rfl) rfl ?_
        refine os0 rfl (ex_store (i := 1) rfl hD6 rfl rfl Try.sizeOf28 (by simp [Value.cells, Value.oneCell']) rfl (by simp [Value.cells])) fun u m6 ⟨_, hm6, hD7⟩ => ⟨fun h => by simp at h, od_fin ?_⟩
        subst hm6
        replace hD7 : Dj [Go.Aw.one b2 (.cells (encZ z).toArray 3 (0, 0)), dirB p2 wn (.slice (some ⟨b, off, none⟩) fs.length kf) (.slice A3 (oz1 ++ [z]).length k3), Y3, nilB p4, G] := hD7
        have hp : U [Go.Aw.one b2 (.cells (encZ z).toArray 3 (0, 0)), dirB p2 wn (.slice (some ⟨b, off, none⟩) fs.length kf) (.slice A3 (oz1 ++ [z]).length k3), Y3, nilB p4, G] = U [dirB p2 wn (.slice (some ⟨b, off, none⟩) fs.length kf) (.slice A3 (oz1 ++ [z]).length k3), Y3, nilB p4, Go.Aw.one b2 (.cells (encZ z).toArray 3 (0, 0)), G] ∧ Dj [dirB p2 wn (.slice (some ⟨b, off, none⟩) fs.length kf) (.slice A3 (oz1 ++ [z]).length k3), Y3, nilB p4, Go.Aw.one b2 (.cells (encZ z).toArray 3 (0, 0)), G] := U_pm [1, 2, 3, 0, 4] rfl hD7
        have e8 : U [dirB p2 wn (.slice (some ⟨b, off, none⟩) fs.length kf) (.slice A3 (oz1 ++ [z]).length k3), Y3, nilB p4, Go.Aw.one b2 (.cells (encZ z).toArray 3 (0, 0)), G] = U [dirB p2 wn (.slice (some ⟨b, off, none⟩) fs.length kf) (.slice A3 (oz1 ++ [z]).length k3), Y3, nilB p4, U [Go.Aw.one b2 (.cells (encZ z).toArray 3 (0, 0)), G]] := (U_flat [_, _, _] _).symm
        have hd9 : Dj [dirB p2 wn (.slice (some ⟨b, off, none⟩) fs.length kf) (.slice A3 (oz1 ++ [z]).length k3), Y3, nilB p4, U [Go.Aw.one b2 (.cells (encZ z).toArray 3 (0, 0)), G]] := Dj_unflat (A := [_, _, _]) hp.2
        have hdt : Dj [Go.Aw.one b2 (.cells (encZ z).toArray 3 (0, 0)), G] := hp.2.2.2.2
        show AWp _ _ _ _ _ (U [Go.Aw.one b2 (.cells (encZ z).toArray 3 (0, 0)), dirB p2 wn (.slice (some ⟨b, off, none⟩) fs.length kf) (.slice A3 (oz1 ++ [z]).length k3), Y3, nilB p4, G])
        rw [hp.1, e8]
        exact awp_exit (hnext _ _ (oz1 ++ [z]) Y3 _ hd9 (hG.trans (le_at 1 hdt rfl)) hO3 (by simp; omega) ⟨rfl, rfl, rfl, rfl, trivial⟩)
      · refine awp_skip (hK5 _ _ (awp_region ?_))
        refine ao_r (rig_move rfl rfl) rfl (ao_r (rig_add (c := ((j + 1 : Nat) : Int)) rfl rfl rfl (w64 _ (by omega) (by omega))) rfl (ao_r (rig_assign rfl rfl) rfl (ao_nil ?_)))
        exact ⟨[(1, .slice (some ⟨bz, oz', none⟩) zs.length cz), (2, .pointer (some ⟨p2, 0, none⟩)), (4, .pointer (some ⟨p4, 0, none⟩)), (5, .int .i64 i), (6, .int .i64 (j + 1 : Nat))], _, ⟨rfl, rfl, rfl, rfl, rfl, trivial⟩, by omega, j + 1, by omega, rfl, rfl, rfl⟩
    · exact awp_exit (hnext _ vo1 oz1 Y G hD hG hO (by omega) ⟨rfl, rfl, rfl, rfl, trivial⟩)
  · exact awp_exit (hend _ vo1 oz1 Y G hD hG hO (by omega) ⟨rfl, rfl, trivial⟩)
end Go.Proofs.Ytbonkkbpjlikjaa
