/- Chapter 8, the reference: Scan; its order. -/
import Derived.Test.YtbonkkbpjlikjaaReading
set_option linter.unusedVariables false
set_option linter.unusedSimpArgs false
namespace Go.Aw
open Go Go.RowKit
theorem lessS_trans {a b c : Sn} (h1 : lessS a b = true) (h2 : lessS b c = true) : lessS a c = true := by
  unfold lessS at *
  split at h1 <;> split at h2 <;> (try split at h1) <;> (try split at h2) <;> simp only [decide_eq_true_eq] at h1 h2 <;> (repeat' split) <;> simp only [decide_eq_true_eq] <;> omega
theorem lessS_tot {a b : Sn} (h : a.ino ≠ b.ino) (h1 : lessS a b = false) : lessS b a = true := by
  unfold lessS at *
  split at h1 <;> (try split at h1) <;> simp only [decide_eq_false_iff_not] at h1 <;> (repeat' split) <;> simp only [decide_eq_true_eq] <;> omega
theorem lessS_asym {a b : Sn} (h : lessS a b = true) : lessS b a = false := by
  unfold lessS at *
  split at h <;> (try split at h) <;> simp only [decide_eq_true_eq] at h <;> (repeat' split) <;> simp only [decide_eq_false_iff_not] <;> omega
def LtS (a b : Sn) : Prop := lessS a b = true
/-- Two lists in order with the same members are one list. -/
theorem ltS_unique : ∀ {l l' : List Sn}, l.Perm l' → l.Pairwise LtS → l'.Pairwise LtS → l = l'
  | [], l', h, _, _ => by rw [h.nil_eq]
  | a :: l, [], h, _, _ => by simp at h
  | a :: l, b :: l', h, h1, h2 => by
    rw [List.pairwise_cons] at h1 h2
    have hab : a = b := by
      have ha : a ∈ b :: l' := h.subset (List.mem_cons_self)
      have hb : b ∈ a :: l := h.symm.subset (List.mem_cons_self)
      rcases List.mem_cons.1 ha with e | ha
      · exact e
      · rcases List.mem_cons.1 hb with e | hb
        · exact e.symm
        · have h3 := h1.1 b hb
          have h4 := h2.1 a ha
          rw [LtS] at h3 h4
          rw [lessS_asym h3] at h4; cases h4
    subst hab
    rw [ltS_unique (List.Perm.cons_inv h) h1.2 h2.2]
/-- Put in, in order. -/
def InS (l : List Sn) (s : Sn) (out : List Sn) : Prop := ∃ k, k ≤ l.length ∧ out = l.take k ++ s :: l.drop k ∧ (∀ y ∈ l.drop k, lessS s y = true) ∧ (0 < k → ∃ y, l[k - 1]? = some y ∧ lessS s y = false)
theorem InS.asc {l out : List Sn} {s : Sn} (h : InS l s out) (hl : l.Pairwise LtS) (hs : ∀ y ∈ l, s.ino ≠ y.ino) : out.Pairwise LtS ∧ out.Perm (l ++ [s]) := by
  obtain ⟨k, hk, rfl, h1, h2⟩ := h
  have hlow : ∀ f ∈ l.take k, LtS f s := by
    intro f hf
    have hk0 : 0 < k := by
      rcases Nat.eq_zero_or_pos k with h | h
      · subst h; simp at hf
      · exact h
    obtain ⟨y, hy, hle⟩ := h2 hk0
    have hys := lessS_tot (hs y (List.mem_of_getElem? hy)) hle
    obtain ⟨j, hj, e⟩ := List.mem_take_iff_getElem.1 hf
    obtain ⟨h3, h4⟩ := List.getElem?_eq_some_iff.1 hy
    rcases Nat.lt_or_ge j (k - 1) with h5 | h5
    · have := List.pairwise_iff_getElem.1 hl j (k - 1) (by omega) h3 h5
      rw [e, h4] at this; exact lessS_trans this hys
    · have : j = k - 1 := by omega
      subst this
      rw [← e, h4]; exact hys
  have htd := hl
  rw [← List.take_append_drop k l, List.pairwise_append] at htd
  refine ⟨?_, ?_⟩
  · rw [List.pairwise_append, List.pairwise_cons]
    refine ⟨htd.1, ⟨h1, htd.2.1⟩, fun a ha b hb => ?_⟩
    rcases List.mem_cons.1 hb with rfl | hb
    · exact hlow a ha
    · exact htd.2.2 a ha b hb
  · refine List.Perm.trans List.perm_middle ?_
    rw [List.take_append_drop]
    exact (List.perm_append_singleton s l).symm
end Go.Aw
namespace Go.Proofs.Ytbonkkbpjlikjaa
open Go Go.Aw Go.Pl Go.RowKit
theorem F39r (m : Hp) (a b : Sn) : RC Try.prog 39 #[a.val, b.val] m (.bool (lessS a b)) := rc_of_gc fun m1 _ => F39 m1 a b
def cutF (x : Fl) : List UInt8 := x.data.take (x.data.length - x.left.toNat)
def seenOf (ns : List Nm) (oz : List Int) (pfx : ByteArray) (size : Int) (x : Fl) : Option Sn :=
  if numOk (cutF x).length size && folB ns oz pfx x.ino then some ⟨numV (cutF x) size, x.ino, (cutF x).length⟩ else none
theorem seenOf_ino {ns : List Nm} {oz : List Int} {pfx : ByteArray} {size : Int} {x : Fl} {y : Sn} (h : seenOf ns oz pfx size x = some y) : y.ino = x.ino := by
  unfold seenOf at h
  split at h
  · obtain rfl := Option.some.inj h; rfl
  · cases h
end Go.Proofs.Ytbonkkbpjlikjaa
/- Chapter 8, the reference: Scan. -/
set_option linter.unusedVariables false
set_option linter.unusedSimpArgs false
namespace Go.Proofs.Ytbonkkbpjlikjaa
open Go Go.Aw Go.Pl Go.RowKit
theorem e13 : Enters Try.prog 13 := enters_of Try.func13 (by kernel_rfl) rfl
set_option maxHeartbeats 4000000 in
set_option maxRecDepth 100000 in
theorem F13 (m : Hp) (vn vf vo : Value) (ns : List Nm) (fs : List Fl) (oz : List Int) (pfx : ByteArray) (size : Int) (hd : Dir m vn vf vo ns fs oz) (hnl : ns.length ≤ 1048576) (hfl : fs.length ≤ 1048576) (hol : oz.length ≤ 1048576) (hasc : fs.Pairwise (fun a b => a.ino < b.ino)) (hF : ∀ x ∈ fs, FOk 1048576 x) :
    GC Try.prog 13 #[.agg #[vn, vf, vo], .string pfx, .int .i64 size] m (fun u m' => ∃ (out : List Sn), HpLe m m' ∧ RdSl m' encSn 3 u out ∧ out.Pairwise LtS ∧ out.Perm (fs.filterMap (seenOf ns oz pfx size))) := by
  obtain ⟨An, cn, rfl, _⟩ := RdSl.form encN_len (by decide) hd.n
  obtain ⟨Af, kf, rfl, _⟩ := RdSl.form encF_len (by decide) hd.f
  obtain ⟨Ao, co, rfl, _⟩ := RdSl.form encZ_len (by decide) hd.o
  refine gc_intro (vs := [_, _, _]) Try.func13 rfl Try.ntmps13 (by simp) ?_
  refine awp_rs ?_
  refine ao_x (ex_boxR rfl rfl) rfl fun v m3 ⟨p3, hv, hl3, hc3⟩ => ao_r (rig_assign rfl rfl) rfl (ao_nil ?_)
  subst hv
  have hd3 := hd.le hl3
  refine awp_rs (ao_r (rig_assign rfl rfl) rfl (ao_nil ?_))
  refine awp_sk fun K1 hK1 => awp_rs (ao_r (rig_assign rfl rfl) rfl (ao_nil ?_))
  refine awp_block ?_
  refine awp_le [(1, .string pfx), (2, .int .i64 size), (3, .pointer (some ⟨p3, 0, none⟩)), (7, .slice none 0 0), (8, .int .i64 (0 : Nat))] ⟨rfl, rfl, rfl, rfl, rfl, trivial⟩ ?_
  refine awp_loop (fun kk r mm => ∃ (i : Nat) (v : Value) (out : List Sn) (Y G : Hp), i ≤ fs.length ∧ kk = fs.length - i ∧ r = [(1, .string pfx), (2, .int .i64 size), (3, .pointer (some ⟨p3, 0, none⟩)), (7, v), (8, .int .i64 i)] ∧ U [Y, G] = mm ∧ Dj [Y, G] ∧ HpLe m3 G ∧ Own 45 3 Y v (rows encSn out) ∧ out.Pairwise LtS ∧ out.Perm ((fs.take i).filterMap (seenOf ns oz pfx size))) fs.length
    ⟨0, _, [], hp0, m3, by omega, rfl, rfl, by rw [U_hp0, U_single], Dj_hp0 (Dj_single m3), HpLe.refl _, Own.nil 45 3, List.Pairwise.nil, by rw [List.take_zero]; exact List.Perm.refl _⟩ ?_
  rintro kk r mm ⟨i, v, out, Y, G, hi, rfl, rfl, rfl, hD, hG, hO, hasc2, hperm⟩
  have hGU : HpLe G (U [Y, G]) := le_at 1 hD rfl
  have hmU := hG.trans hGU
  have hdc := hc3.le hmU
  obtain ⟨d0, d1, d2, _⟩ := id hdc
  have hoi : ∀ y ∈ out, ∃ f ∈ fs.take i, seenOf ns oz pfx size f = some y := fun y hy => List.mem_filterMap.1 (hperm.subset hy)
  have holen : out.length ≤ i := by
    rw [hperm.length_eq]
    exact Nat.le_trans (List.length_filterMap_le _ _) (by rw [List.length_take]; omega)
  refine awp_sk fun K2 hK2 => awp_rs ?_
  refine ao_r (rig_move rfl rfl) rfl (ao_r (rig_fieldAddr rfl rfl Try.underlying30 rfl Try.sizeOf27 rfl) rfl (ao_r (rig_load1 rfl rfl Try.isAgg27 d1) rfl (ao_r (rig_lenSl rfl rfl Try.underlying27) rfl (ao_r (rig_lss rfl rfl rfl) rfl (ao_nil ?_)))))
  refine awp_if rfl (fun h => ?_) (fun h => ?_)
  · have hil : i < fs.length := by omega
    obtain ⟨x, hx⟩ := get_lt hil
    have hxm := List.mem_of_getElem? hx
    obtain ⟨bx, ox, cx, ex, hxc⟩ := RdSl.get_ encF_len (by decide) (RdSl.le hd3.f hmU) hx
    simp only [Value.slice.injEq] at ex
    obtain ⟨rfl, _, rfl⟩ := ex
    have htk : (fs.take (i + 1)).filterMap (seenOf ns oz pfx size) = (fs.take i).filterMap (seenOf ns oz pfx size) ++ (seenOf ns oz pfx size x).toList := by
      rw [takeS hx, List.filterMap_append]
      congr 1
    have hidx : idxG (inoIs x.ino) fs = i := idxG_hit hx (by
      rw [List.any_eq_false]
      intro y hy
      obtain ⟨j, hj, e⟩ := List.mem_take_iff_getElem.1 hy
      obtain ⟨h3, h4⟩ := List.getElem?_eq_some_iff.1 hx
      have := List.pairwise_iff_getElem.1 hasc j i (by omega) h3 (by omega)
      rw [e, h4] at this
      simp [inoIs]; omega) (decide_eq_true rfl)
    have hne : ∀ y ∈ out, x.ino ≠ y.ino := by
      intro y hy
      obtain ⟨f, hf, hs⟩ := hoi y hy
      obtain ⟨j, hj, e⟩ := List.mem_take_iff_getElem.1 hf
      obtain ⟨h3, h4⟩ := List.getElem?_eq_some_iff.1 hx
      have := List.pairwise_iff_getElem.1 hasc j i (by omega) h3 (by omega)
      rw [e, h4] at this
      rw [seenOf_ino hs]; omega
    refine awp_skip (hK2 _ _ (awp_sk fun K3 hK3 => ?_))
    -- the end of a round
    have hnext : ∀ (r : Env) (v2 : Value) (out2 : List Sn) (Y2 G2 : Hp), Dj [Y2, G2] → HpLe m3 G2 → Own 45 3 Y2 v2 (rows encSn out2) → out2.Pairwise LtS → out2.Perm ((fs.take (i + 1)).filterMap (seenOf ns oz pfx size)) → EnvLe [(1, .string pfx), (2, .int .i64 size), (3, .pointer (some ⟨p3, 0, none⟩)), (7, v2), (8, .int .i64 i)] r → K3 r (U [Y2, G2]) := by
      intro r v2 out2 Y2 G2 hd2 hg2 ho2 ha2 hp2 hr
      refine hK3 _ _ (awp_le _ hr (awp_region ?_))
      refine ao_r (rig_move rfl rfl) rfl (ao_r (rig_add (c := ((i + 1 : Nat) : Int)) rfl rfl rfl (w64 _ (by omega) (by omega))) rfl (ao_r (rig_assign rfl rfl) rfl (ao_nil ?_)))
      exact ⟨[(1, .string pfx), (2, .int .i64 size), (3, .pointer (some ⟨p3, 0, none⟩)), (7, v2), (8, .int .i64 (i + 1 : Nat))], _, ⟨rfl, rfl, rfl, rfl, rfl, trivial⟩, by omega, i + 1, v2, out2, Y2, G2, by omega, rfl, rfl, rfl, hd2, hg2, ho2, ha2, hp2⟩
    refine awp_block ?_
    -- the file
    refine awp_sk fun K4 hK4 => ?_
    have hfile : ∀ (r : Env) (p9 : Nat) (y : Fl) (G2 : Hp), Dj [filB p9 y, Y, G2] → HpLe G G2 → y.ino = x.ino → y.data = cutF x → RdSl G2 encB 1 (.slice y.A y.n y.cap) y.data → EnvLe [(1, .string pfx), (2, .int .i64 size), (3, .pointer (some ⟨p3, 0, none⟩)), (7, v), (8, .int .i64 i), (9, .pointer (some ⟨p9, 0, none⟩)), (10, .bool true)] r → K4 r (U [filB p9 y, Y, G2]) := by
      intro r p9 y G2 hdj hGG hyi hyd hyr hr
      obtain ⟨y0, y1, y2, y3, y4, _⟩ := filB_at 0 hdj rfl
      have hyn : y.n = y.data.length := by
        obtain ⟨A, cap, e, _⟩ := RdSl.form encB_len (by decide) hyr
        simp at e; exact e.2.1
      have hG2 : HpLe G2 (U [filB p9 y, Y, G2]) := le_at 2 hdj rfl
      have hm2 : HpLe m3 (U [filB p9 y, Y, G2]) := (hG.trans hGG).trans hG2
      have hdc2 := hc3.le hm2
      have hydl : y.data.length ≤ 1048576 := by
        have := (hF x hxm).d
        rw [hyd, cutF, List.length_take]; omega
      have hsk : ∀ (r : Env), seenOf ns oz pfx size x = none → EnvLe [(1, .string pfx), (2, .int .i64 size), (3, .pointer (some ⟨p3, 0, none⟩)), (7, v), (8, .int .i64 i)] r → K3 r (U [filB p9 y, Y, G2]) := by
        intro r hs hr
        have hp : U [filB p9 y, Y, G2] = U [Y, filB p9 y, G2] ∧ Dj [Y, filB p9 y, G2] := U_pm [1, 0, 2] rfl hdj
        have e1 : U [Y, filB p9 y, G2] = U [Y, U [filB p9 y, G2]] := (U_flat [Y] _).symm
        have hd1 : Dj [Y, U [filB p9 y, G2]] := Dj_unflat (A := [Y]) hp.2
        rw [hp.1, e1]
        exact hnext r v out Y _ hd1 ((hG.trans hGG).trans (le_at 1 hp.2.2 rfl)) hO hasc2 (by rw [htk, hs]; simpa using hperm) hr
      refine hK4 _ _ (awp_le _ hr (awp_rs ?_))
      refine ao_r (rig_fieldAddr rfl rfl Try.underlying61 rfl Try.sizeOf22 rfl) rfl (ao_r (rig_load1 rfl rfl Try.isAgg22 y1) rfl (ao_r (rig_move rfl rfl) rfl (ao_r (rig_call rfl rfl e37 (F37 _ _ y.data size (RdSl.le hyr hG2) (by omega))) rfl (ao_r (rig_move rfl rfl) rfl (ao_r (rig_extract rfl rfl rfl) rfl (ao_r (rig_extract rfl rfl rfl) rfl (ao_r (rig_assign rfl rfl) rfl (ao_r (rig_assign rfl rfl) rfl (ao_nil ?_)))))))))
      refine awp_sk fun K5 hK5 => ?_
      refine awp_mid (fun r mm => r = [(1, .string pfx), (2, .int .i64 size), (3, .pointer (some ⟨p3, 0, none⟩)), (7, v), (8, .int .i64 i), (9, .pointer (some ⟨p9, 0, none⟩)), (11, .int .i64 (numV y.data size)), (49, .bool (!(numOk y.data.length size && folB ns oz pfx y.ino)))] ∧ U [filB p9 y, Y, G2] = mm) (awp_region ?_) ?_
      · refine ao_r (rig_move rfl rfl) rfl (ao_r (rig_not rfl rfl) rfl (ao_r (rig_move rfl rfl) rfl ?_))
        cases hok : numOk y.data.length size with
        | false =>
          refine ao_no rfl rfl rfl rfl (ao_no rfl rfl rfl rfl (ao_no rfl rfl rfl rfl (ao_no rfl rfl rfl rfl (ao_no rfl rfl rfl rfl (ao_no rfl rfl rfl rfl (ao_r (rig_pickT rfl rfl rfl) rfl (ao_nil ?_)))))))
          exact ⟨[(1, .string pfx), (2, .int .i64 size), (3, .pointer (some ⟨p3, 0, none⟩)), (7, v), (8, .int .i64 i), (9, .pointer (some ⟨p9, 0, none⟩)), (11, .int .i64 (numV y.data size)), (49, .bool true)], ⟨rfl, rfl, rfl, rfl, rfl, rfl, rfl, rfl, trivial⟩, by rw [Bool.false_and]; rfl, rfl⟩
        | true =>
          refine ao_on rfl rfl (ao_r (rig_loadN (vs := [_, _, _]) rfl rfl Try.isAgg30 Try.sizeOf30 hdc2) rfl (ao_on rfl rfl (ao_r (rig_move rfl rfl) rfl (ao_on rfl rfl (ao_r (rig_fieldAddr rfl rfl Try.underlying61 rfl Try.sizeOf3 rfl) rfl (ao_on rfl rfl (ao_r (rig_load1 rfl rfl Try.isAgg3 y0) rfl ?_)))))))
          refine ao_on rfl rfl (ao_r (rig_call rfl rfl e38 (F38 _ _ _ _ ns oz pfx y.ino (RdSl.le hd3.n hm2) (RdSl.le hd3.o hm2) hnl hol)) rfl (ao_on rfl rfl (ao_r (rig_not rfl rfl) rfl (ao_r (rig_pickF rfl rfl rfl) rfl (ao_nil ?_)))))
          exact ⟨[(1, .string pfx), (2, .int .i64 size), (3, .pointer (some ⟨p3, 0, none⟩)), (7, v), (8, .int .i64 i), (9, .pointer (some ⟨p9, 0, none⟩)), (11, .int .i64 (numV y.data size)), (49, .bool (!folB ns oz pfx y.ino))], ⟨rfl, rfl, rfl, rfl, rfl, rfl, rfl, rfl, trivial⟩, by rw [Bool.true_and], rfl⟩
      rintro r mm ⟨rfl, rfl⟩
      refine awp_cond rfl (fun h9 => ?_) (fun h9 => awp_skip (hK5 _ _ ?_))
      · refine awp_exit (hsk _ ?_ ⟨rfl, rfl, rfl, rfl, rfl, trivial⟩)
        rw [seenOf, ← hyd, ← hyi, if_neg]
        intro hc; rw [hc] at h9; cases h9
      have hseen : seenOf ns oz pfx size x = some ⟨numV y.data size, y.ino, y.data.length⟩ := by
        rw [seenOf, ← hyd, ← hyi, if_pos (by simpa using h9)]
      -- what was seen
      refine awp_rs (ao_r (rig_move rfl rfl) rfl (ao_r (rig_fieldAddr rfl rfl Try.underlying61 rfl Try.sizeOf3 rfl) rfl (ao_r (rig_load1 rfl rfl Try.isAgg3 y0) rfl (ao_r (rig_fieldAddr rfl rfl Try.underlying61 rfl Try.sizeOf22 rfl) rfl (ao_r (rig_load1 rfl rfl Try.isAgg22 y1) rfl (ao_r (rig_lenSl rfl rfl Try.underlying22) rfl ?_))))))
      rw [hyn]
      obtain ⟨s0, hs0⟩ : ∃ s0 : Sn, s0 = ⟨numV y.data size, y.ino, y.data.length⟩ := ⟨_, rfl⟩
      refine ao_r (rig_build (pl := #[(0, 1), (1, 1), (2, 1)]) (cs := (encSn ⟨numV y.data size, y.ino, y.data.length⟩).toArray) rfl rfl Try.underlying45 Try.zeroValue45 (fun w => by kernel_rfl) rfl) rfl ?_
      rw [← hs0] at hseen ⊢
      refine ao_x (ex_alloc rfl hdj Try.zeroValue45) rfl fun u m13 ⟨p13, hu, hm13, hd13⟩ => ?_
      subst hu hm13
      refine ao_x0 (ex_store (i := 0) rfl hd13 rfl rfl Try.sizeOf45 (encSn_one s0) rfl (Nat.le_refl 3)) fun u m14 ⟨_, hm14, hd14⟩ => ao_nil ?_
      subst hm14
      rw [List.set_cons_zero, putR_all _ _ (by rfl)] at hd14 ⊢
      replace hd14 : Dj [snB p13 s0, filB p9 y, Y, G2] := hd14
      have hp : U [snB p13 s0, filB p9 y, Y, G2] = U [snB p13 s0, Y, filB p9 y, G2] ∧ Dj [snB p13 s0, Y, filB p9 y, G2] := U_pm [0, 2, 1, 3] rfl hd14
      have e15 : U [snB p13 s0, Y, filB p9 y, G2] = U [snB p13 s0, Y, U [filB p9 y, G2]] := (U_flat [_, _] _).symm
      have hd15 : Dj [snB p13 s0, Y, U [filB p9 y, G2]] := Dj_unflat (A := [_, _]) hp.2
      have hG3 : HpLe m3 (U [filB p9 y, G2]) := (hG.trans hGG).trans (le_at 1 hp.2.2.2 rfl)
      show AWp _ _ _ _ _ (U [snB p13 s0, filB p9 y, Y, G2])
      rw [hp.1, e15]
      generalize U [filB p9 y, G2] = G3 at hd15 hG3
      clear e15 hp hd14 hd13
      obtain ⟨Ao2, co2, rfl⟩ := hO.len encSn_len (by decide)
      refine awp_rs (ao_r (rig_move rfl rfl) rfl (ao_r (rig_lenSl rfl rfl Try.underlying41) rfl (ao_r (rig_assign rfl rfl) rfl (ao_nil ?_))))
      refine awp_rs (ao_r (rig_move rfl rfl) rfl (ao_r (rig_loadN (vs := encSn s0) rfl rfl Try.isAgg45 Try.sizeOf45 (snB_at 0 hd15 rfl)) rfl ?_))
      refine ao_x (ex_buildSlice rfl hd15 rfl Try.underlying41 Try.sizeOf45 Try.zeroValue45 (by decide) (by decide) (fill_one rfl (rangeMap_size _ _))) rfl fun w2 m2 ⟨b2, hw2, hm2, hD5⟩ => ?_
      subst hw2 hm2
      refine ao_x (ex_append 2 (by_ := 24) rfl hD5 rfl rfl Try.underlying41 inf45 rfl (by decide) (by decide) hO rfl (src_one (enc := encSn) (x := s0) encSn_len ((cellsAt_one b2 (encSn s0).toArray 45).le U_le_head)) (one_rows encSn_one _) (by rw [rows_length encSn_len, rows_length encSn_len]; simp; omega)) rfl fun w3 m3' ⟨Y3, hO3, hm3', hD6⟩ => ao_r (rig_assign rfl rfl) rfl (ao_nil ?_)
      subst hm3'
      rw [← rows_append] at hO3
      obtain ⟨g, cap2, sp, rfl, rfl, hsp, hnc, hcm⟩ := hO3.some_ encSn_len (by decide) (by simp)
      have hlen : (out ++ [s0]).length = out.length + 1 := by simp
      rw [hlen] at hnc
      replace hD6 : Dj [Go.Aw.one b2 (.cells (encSn s0).toArray 45 (0, 0)), snB p13 s0, Go.Aw.one g (.cells (rows encSn (out ++ [s0]) ++ sp).toArray 45 (0, 0)), G3] := hD6
      have hp : U [Go.Aw.one b2 (.cells (encSn s0).toArray 45 (0, 0)), snB p13 s0, Go.Aw.one g (.cells (rows encSn (out ++ [s0]) ++ sp).toArray 45 (0, 0)), G3] = U [snB p13 s0, Go.Aw.one g (.cells (rows encSn (out ++ [s0]) ++ sp).toArray 45 (0, 0)), Go.Aw.one b2 (.cells (encSn s0).toArray 45 (0, 0)), G3] ∧ Dj [snB p13 s0, Go.Aw.one g (.cells (rows encSn (out ++ [s0]) ++ sp).toArray 45 (0, 0)), Go.Aw.one b2 (.cells (encSn s0).toArray 45 (0, 0)), G3] := U_pm [1, 2, 0, 3] rfl hD6
      have e7 : U [snB p13 s0, Go.Aw.one g (.cells (rows encSn (out ++ [s0]) ++ sp).toArray 45 (0, 0)), Go.Aw.one b2 (.cells (encSn s0).toArray 45 (0, 0)), G3] = U [snB p13 s0, Go.Aw.one g (.cells (rows encSn (out ++ [s0]) ++ sp).toArray 45 (0, 0)), U [Go.Aw.one b2 (.cells (encSn s0).toArray 45 (0, 0)), G3]] := (U_flat [_, _] _).symm
      have hD7 : Dj [snB p13 s0, Go.Aw.one g (.cells (rows encSn (out ++ [s0]) ++ sp).toArray 45 (0, 0)), U [Go.Aw.one b2 (.cells (encSn s0).toArray 45 (0, 0)), G3]] := Dj_unflat (A := [_, _]) hp.2
      have hG4 : HpLe m3 (U [Go.Aw.one b2 (.cells (encSn s0).toArray 45 (0, 0)), G3]) := hG3.trans (le_at 1 hp.2.2.2 rfl)
      show AWp _ _ _ _ _ (U [Go.Aw.one b2 (.cells (encSn s0).toArray 45 (0, 0)), snB p13 s0, Go.Aw.one g (.cells (rows encSn (out ++ [s0]) ++ sp).toArray 45 (0, 0)), G3])
      rw [hp.1, e7, hlen]
      generalize U [Go.Aw.one b2 (.cells (encSn s0).toArray 45 (0, 0)), G3] = G4 at hD7 hG4
      clear e7 hp hD6 hD5 hd15
      refine awp_sk fun K6 hK6 => ?_
      have fin : ∀ (kk : Nat) (z : Sn) (r : Env), kk ≤ out.length → Dj [snB p13 s0, Go.Aw.one g (.cells (rows encSn (out.take kk ++ z :: out.drop kk) ++ sp).toArray 45 (0, 0)), G4] → InS out s0 (out.take kk ++ s0 :: out.drop kk) → EnvLe [(1, .string pfx), (2, .int .i64 size), (3, .pointer (some ⟨p3, 0, none⟩)), (7, .slice (some ⟨g, 0, none⟩) (out.length + 1) cap2), (8, .int .i64 i), (13, .pointer (some ⟨p13, 0, none⟩)), (14, .int .i64 kk)] r → K6 r (U [snB p13 s0, Go.Aw.one g (.cells (rows encSn (out.take kk ++ z :: out.drop kk) ++ sp).toArray 45 (0, 0)), G4]) := by
        intro kk z r hk hd hI hle
        have hz : (out.take kk ++ z :: out.drop kk).length = out.length + 1 := by simp; omega
        refine hK6 _ _ (awp_le _ hle (awp_region ?_))
        refine ao_r (rig_move rfl rfl) rfl (ao_r (rig_move rfl rfl) rfl (ao_r (rig_loadN (vs := encSn s0) rfl rfl Try.isAgg45 Try.sizeOf45 (snB_at 0 hd rfl)) rfl (ao_r (rig_ix kk rfl rfl rfl Try.underlying41 Try.sizeOf45 rfl rfl (by omega)) rfl ?_)))
        refine ao_x0 (ex_store (i := 1) rfl hd rfl rfl Try.sizeOf45 (encSn_one s0) rfl (by simp [Value.cells, rows_length encSn_len, hz, encSn]; omega)) fun u m2 ⟨_, hm2, hd2⟩ => ao_nil ?_
        subst hm2
        have erow : putR (rows encSn (out.take kk ++ z :: out.drop kk) ++ sp).toArray (0 + kk * 3) (encSn s0) = (rows encSn (out.take kk ++ s0 :: out.drop kk) ++ sp).toArray := by
          rw [Nat.zero_add, putR_rows encSn_len _ kk s0 sp (by omega)]
          congr 3
          rw [List.set_append_right _ _ (by simp; omega)]; simp [Nat.min_eq_left hk]
        replace hd2 : Dj [snB p13 s0, Go.Aw.one g (.cells (putR (rows encSn (out.take kk ++ z :: out.drop kk) ++ sp).toArray (0 + kk * 3) (encSn s0)) 45 (0, 0)), G4] := hd2
        show K3 _ (U [snB p13 s0, Go.Aw.one g (.cells (putR (rows encSn (out.take kk ++ z :: out.drop kk) ++ sp).toArray (0 + kk * 3) (encSn s0)) 45 (0, 0)), G4])
        rw [erow] at hd2 ⊢
        have hz2 : (out.take kk ++ s0 :: out.drop kk).length = out.length + 1 := by simp; omega
        have hO2 := Own.mk_ (E := 45) (g := g) (cap := cap2) (sp := sp) (l := out.take kk ++ s0 :: out.drop kk) encSn_len (by rw [List.length_append, rows_length encSn_len] at hsp ⊢; rw [hz2]; simpa using hsp) (by rw [hz2]; exact hnc) hcm
        rw [hz2] at hO2
        have hp : U [snB p13 s0, Go.Aw.one g (.cells (rows encSn (out.take kk ++ s0 :: out.drop kk) ++ sp).toArray 45 (0, 0)), G4] = U [Go.Aw.one g (.cells (rows encSn (out.take kk ++ s0 :: out.drop kk) ++ sp).toArray 45 (0, 0)), snB p13 s0, G4] ∧ Dj [Go.Aw.one g (.cells (rows encSn (out.take kk ++ s0 :: out.drop kk) ++ sp).toArray 45 (0, 0)), snB p13 s0, G4] := U_pm [1, 0, 2] rfl hd2
        have e8 : U [Go.Aw.one g (.cells (rows encSn (out.take kk ++ s0 :: out.drop kk) ++ sp).toArray 45 (0, 0)), snB p13 s0, G4] = U [Go.Aw.one g (.cells (rows encSn (out.take kk ++ s0 :: out.drop kk) ++ sp).toArray 45 (0, 0)), U [snB p13 s0, G4]] := (U_flat [_] _).symm
        have hd8 : Dj [Go.Aw.one g (.cells (rows encSn (out.take kk ++ s0 :: out.drop kk) ++ sp).toArray 45 (0, 0)), U [snB p13 s0, G4]] := Dj_unflat (A := [_]) hp.2
        obtain ⟨q1, q2⟩ := hI.asc hasc2 (fun y hy => by rw [← seenOf_ino hseen] at hne; exact hne y hy)
        rw [hp.1, e8]
        exact hnext _ _ _ _ _ hd8 (hG4.trans (le_at 1 hp.2.2 rfl)) hO2 q1 (q2.trans (by rw [htk, hseen]; exact hperm.append_right _)) ⟨rfl, rfl, rfl, rfl, rfl, trivial⟩
      refine awp_block ?_
      refine awp_le [(1, .string pfx), (2, .int .i64 size), (3, .pointer (some ⟨p3, 0, none⟩)), (7, .slice (some ⟨g, 0, none⟩) (out.length + 1) cap2), (8, .int .i64 i), (13, .pointer (some ⟨p13, 0, none⟩)), (14, .int .i64 out.length)] ⟨rfl, rfl, rfl, rfl, rfl, rfl, rfl, trivial⟩ ?_
      refine awp_loop (fun k r mm => ∃ z : Sn, k ≤ out.length ∧ r = [(1, .string pfx), (2, .int .i64 size), (3, .pointer (some ⟨p3, 0, none⟩)), (7, .slice (some ⟨g, 0, none⟩) (out.length + 1) cap2), (8, .int .i64 i), (13, .pointer (some ⟨p13, 0, none⟩)), (14, .int .i64 (k : Nat))] ∧ U [snB p13 s0, Go.Aw.one g (.cells (rows encSn (out.take k ++ z :: out.drop k) ++ sp).toArray 45 (0, 0)), G4] = mm ∧ Dj [snB p13 s0, Go.Aw.one g (.cells (rows encSn (out.take k ++ z :: out.drop k) ++ sp).toArray 45 (0, 0)), G4] ∧ ∀ y ∈ out.drop k, lessS s0 y = true) out.length
        ⟨s0, Nat.le_refl _, rfl, by rw [List.take_length, List.drop_length], by rw [List.take_length, List.drop_length]; exact hD7, by rw [List.drop_length]; intro y hy; cases hy⟩ ?_
      clear hD7
      rintro k r mm ⟨z, hk, rfl, rfl, hd, hles⟩
      have hz : (out.take k ++ z :: out.drop k).length = out.length + 1 := by simp; omega
      refine awp_sk fun K7 hK7 => ?_
      by_cases hk0 : (0 : Int) < (k : Int)
      · obtain ⟨y, hy⟩ := get_lt (l := out) (i := k - 1) (by omega)
        have hyl : (out.take k ++ z :: out.drop k)[k - 1]? = some y := by
          rw [List.getElem?_append_left (by rw [List.length_take]; omega), List.getElem?_take_of_lt (by omega), hy]
        have hyc : CellsAt (U [snB p13 s0, Go.Aw.one g (.cells (rows encSn (out.take k ++ z :: out.drop k) ++ sp).toArray 45 (0, 0)), G4]) g (0 + (k - 1) * 3) (encSn y) := by
          refine CellsAt.le (le_at 1 hd rfl) (CellsAt.elem encSn_len (CellsAt.of_get fun j v hj => ?_) hyl)
          refine Go.Aw.one_cell g _ 45 _ v ?_
          rw [List.getElem?_toArray, Nat.zero_add, List.getElem?_append_left (List.getElem?_eq_some_iff.1 hj).1]; exact hj
        refine awp_ds (.q 0 (.q 1 (.q 2 (.q 3 (.q 4 (.q 5 (.q 6 (.q 7 (.q 8 (.q 9 (.q 10 .fin))))))))))) [] (by kernel_rfl) (by kernel_rfl) ?_
        refine oq rfl (rig_move rfl rfl) rfl (oq rfl (rig_gtr rfl rfl rfl) rfl ?_)
        rw [decide_eq_true hk0]
        refine oq rfl (rig_move rfl rfl) rfl (oqon rfl rfl rfl (rig_loadN (vs := encSn s0) rfl rfl Try.isAgg45 Try.sizeOf45 (snB_at 0 hd rfl)) rfl (oqon rfl rfl rfl (rig_move rfl rfl) rfl (oqon rfl rfl rfl (rig_move rfl rfl) rfl (oqon rfl rfl rfl (rig_sub (c := ((k - 1 : Nat) : Int)) rfl rfl rfl (by rw [w64 _ (by omega) (by omega)]; omega)) rfl ?_))))
        refine oqon rfl rfl rfl (rig_ix (k - 1) rfl rfl rfl Try.underlying41 Try.sizeOf45 rfl rfl (by omega)) rfl (oqon rfl rfl rfl (rig_loadN (vs := encSn y) rfl rfl Try.isAgg45 Try.sizeOf45 hyc) rfl (oqon rfl rfl rfl (rig_call (vs := [s0.val, y.val]) rfl rfl e39 (F39r _ s0 y)) rfl (oq rfl (rig_pickT rfl rfl rfl) rfl (od_fin ?_))))
        refine awp_cond rfl (fun h5 => ?_) (fun h5 => ?_)
        · refine awp_skip (hK7 _ _ (awp_block (awp_rs ?_)))
          refine ao_r (rig_move rfl rfl) rfl (ao_r (rig_move rfl rfl) rfl (ao_r (rig_move rfl rfl) rfl (ao_r (rig_move rfl rfl) rfl (ao_r (rig_sub (c := ((k - 1 : Nat) : Int)) rfl rfl rfl (by rw [w64 _ (by omega) (by omega)]; omega)) rfl (ao_r (rig_ix (k - 1) rfl rfl rfl Try.underlying41 Try.sizeOf45 rfl rfl (by omega)) rfl (ao_r (rig_loadN (vs := encSn y) rfl rfl Try.isAgg45 Try.sizeOf45 hyc) rfl (ao_r (rig_ix k rfl rfl rfl Try.underlying41 Try.sizeOf45 rfl rfl (by omega)) rfl ?_)))))))
          refine ao_x0 (ex_store (i := 1) rfl hd rfl rfl Try.sizeOf45 (encSn_one y) rfl (by simp [Value.cells, rows_length encSn_len, hz, encSn]; omega)) fun u m2 ⟨_, hm2, hd2⟩ => ao_nil ?_
          subst hm2
          have elist : (out.take k ++ z :: out.drop k).set k y = out.take (k - 1) ++ y :: out.drop (k - 1) := by
            have e1 : out.take k = out.take (k - 1) ++ [y] := by
              have := takeS hy
              rwa [show k - 1 + 1 = k by omega] at this
            have e2 : out.drop (k - 1) = y :: out.drop k := by
              have := List.drop_eq_getElem_cons (l := out) (i := k - 1) (by omega)
              rw [this, show k - 1 + 1 = k by omega, (List.getElem?_eq_some_iff.1 hy).2]
            rw [List.set_append_right _ _ (by simp; omega), List.length_take, Nat.min_eq_left hk, Nat.sub_self, List.set_cons_zero, e1, e2]
            simp
          have erow : putR (rows encSn (out.take k ++ z :: out.drop k) ++ sp).toArray (0 + k * 3) (encSn y) = (rows encSn (out.take (k - 1) ++ y :: out.drop (k - 1)) ++ sp).toArray := by
            rw [Nat.zero_add, putR_rows encSn_len _ k y sp (by omega), elist]
          replace hd2 : Dj [snB p13 s0, Go.Aw.one g (.cells (putR (rows encSn (out.take k ++ z :: out.drop k) ++ sp).toArray (0 + k * 3) (encSn y)) 45 (0, 0)), G4] := hd2
          show AWp _ _ _ _ _ (U [snB p13 s0, Go.Aw.one g (.cells (putR (rows encSn (out.take k ++ z :: out.drop k) ++ sp).toArray (0 + k * 3) (encSn y)) 45 (0, 0)), G4])
          rw [erow] at hd2 ⊢
          refine awp_region (ao_r (rig_move rfl rfl) rfl (ao_r (rig_sub (c := ((k - 1 : Nat) : Int)) rfl rfl rfl (by rw [w64 _ (by omega) (by omega)]; omega)) rfl (ao_r (rig_assign rfl rfl) rfl (ao_nil ?_))))
          refine ⟨[(1, .string pfx), (2, .int .i64 size), (3, .pointer (some ⟨p3, 0, none⟩)), (7, .slice (some ⟨g, 0, none⟩) (out.length + 1) cap2), (8, .int .i64 i), (13, .pointer (some ⟨p13, 0, none⟩)), (14, .int .i64 (k - 1 : Nat))], k - 1, ⟨rfl, rfl, rfl, rfl, rfl, rfl, rfl, trivial⟩, by omega, y, by omega, rfl, rfl, hd2, fun w hw => ?_⟩
          have e2 : out.drop (k - 1) = y :: out.drop k := by
            have := List.drop_eq_getElem_cons (l := out) (i := k - 1) (by omega)
            rw [this, show k - 1 + 1 = k by omega, (List.getElem?_eq_some_iff.1 hy).2]
          rw [e2] at hw
          rcases List.mem_cons.1 hw with rfl | hw
          · exact h5
          · exact hles w hw
        · exact awp_exit (fin k z _ hk hd ⟨k, hk, rfl, hles, fun _ => ⟨y, hy, h5⟩⟩ ⟨rfl, rfl, rfl, rfl, rfl, rfl, rfl, trivial⟩)
      · obtain rfl : k = 0 := by omega
        refine awp_ds (.q 0 (.q 1 (.q 2 (.q 3 (.q 4 (.q 5 (.q 6 (.q 7 (.q 8 (.q 9 (.q 10 .fin))))))))))) [] (by kernel_rfl) (by kernel_rfl) ?_
        refine oq rfl (rig_move rfl rfl) rfl (oq rfl (rig_gtr rfl rfl rfl) rfl ?_)
        rw [decide_eq_false hk0]
        refine oq rfl (rig_move rfl rfl) rfl (oqno rfl rfl rfl rfl rfl (oqno rfl rfl rfl rfl rfl (oqno rfl rfl rfl rfl rfl (oqno rfl rfl rfl rfl rfl (oqno rfl rfl rfl rfl rfl (oqno rfl rfl rfl rfl rfl (oqno rfl rfl rfl rfl rfl (oq rfl (rig_pickF rfl rfl rfl) rfl (od_fin ?_)))))))))
        exact awp_false rfl (awp_exit (fin 0 z _ hk hd ⟨0, hk, rfl, hles, fun h => by omega⟩ ⟨rfl, rfl, rfl, rfl, rfl, rfl, rfl, trivial⟩))
    refine awp_draw (.q 0 (.q 1 (.q 2 (.q 3 (.q 4 (.q 5 (.q 6 (.b 7 (.q 8 (.q 9 (.p 10 (.s 11 (.s 12 (.q 13 .fin)))))) 11 (.s 7 (.q 8 (.q 9 (.p 10 (.s 12 (.q 13 .fin)))))))))))))) [12] (by kernel_rfl) (by kernel_rfl) ?_
    refine oq rfl (rig_loadN (vs := [_, _, _]) rfl rfl Try.isAgg30 Try.sizeOf30 hdc) rfl (oq rfl (rig_fieldAddr rfl rfl Try.underlying30 rfl Try.sizeOf27 rfl) rfl (oq rfl (rig_load1 rfl rfl Try.isAgg27 d1) rfl (oq rfl (rig_move rfl rfl) rfl (oq rfl (rig_ix i rfl rfl rfl Try.underlying27 Try.sizeOf61 rfl rfl hil) rfl (oq rfl (rig_fieldAddr rfl rfl Try.underlying61 rfl Try.sizeOf3 rfl) rfl (oq rfl (rig_load1 rfl rfl Try.isAgg3 hxc.1) rfl ?_))))))
    have hxok := (hd3.d x hxm)
    refine od_b ?_ ?_
    · refine os rfl (ex_call rfl rfl e36 (F36 _ _ _ _ fs i x (RdSl.le hd3.f hmU) hfl hidx hx (hxok.le hmU) (hF x hxm))) rfl fun u m7 ⟨y, c7, G7, hu, hm7, hd7, hG7, hyi, hyd, hyr, hyc⟩ => ⟨fun _ => by subst hm7; exact hG7.trans (le_at 1 hd7 rfl), ?_⟩
      subst hu hm7
      obtain ⟨G8, hG8, hd8, rfl⟩ := grow_to (cs := [Y]) hD hG7
      replace hd8 : Dj [Y, G8] := hd8
      have hd9 : Dj [c7, Y, G8] := Dj_flat (A := [c7]) hd7 hd8
      have e9 : U [c7, U [Y, G8]] = U [c7, Y, G8] := U_flat [c7] _
      have hp : U [c7, Y, G8] = U [Y, c7, G8] ∧ Dj [Y, c7, G8] := U_pm [1, 0, 2] rfl hd9
      have e10 : U [Y, c7, G8] = U [Y, U [c7, G8]] := (U_flat [Y] _).symm
      have hd10 : Dj [Y, U [c7, G8]] := Dj_unflat (A := [Y]) hp.2
      have hcG : Dj [c7, G8] := hp.2.2
      show AOrd _ _ _ _ _ _ _ (U [c7, U [Y, G8]])
      rw [e9, hp.1, e10]
      refine oq rfl (rig_move rfl rfl) rfl (oq rfl (rig_extract rfl rfl rfl) rfl (opu rfl (rig_extract rfl rfl rfl) rfl ?_))
      refine os rfl (ex_alloc rfl hd10 Try.zeroValue61) rfl fun u m11 ⟨p9, hu, hm11, hd11⟩ => ⟨fun _ => by subst hm11; exact U_le_tail hd11, ?_⟩
      subst hu hm11
      refine os0 rfl (ex_store (i := 0) rfl hd11 rfl rfl Try.sizeOf61 (encF_one y) rfl (Nat.le_refl 5)) fun u m12 ⟨_, hm12, hd12⟩ => ⟨fun h => by simp at h, ?_⟩
      subst hm12
      rw [List.set_cons_zero, putR_all _ _ (by rfl)] at hd12 ⊢
      replace hd12 : Dj [filB p9 y, Y, U [c7, G8]] := hd12
      refine oq rfl (rig_assign rfl rfl) rfl (od_fin ?_)
      exact hfile _ p9 y _ hd12 (hG8.trans (le_at 1 hcG rfl)) hyi hyd (RdSl.le hyr (le_at 0 hcG rfl)) ⟨rfl, rfl, rfl, rfl, rfl, rfl, rfl, trivial⟩
    · refine os rfl (ex_alloc rfl hD Try.zeroValue61) rfl fun u m11 ⟨p9, hu, hm11, hd11⟩ => ⟨fun _ => by subst hm11; exact U_le_tail hd11, ?_⟩
      subst hu hm11
      replace hd11 : Dj [filB p9 fl0, Y, G] := hd11
      have hm11 : HpLe m3 (U [filB p9 fl0, Y, G]) := hG.trans (le_at 2 hd11 rfl)
      show AOrd _ _ _ _ _ _ _ (U [filB p9 fl0, Y, G])
      refine os rfl (ex_call rfl rfl e36 (F36 _ _ _ _ fs i x (RdSl.le hd3.f hm11) hfl hidx hx (hxok.le hm11) (hF x hxm))) rfl fun u m7 ⟨y, c7, G7, hu, hm7, hd7, hG7, hyi, hyd, hyr, hyc⟩ => ⟨fun _ => by subst hm7; exact hG7.trans (le_at 1 hd7 rfl), ?_⟩
      subst hu hm7
      obtain ⟨G8, hG8, hd8, rfl⟩ := grow_to (cs := [filB p9 fl0, Y]) hd11 hG7
      replace hd8 : Dj [filB p9 fl0, Y, G8] := hd8
      have hd9 : Dj [c7, filB p9 fl0, Y, G8] := Dj_flat (A := [c7]) hd7 hd8
      have e9 : U [c7, U [filB p9 fl0, Y, G8]] = U [c7, filB p9 fl0, Y, G8] := U_flat [c7] _
      have hp : U [c7, filB p9 fl0, Y, G8] = U [filB p9 fl0, Y, c7, G8] ∧ Dj [filB p9 fl0, Y, c7, G8] := U_pm [1, 2, 0, 3] rfl hd9
      have e10 : U [filB p9 fl0, Y, c7, G8] = U [filB p9 fl0, Y, U [c7, G8]] := (U_flat [_, Y] _).symm
      have hd10 : Dj [filB p9 fl0, Y, U [c7, G8]] := Dj_unflat (A := [_, Y]) hp.2
      have hcG : Dj [c7, G8] := hp.2.2.2
      show AOrd _ _ _ _ _ _ _ (U [c7, U [filB p9 fl0, Y, G8]])
      rw [e9, hp.1, e10]
      refine oq rfl (rig_move rfl rfl) rfl (oq rfl (rig_extract rfl rfl rfl) rfl (opu rfl (rig_extract rfl rfl rfl) rfl ?_))
      refine os0 rfl (ex_store (i := 0) rfl hd10 rfl rfl Try.sizeOf61 (encF_one y) rfl (Nat.le_refl 5)) fun u m12 ⟨_, hm12, hd12⟩ => ⟨fun h => by simp at h, ?_⟩
      subst hm12
      rw [List.set_cons_zero, putR_all _ _ (by rfl)] at hd12 ⊢
      replace hd12 : Dj [filB p9 y, Y, U [c7, G8]] := hd12
      refine oq rfl (rig_assign rfl rfl) rfl (od_fin ?_)
      exact hfile _ p9 y _ hd12 (hG8.trans (le_at 1 hcG rfl)) hyi hyd (RdSl.le hyr (le_at 0 hcG rfl)) ⟨rfl, rfl, rfl, rfl, rfl, rfl, rfl, trivial⟩
  · obtain rfl : i = fs.length := by omega
    rw [List.take_length] at hperm
    refine awp_exit (hK1 _ _ (awp_rs (ao_r (rig_move rfl rfl) rfl (ao_r (rig_assign rfl rfl) rfl (ao_nil ?_)))))
    exact awp_ret ⟨_, res1 Try.results13 rfl, out, hl3.trans hmU, RdSl.le hO.rd (le_at 0 hD rfl), hasc2, hperm⟩
end Go.Proofs.Ytbonkkbpjlikjaa
