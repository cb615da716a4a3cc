/- Chapter 8, the program: Scan (plain part). -/
import Derived.Test.YtbonkkbpjlikjaaSorting
set_option linter.unusedVariables false
set_option linter.unusedSimpArgs false
namespace Go.Aw
open Go Go.RowKit
def keysG (gs : List (Int × Value)) : List Int := gs.map (·.1)
theorem putG_keys (k : Int) (v : Value) (gs : List (Int × Value)) : (k ∈ keysG gs ∧ keysG (putG k v gs) = keysG gs) ∨ (k ∉ keysG gs ∧ keysG (putG k v gs) = keysG gs ++ [k]) := by
  unfold putG
  cases hq : fndG k gs 0 with
  | none =>
    refine .inr ⟨fun h => ?_, by simp [keysG]⟩
    obtain ⟨a, ha, e⟩ := List.mem_map.1 h
    exact fndG_none hq a ha e
  | some p =>
    obtain ⟨i, u⟩ := p
    obtain ⟨_, h⟩ := fndG_get hq
    rw [Nat.sub_zero] at h
    refine .inl ⟨List.mem_map.2 ⟨(k, u), List.mem_of_getElem? h, rfl⟩, ?_⟩
    show (gs.set i (k, v)).map (·.1) = _
    apply List.ext_getElem?
    intro j
    rw [keysG, List.getElem?_map, List.getElem?_map, List.getElem?_set]
    by_cases e : i = j
    · subst e
      have h3 := (List.getElem?_eq_some_iff.1 h).1
      rw [if_pos rfl, if_pos h3, h]; rfl
    · rw [if_neg e]
theorem putG_mem (k : Int) (v : Value) (gs : List (Int × Value)) (x : Int) : x ∈ keysG (putG k v gs) ↔ x ∈ keysG gs ∨ x = k := by
  rcases putG_keys k v gs with ⟨h1, h2⟩ | ⟨h1, h2⟩
  · rw [h2]
    exact ⟨.inl, fun h => h.elim id fun e => by rw [e]; exact h1⟩
  · rw [h2, List.mem_append, List.mem_singleton]
theorem putG_nodup {k : Int} {v : Value} {gs : List (Int × Value)} (h : (keysG gs).Nodup) : (keysG (putG k v gs)).Nodup := by
  rcases putG_keys k v gs with ⟨h1, h2⟩ | ⟨h1, h2⟩
  · rw [h2]; exact h
  · rw [h2, List.nodup_append]
    exact ⟨h, by simp, fun a ha b hb => by simp at hb; subst hb; exact fun e => h1 (e ▸ ha)⟩
theorem putG_len (k : Int) (v : Value) (gs : List (Int × Value)) : (putG k v gs).length ≤ gs.length + 1 := by
  have : (keysG (putG k v gs)).length ≤ (keysG gs).length + 1 := by
    rcases putG_keys k v gs with ⟨_, h2⟩ | ⟨_, h2⟩ <;> rw [h2] <;> simp
  simpa [keysG] using this
theorem range_permK {n : Nat} {S : List Nat} (h1 : S.Nodup) (h2 : ∀ j ∈ S, j < n) (h3 : ∀ j, j < n → j ∈ S) : S.Perm (List.range n) :=
  (List.perm_ext_iff_of_nodup h1 List.nodup_range).2 fun j => by rw [List.mem_range]; exact ⟨h2 j, h3 j⟩
theorem nodup_lenK {n : Nat} {S : List Nat} (h1 : S.Nodup) (h2 : ∀ j ∈ S, j < n) : S.length ≤ n := by
  have h : S.Perm ((List.range n).filter fun j => S.contains j) := (List.perm_ext_iff_of_nodup h1 (List.Pairwise.filter _ List.nodup_range)).2 fun j => by
    rw [List.mem_filter, List.mem_range]
    exact ⟨fun hj => ⟨h2 j hj, by simpa using hj⟩, fun ⟨_, hj⟩ => by simpa using hj⟩
  rw [h.length_eq]
  exact Nat.le_trans (List.length_filter_le ..) (by simp)
theorem rng_filterMap {α β : Type} (l : List α) (f : α → Option β) : (List.range l.length).filterMap (fun j => (l[j]?).bind f) = l.filterMap f := by
  have : ∀ k, k ≤ l.length → (List.range k).filterMap (fun j => (l[j]?).bind f) = (l.take k).filterMap f := by
    intro k
    induction k with
    | zero => intro _; simp
    | succ k ih =>
      intro hk
      obtain ⟨x, hx⟩ := get_lt (l := l) (i := k) (by omega)
      rw [List.range_succ, List.filterMap_append, ih (by omega), takeS hx, List.filterMap_append]
      congr 1
      simp only [List.filterMap_cons, hx, Option.bind_some, List.filterMap_nil]
  have h := this l.length (Nat.le_refl _)
  rwa [List.take_length] at h
end Go.Aw
namespace Go.Proofs.Ytbonkkbpjlikjaa
open Go Go.Aw Go.Pl Go.RowKit
def numSn (size : Int) (x : Fl) : Option Sn := if numOk (cutF x).length size then some ⟨numV (cutF x) size, x.ino, (cutF x).length⟩ else none
def gK (fs : List Fl) (size : Int) (k : Int) : Option Sn := match fs.find? (inoIs k) with | some x => numSn size x | none => none
theorem asc_eq {fs : List Fl} (hasc : fs.Pairwise (fun a b => a.ino < b.ino)) {x y : Fl} (hx : x ∈ fs) (hy : y ∈ fs) (h : x.ino = y.ino) : x = y := by
  obtain ⟨i, hi⟩ := List.mem_iff_getElem?.1 hx
  obtain ⟨j, hj⟩ := List.mem_iff_getElem?.1 hy
  obtain ⟨h1, e1⟩ := List.getElem?_eq_some_iff.1 hi
  obtain ⟨h2, e2⟩ := List.getElem?_eq_some_iff.1 hj
  rcases Nat.lt_trichotomy i j with h3 | h3 | h3
  · have := List.pairwise_iff_getElem.1 hasc i j h1 h2 h3
    rw [e1, e2] at this; omega
  · subst h3; rw [← e1, ← e2]
  · have := List.pairwise_iff_getElem.1 hasc j i h2 h1 h3
    rw [e1, e2] at this; omega
theorem find_asc {fs : List Fl} (hasc : fs.Pairwise (fun a b => a.ino < b.ino)) {x : Fl} (hx : x ∈ fs) : fs.find? (inoIs x.ino) = some x := by
  cases hq : fs.find? (inoIs x.ino) with
  | none => rw [List.find?_eq_none] at hq; exact absurd (decide_eq_true rfl) (hq x hx)
  | some y =>
    have h1 := List.mem_of_find?_eq_some hq
    have h2 := List.find?_some hq
    rw [asc_eq hasc h1 hx (of_decide_eq_true h2)]
theorem numSn_ino {size : Int} {x : Fl} {y : Sn} (h : numSn size x = some y) : y.ino = x.ino := by
  unfold numSn at h
  split at h
  · obtain rfl := Option.some.inj h; rfl
  · cases h
theorem gK_spec {fs : List Fl} {size k : Int} {y : Sn} (h : gK fs size k = some y) : ∃ x ∈ fs, x.ino = k ∧ numSn size x = some y := by
  unfold gK at h
  cases hq : fs.find? (inoIs k) with
  | none => rw [hq] at h; cases h
  | some x =>
    rw [hq] at h
    have h2 := List.find?_some hq
    exact ⟨x, List.mem_of_find?_eq_some hq, of_decide_eq_true h2, h⟩
theorem seenOf_eq {ns : List Nm} {oz : List Int} {pfx : ByteArray} {size : Int} {x : Fl} : seenOf ns oz pfx size x = if folB ns oz pfx x.ino then numSn size x else none := by
  unfold seenOf numSn
  cases numOk (cutF x).length size <;> cases folB ns oz pfx x.ino <;> rfl
theorem scan_perm {ns : List Nm} {oz : List Int} {fs : List Fl} {pfx : ByteArray} {size : Int} (hasc : fs.Pairwise (fun a b => a.ino < b.ino)) {K : List Int} (hK : K.Nodup) (hm : ∀ k, k ∈ K ↔ folB ns oz pfx k = true) : (K.filterMap (gK fs size)).Perm (fs.filterMap (seenOf ns oz pfx size)) := by
  have n1 : (K.filterMap (gK fs size)).Nodup := by
    rw [List.Nodup, List.pairwise_filterMap]
    refine List.Pairwise.imp ?_ hK
    intro a a' hne b hb b' hb' e
    obtain ⟨x, _, h1, h2⟩ := gK_spec hb
    obtain ⟨x', _, h1', h2'⟩ := gK_spec hb'
    have e1 := numSn_ino h2
    have e2 := numSn_ino h2'
    rw [e] at e1
    exact hne (by rw [← h1, ← h1', ← e1, ← e2])
  have n2 : (fs.filterMap (seenOf ns oz pfx size)).Nodup := by
    rw [List.Nodup, List.pairwise_filterMap]
    refine List.Pairwise.imp ?_ hasc
    intro a a' hlt b hb b' hb' e
    have e1 := seenOf_ino hb
    have e2 := seenOf_ino hb'
    rw [e] at e1
    omega
  rw [List.perm_ext_iff_of_nodup n1 n2]
  intro y
  rw [List.mem_filterMap, List.mem_filterMap]
  constructor
  · rintro ⟨k, hk, hg⟩
    obtain ⟨x, hx, rfl, hn⟩ := gK_spec hg
    exact ⟨x, hx, by rw [seenOf_eq, if_pos ((hm _).1 hk)]; exact hn⟩
  · rintro ⟨x, hx, hs⟩
    rw [seenOf_eq] at hs
    split at hs
    · rename_i hf
      exact ⟨x.ino, (hm _).2 hf, by rw [gK, find_asc hasc hx]; exact hs⟩
    · cases hs
/-- Sorted, with different inodes: in the strict order. -/
theorem ltS_of_sorted {l : List Sn} (h : l.Pairwise fun a b => lessS b a = false) (hn : l.Pairwise fun a b => a.ino ≠ b.ino) : l.Pairwise LtS :=
  (h.and hn).imp fun ⟨h1, h2⟩ => lessS_tot (Ne.symm h2) h1
theorem ino_perm {l l' : List Sn} (h : l.Perm l') (hn : l'.Pairwise fun a b => a.ino ≠ b.ino) : l.Pairwise fun a b => a.ino ≠ b.ino :=
  (h.pairwise_iff (fun {a b} (h : a.ino ≠ b.ino) => Ne.symm h)).2 hn
theorem seen_inos {ns : List Nm} {oz : List Int} {fs : List Fl} {pfx : ByteArray} {size : Int} (hasc : fs.Pairwise (fun a b => a.ino < b.ino)) : (fs.filterMap (seenOf ns oz pfx size)).Pairwise fun a b => a.ino ≠ b.ino := by
  rw [List.pairwise_filterMap]
  refine List.Pairwise.imp ?_ hasc
  intro a a' hlt b hb b' hb'
  have e1 := seenOf_ino hb
  have e2 := seenOf_ino hb'
  omega
end Go.Proofs.Ytbonkkbpjlikjaa
/- Chapter 8, the program: Scan. -/
set_option linter.unusedVariables false
set_option linter.unusedSimpArgs false
namespace Go.Proofs.Ytbonkkbpjlikjaa
open Go Go.Aw Go.Pl Go.RowKit
/-- The map of what is wanted, beside the rest. -/
def mpB (b : Nat) (gs : List (Int × Value)) : Hp := Go.Aw.one b (mapO gs)
theorem e11 : Enters Try.prog 11 := enters_of Try.func11 (by kernel_rfl) rfl
set_option maxHeartbeats 4000000 in
set_option maxRecDepth 100000 in
theorem F11 (m : Hp) (vn vf vo : Value) (ns : List Nm) (fs : List Fl) (oz : List Int) (pfx : ByteArray) (size : Int) (hd : Dir m vn vf vo ns fs oz) (hnl : ns.length ≤ 1048576) (hfl : fs.length ≤ 1048576) (hol : oz.length ≤ 1048576) (hasc : fs.Pairwise (fun a b => a.ino < b.ino)) (hF : ∀ x ∈ fs, FOk 1048576 x) :
    GC Try.prog 11 #[.agg #[vn, vf, vo], .string pfx, .int .i64 size] m (fun u m' => ∃ (out : List Sn) (c G : Hp), m' = U [c, G] ∧ Dj [c, G] ∧ HpLe m G ∧ Own 45 3 c u (rows encSn out) ∧ out.Pairwise LtS ∧ out.Perm (fs.filterMap (seenOf ns oz pfx size))) := by
  obtain ⟨An, cn, rfl, _⟩ := RdSl.form encN_len (by decide) hd.n
  obtain ⟨Af, kf, rfl, _⟩ := RdSl.form encF_len (by decide) hd.f
  obtain ⟨Ao, co, rfl, _⟩ := RdSl.form encZ_len (by decide) hd.o
  refine gc_intro (vs := [_, _, _]) Try.func11 rfl Try.ntmps11 (by simp) ?_
  refine awp_rs ?_
  refine ao_x (ex_boxR rfl rfl) rfl fun v m3 ⟨p3, hv, hl3, hc3⟩ => ao_r (rig_assign rfl rfl) rfl (ao_nil ?_)
  subst hv
  have hd3 := hd.le hl3
  rw [U_one m3]
  refine awp_rs (ao_x (ex_makeMap rfl (Dj_single m3)) rfl fun u m1 ⟨bm, hu, hm1, hD1⟩ => ao_r (rig_assign rfl rfl) rfl (ao_nil ?_))
  subst hu hm1
  replace hD1 : Dj [mpB bm [], m3] := hD1
  show AWp _ _ _ _ _ (U [mpB bm [], m3])
  have h31 : HpLe m3 (U [mpB bm [], m3]) := le_at 1 hD1 rfl
  obtain ⟨d0, d1, d2, _⟩ := hc3.le h31
  -- what is open
  refine awp_sk fun K1 hK1 => awp_rs ?_
  refine ao_r (rig_fieldAddr rfl rfl Try.underlying30 rfl Try.sizeOf28 rfl) rfl (ao_r (rig_load1 rfl rfl Try.isAgg28 d2) rfl (ao_r (rig_lenSl rfl rfl Try.underlying28) rfl (ao_r (rig_move rfl rfl) rfl (ao_nil ?_))))
  refine awp_block ?_
  refine awp_le [(1, .string pfx), (2, .int .i64 size), (3, .pointer (some ⟨p3, 0, none⟩)), (7, .map (some bm)), (20, .slice Ao oz.length co), (21, .int .i64 oz.length), (22, .int .i64 (0 : Nat))] ⟨rfl, rfl, rfl, rfl, rfl, rfl, rfl, trivial⟩ ?_
  refine awp_loop (fun kk r mm => ∃ (i : Nat) (gs : List (Int × Value)), i ≤ oz.length ∧ kk = oz.length - i ∧ r = [(1, .string pfx), (2, .int .i64 size), (3, .pointer (some ⟨p3, 0, none⟩)), (7, .map (some bm)), (20, .slice Ao oz.length co), (21, .int .i64 oz.length), (22, .int .i64 i)] ∧ U [mpB bm gs, m3] = mm ∧ Dj [mpB bm gs, m3] ∧ (keysG gs).Nodup ∧ (∀ x, x ∈ keysG gs ↔ x ∈ oz.take i) ∧ gs.length ≤ i) oz.length
    ⟨0, [], by omega, rfl, rfl, rfl, hD1, List.nodup_nil, fun x => by simp [keysG], Nat.le_refl _⟩ ?_
  clear hD1 h31 d0 d1 d2
  rintro kk r mm ⟨i, gs, hi, rfl, rfl, rfl, hD, hnd, hmem, hgl⟩
  have h3 : HpLe m3 (U [mpB bm gs, m3]) := le_at 1 hD rfl
  refine awp_rs (ao_r (rig_lss rfl rfl rfl) rfl (ao_nil ?_))
  refine awp_sk fun K2 hK2 => ?_
  refine awp_if rfl (fun h => ?_) (fun h => ?_)
  · obtain ⟨z, hzz⟩ := get_lt (l := oz) (i := i) (by omega)
    obtain ⟨bz, of, cz', e, hzc⟩ := RdSl.get_ encZ_len (by decide) (RdSl.le hd3.o h3) hzz
    simp only [Value.slice.injEq] at e
    obtain ⟨rfl, _, rfl⟩ := e
    refine awp_skip (hK2 _ _ (awp_sk fun K3 hK3 => awp_block (awp_rs ?_)))
    refine ao_r (rig_ix i rfl rfl rfl Try.underlying28 Try.sizeOf3 rfl rfl (by omega)) rfl (ao_r (rig_load1 rfl rfl Try.isAgg3 hzc.1) rfl (ao_r (rig_assign rfl rfl) rfl (ao_nil ?_)))
    refine awp_region (ao_r (rig_move rfl rfl) rfl (ao_r (rig_move rfl rfl) rfl ?_))
    refine ao_x0 (ex_mapUpdate 0 rfl hD rfl rfl rfl Try.underlying66 Try.underlying3 rfl) fun u2 m5 ⟨hm5, hD5⟩ => ao_nil ?_
    subst hm5
    replace hD5 : Dj [mpB bm (putG z (.string ⟨#[]⟩) gs), m3] := hD5
    refine hK3 _ _ (awp_region (ao_r (rig_add (c := ((i + 1 : Nat) : Int)) rfl rfl rfl (w64 _ (by omega) (by omega))) rfl (ao_r (rig_move rfl rfl) rfl (ao_nil ?_))))
    exact ⟨[(1, .string pfx), (2, .int .i64 size), (3, .pointer (some ⟨p3, 0, none⟩)), (7, .map (some bm)), (20, .slice (some ⟨bz, of, none⟩) oz.length co), (21, .int .i64 oz.length), (22, .int .i64 (i + 1 : Nat))], _, ⟨rfl, rfl, rfl, rfl, rfl, rfl, rfl, trivial⟩, by omega, i + 1, _, by omega, rfl, rfl, rfl, hD5, putG_nodup hnd, fun x => by rw [putG_mem, hmem, takeS hzz, List.mem_append, List.mem_singleton], Nat.le_trans (putG_len _ _ _) (by omega)⟩
  obtain rfl : i = oz.length := by omega
  rw [List.take_length] at hmem
  refine awp_exit (hK1 _ _ ?_)
  clear hK1 K1 hK2 K2
  obtain ⟨d0, d1, d2, _⟩ := hc3.le h3
  -- the names
  refine awp_sk fun K1 hK1 => awp_rs ?_
  refine ao_r (rig_fieldAddr rfl rfl Try.underlying30 rfl Try.sizeOf26 rfl) rfl (ao_r (rig_load1 rfl rfl Try.isAgg26 d0) rfl (ao_r (rig_lenSl rfl rfl Try.underlying26) rfl (ao_r (rig_move rfl rfl) rfl (ao_nil ?_))))
  refine awp_block ?_
  refine awp_le [(1, .string pfx), (2, .int .i64 size), (3, .pointer (some ⟨p3, 0, none⟩)), (7, .map (some bm)), (30, .slice An ns.length cn), (31, .int .i64 ns.length), (32, .int .i64 (0 : Nat))] ⟨rfl, rfl, rfl, rfl, rfl, rfl, rfl, trivial⟩ ?_
  refine awp_loop (fun kk r mm => ∃ (i : Nat) (gs : List (Int × Value)) (G : Hp), i ≤ ns.length ∧ kk = ns.length - i ∧ r = [(1, .string pfx), (2, .int .i64 size), (3, .pointer (some ⟨p3, 0, none⟩)), (7, .map (some bm)), (30, .slice An ns.length cn), (31, .int .i64 ns.length), (32, .int .i64 i)] ∧ U [mpB bm gs, G] = mm ∧ Dj [mpB bm gs, G] ∧ HpLe m3 G ∧ (keysG gs).Nodup ∧ (∀ x, x ∈ keysG gs ↔ (x ∈ oz ∨ ∃ n ∈ ns.take i, preB n.nm pfx = true ∧ n.ino = x)) ∧ gs.length ≤ oz.length + i) ns.length
    ⟨0, gs, m3, by omega, rfl, rfl, rfl, hD, HpLe.refl _, hnd, fun x => by rw [hmem]; simp, hgl⟩ ?_
  clear hD hnd hmem hgl h3 d0 d1 d2
  rintro kk r mm ⟨i, gs, G, hi, rfl, rfl, rfl, hD, hG, hnd, hmem, hgl⟩
  have h3 : HpLe m3 (U [mpB bm gs, G]) := hG.trans (le_at 1 hD rfl)
  refine awp_rs (ao_r (rig_lss rfl rfl rfl) rfl (ao_nil ?_))
  refine awp_sk fun K2 hK2 => ?_
  refine awp_if rfl (fun h => ?_) (fun h => ?_)
  · obtain ⟨x, hx⟩ := get_lt (l := ns) (i := i) (by omega)
    obtain ⟨bx, ox, cx', e, hxc⟩ := RdSl.get_ encN_len (by decide) (RdSl.le hd3.n h3) hx
    simp only [Value.slice.injEq] at e
    obtain ⟨rfl, _, rfl⟩ := e
    refine awp_skip (hK2 _ _ (awp_sk fun K3 hK3 => awp_block (awp_rs ?_)))
    refine ao_r (rig_ix i rfl rfl rfl Try.underlying26 Try.sizeOf68 rfl rfl (by omega)) rfl (ao_r (rig_loadN (vs := encN x) rfl rfl Try.isAgg68 Try.sizeOf68 hxc) rfl ?_)
    refine ao_x (ex_alloc rfl hD Try.zeroValue68) rfl fun u m7 ⟨p7, hu, hm7, hD7⟩ => ?_
    subst hu hm7
    refine ao_x0 (ex_store (i := 0) rfl hD7 rfl rfl Try.sizeOf68 (encN_one x) rfl (Nat.le_refl 2)) fun u m8 ⟨_, hm8, hD8⟩ => ao_nil ?_
    subst hm8
    rw [List.set_cons_zero, putR_all _ _ (by rfl)] at hD8 ⊢
    replace hD8 : Dj [namB p7 x, mpB bm gs, G] := hD8
    show AWp _ _ _ _ _ (U [namB p7 x, mpB bm gs, G])
    obtain ⟨x0, x1, _⟩ := namB_at 0 hD8 rfl
    have hnext : ∀ (r : Env) (gs2 : List (Int × Value)), Dj [namB p7 x, mpB bm gs2, G] → (keysG gs2).Nodup → (∀ y, y ∈ keysG gs2 ↔ (y ∈ keysG gs ∨ (preB x.nm pfx = true ∧ x.ino = y))) → gs2.length ≤ oz.length + (i + 1) → EnvLe [(1, .string pfx), (2, .int .i64 size), (3, .pointer (some ⟨p3, 0, none⟩)), (7, .map (some bm)), (30, .slice (some ⟨bx, ox, none⟩) ns.length cn), (31, .int .i64 ns.length), (32, .int .i64 i)] r → K3 r (U [namB p7 x, mpB bm gs2, G]) := by
      intro r gs2 hd2 hn2 hm2 hl2 hr
      have hp : U [namB p7 x, mpB bm gs2, G] = U [mpB bm gs2, namB p7 x, G] ∧ Dj [mpB bm gs2, namB p7 x, G] := U_pm [1, 0, 2] rfl hd2
      have e1 : U [mpB bm gs2, namB p7 x, G] = U [mpB bm gs2, U [namB p7 x, G]] := (U_flat [_] _).symm
      have hd3' : Dj [mpB bm gs2, U [namB p7 x, G]] := Dj_unflat (A := [_]) hp.2
      rw [hp.1, e1]
      refine hK3 _ _ (awp_le _ hr (awp_region (ao_r (rig_add (c := ((i + 1 : Nat) : Int)) rfl rfl rfl (w64 _ (by omega) (by omega))) rfl (ao_r (rig_move rfl rfl) rfl (ao_nil ?_)))))
      refine ⟨[(1, .string pfx), (2, .int .i64 size), (3, .pointer (some ⟨p3, 0, none⟩)), (7, .map (some bm)), (30, .slice (some ⟨bx, ox, none⟩) ns.length cn), (31, .int .i64 ns.length), (32, .int .i64 (i + 1 : Nat))], _, ⟨rfl, rfl, rfl, rfl, rfl, rfl, rfl, trivial⟩, by omega, i + 1, gs2, _, by omega, rfl, rfl, rfl, hd3', hG.trans (le_at 1 hp.2.2 rfl), hn2, fun y => ?_, hl2⟩
      rw [hm2, hmem, takeS hx]
      constructor
      · rintro ((h1 | ⟨n, hn, h2⟩) | ⟨h1, h2⟩)
        · exact .inl h1
        · exact .inr ⟨n, by simp [hn], h2⟩
        · exact .inr ⟨x, by simp, h1, h2⟩
      · rintro (h1 | ⟨n, hn, h2⟩)
        · exact .inl (.inl h1)
        · rw [List.mem_append, List.mem_singleton] at hn
          rcases hn with hn | rfl
          · exact .inl (.inr ⟨n, hn, h2⟩)
          · exact .inr h2
    refine awp_rs (ao_r (rig_fieldAddr rfl rfl Try.underlying68 rfl Try.sizeOf9 rfl) rfl (ao_r (rig_load1 rfl rfl Try.isAgg9 x0) rfl (ao_r (rig_move rfl rfl) rfl (ao_r (rig_call rfl rfl e30 (F30 _ x.nm pfx)) rfl (ao_nil ?_)))))
    refine awp_cond rfl (fun hb => ?_) (fun hb => ?_)
    · refine awp_region (ao_r (rig_move rfl rfl) rfl (ao_r (rig_fieldAddr rfl rfl Try.underlying68 rfl Try.sizeOf3 rfl) rfl (ao_r (rig_load1 rfl rfl Try.isAgg3 x1) rfl (ao_r (rig_fieldAddr rfl rfl Try.underlying68 rfl Try.sizeOf9 rfl) rfl (ao_r (rig_load1 rfl rfl Try.isAgg9 x0) rfl ?_)))))
      refine ao_x0 (ex_mapUpdate 1 rfl hD8 rfl rfl rfl Try.underlying66 Try.underlying3 rfl) fun u2 m5 ⟨hm5, hD5⟩ => ao_nil ?_
      subst hm5
      replace hD5 : Dj [namB p7 x, mpB bm (putG x.ino (.string x.nm) gs), G] := hD5
      exact hnext _ _ hD5 (putG_nodup hnd) (fun y => by rw [putG_mem]; exact or_congr Iff.rfl ⟨fun e => ⟨hb, e.symm⟩, fun e => e.2.symm⟩) (Nat.le_trans (putG_len _ _ _) (by omega)) ⟨rfl, rfl, rfl, rfl, rfl, rfl, rfl, trivial⟩
    · exact awp_skip (hnext _ gs hD8 hnd (fun y => by rw [hb]; simp) (by omega) ⟨rfl, rfl, rfl, rfl, rfl, rfl, rfl, trivial⟩)
  obtain rfl : i = ns.length := by omega
  rw [List.take_length] at hmem
  have hkeys : ∀ k, k ∈ keysG gs ↔ folB ns oz pfx k = true := by
    intro k
    rw [hmem, folB, Bool.or_eq_true, List.any_eq_true, List.any_eq_true]
    constructor
    · rintro (h1 | ⟨n, hn, h1, h2⟩)
      · exact .inr ⟨k, h1, decide_eq_true rfl⟩
      · exact .inl ⟨n, hn, by rw [folN, h1, decide_eq_true h2]; rfl⟩
    · rintro (⟨n, hn, h1⟩ | ⟨x, hx, h1⟩)
      · rw [folN, Bool.and_eq_true] at h1
        exact .inr ⟨n, hn, h1.2, of_decide_eq_true h1.1⟩
      · have : x = k := of_decide_eq_true h1
        exact .inl (this ▸ hx)
  refine awp_exit (hK1 _ _ ?_)
  clear hK1 K1 hK2 K2
  refine awp_rs (ao_r (rig_assign rfl rfl) rfl (ao_nil ?_))
  have hgl2 : gs.length ≤ 2097152 := by omega
  -- every wanted inode
  refine awp_sk fun K1 hK1 => awp_rs (ao_r (rig_move rfl rfl) rfl ?_)
  refine ao_x (ex_range rfl hD rfl Try.underlying66 (U_head (Go.Aw.one_self _ _))) rfl fun u m4 ⟨bi, hu, hm4, hD4⟩ => ao_nil ?_
  subst hu hm4
  replace hD4 : Dj [Go.Aw.one bi (itO bm gs.length []), mpB bm gs, G] := hD4
  have e5 : U [Go.Aw.one bi (itO bm gs.length []), mpB bm gs, G] = U [Go.Aw.one bi (itO bm gs.length []), U [mpB bm gs, G]] := (U_flat [_] _).symm
  have hD5 : Dj [Go.Aw.one bi (itO bm gs.length []), U [mpB bm gs, G]] := Dj_unflat (A := [_]) hD4
  have hmF : (U [mpB bm gs, G]) bm = some (mapO gs) := U_head (Go.Aw.one_self _ _)
  have hF3 : HpLe m3 (U [mpB bm gs, G]) := h3
  show AWp _ _ _ _ _ (U [Go.Aw.one bi (itO bm gs.length []), mpB bm gs, G])
  rw [e5]
  generalize U [mpB bm gs, G] = F0 at hD5 hmF hF3
  clear e5 hD4 hD h3 hG
  refine awp_block ?_
  have hD6 : Dj [Go.Aw.one bi (itO bm gs.length []), hp0, F0] ∧ U [Go.Aw.one bi (itO bm gs.length []), hp0, F0] = U [Go.Aw.one bi (itO bm gs.length []), F0] := by
    have h := Dj_hp0 hD5
    have h2 : U [hp0, Go.Aw.one bi (itO bm gs.length []), F0] = U [Go.Aw.one bi (itO bm gs.length []), hp0, F0] ∧ Dj [Go.Aw.one bi (itO bm gs.length []), hp0, F0] := U_pm [1, 0, 2] rfl h
    exact ⟨h2.2, h2.1.symm.trans (U_hp0 _)⟩
  refine awp_le [(2, .int .i64 size), (3, .pointer (some ⟨p3, 0, none⟩)), (12, .slice none 0 0), (47, .pointer (some ⟨bi, 0, none⟩))] ⟨rfl, rfl, rfl, rfl, trivial⟩ ?_
  refine awp_loop (fun kk r mm => ∃ (seen : List Nat) (v : Value) (out : List Sn) (Y F1 : Hp), seen.Nodup ∧ (∀ j ∈ seen, j < gs.length) ∧ kk = gs.length - seen.length ∧ r = [(2, .int .i64 size), (3, .pointer (some ⟨p3, 0, none⟩)), (12, v), (47, .pointer (some ⟨bi, 0, none⟩))] ∧ U [Go.Aw.one bi (itO bm gs.length seen), Y, F1] = mm ∧ Dj [Go.Aw.one bi (itO bm gs.length seen), Y, F1] ∧ HpLe F0 F1 ∧ Own 45 3 Y v (rows encSn out) ∧ out.Perm (seen.filterMap fun j => (gs[j]?).bind fun a => gK fs size a.1)) gs.length
    ⟨[], _, [], hp0, F0, List.nodup_nil, by simp, by simp, rfl, hD6.2, hD6.1, HpLe.refl _, Own.nil 45 3, List.Perm.refl _⟩ ?_
  clear hD6 hD5
  rintro kk r mm ⟨seen, v, out, Y, F1, hS1, hS2, rfl, rfl, rfl, hD, hF1, hO, hperm⟩
  have hSl := nodup_lenK hS1 hS2
  have hol2 : out.length ≤ seen.length := by rw [hperm.length_eq]; exact List.length_filterMap_le _ _
  have hFU : HpLe F1 (U [Go.Aw.one bi (itO bm gs.length seen), Y, F1]) := le_at 2 hD rfl
  refine awp_rs (ao_x (ex_next 0 rfl hD rfl rfl (hFU _ _ (hF1 _ _ hmF))) rfl fun u m1 hnx => ?_)
  rcases hnx with ⟨hall, rfl, rfl⟩ | ⟨j, a, hja, hjS, rfl, rfl, hD1⟩
  · -- all seen
    refine ao_r (rig_extract rfl rfl rfl) rfl (ao_nil ?_)
    refine awp_sk fun K5 hK5 => awp_false rfl (awp_exit (hK1 _ _ ?_))
    have hp : U [Go.Aw.one bi (itO bm gs.length seen), Y, F1] = U [Y, Go.Aw.one bi (itO bm gs.length seen), F1] ∧ Dj [Y, Go.Aw.one bi (itO bm gs.length seen), F1] := U_pm [1, 0, 2] rfl hD
    have e1 : U [Y, Go.Aw.one bi (itO bm gs.length seen), F1] = U [Y, U [Go.Aw.one bi (itO bm gs.length seen), F1]] := (U_flat [_] _).symm
    have hd1 : Dj [Y, U [Go.Aw.one bi (itO bm gs.length seen), F1]] := Dj_unflat (A := [_]) hp.2
    rw [hp.1, e1]
    refine awp_rs (ao_r (rig_move rfl rfl) rfl ?_)
    refine ao_x (ex_call rfl rfl e32 (F32 Y _ v out hO hd1 (by omega))) rfl fun u m6 ⟨_, out', c', hO', hm6, hD6, hp6, hs6⟩ => ao_nil ?_
    subst hm6
    refine awp_rs (ao_r (rig_move rfl rfl) rfl (ao_r (rig_assign rfl rfl) rfl (ao_nil ?_)))
    have hpA : out'.Perm (fs.filterMap (seenOf ns oz pfx size)) := by
      refine hp6.trans (hperm.trans ?_)
      refine ((range_permK hS1 hS2 hall).filterMap _).trans ?_
      rw [rng_filterMap gs (fun a => gK fs size a.1)]
      have e : gs.filterMap (fun a => gK fs size a.1) = (keysG gs).filterMap (gK fs size) := by rw [keysG, List.filterMap_map]; rfl
      rw [e]
      exact scan_perm hasc hnd hkeys
    exact awp_ret ⟨_, res1 Try.results11 rfl, out', c', _, rfl, hD6, (hl3.trans hF3).trans (hF1.trans (le_at 1 hp.2.2 rfl)), hO', ltS_of_sorted hs6 (ino_perm hpA (seen_inos hasc)), hpA⟩
  · refine ao_r (rig_extract rfl rfl rfl) rfl (ao_nil ?_)
    refine awp_sk fun K5 hK5 => awp_true rfl (awp_skip (hK5 _ _ (awp_block ?_)))
    have hjl := (List.getElem?_eq_some_iff.1 hja).1
    have hSn : (seen ++ [j]).Nodup := by
      rw [List.nodup_append]
      exact ⟨hS1, by simp, fun a ha b hb => by simp at hb; subst hb; exact fun e => hjS (e ▸ ha)⟩
    have hSm : ∀ q ∈ seen ++ [j], q < gs.length := fun q hq => by
      rcases List.mem_append.1 hq with h | h
      · exact hS2 q h
      · simp at h; omega
    have hSl2 := nodup_lenK hSn hSm
    simp only [List.length_append, List.length_singleton] at hSl2
    replace hD1 : Dj [Go.Aw.one bi (itO bm gs.length (seen ++ [j])), Y, F1] := hD1
    show AWp _ _ _ _ _ (U [Go.Aw.one bi (itO bm gs.length (seen ++ [j])), Y, F1])
    have hfm : (seen ++ [j]).filterMap (fun j => (gs[j]?).bind fun a => gK fs size a.1) = seen.filterMap (fun j => (gs[j]?).bind fun a => gK fs size a.1) ++ (gK fs size a.1).toList := by
      rw [List.filterMap_append]
      congr 1
      cases hs : gK fs size a.1 <;> simp [List.filterMap_cons, hja, hs]
    have hFU1 : HpLe F1 (U [Go.Aw.one bi (itO bm gs.length (seen ++ [j])), Y, F1]) := le_at 2 hD1 rfl
    refine awp_rs (ao_r (rig_entry rfl rfl ((le_at 0 hD1 rfl) _ _ (Go.Aw.one_self _ _)) (hFU1 _ _ (hF1 _ _ hmF)) hja) rfl (ao_r (rig_extract rfl rfl rfl) rfl (ao_r (rig_assign rfl rfl) rfl (ao_nil ?_))))
    have hm1 : HpLe m3 (U [Go.Aw.one bi (itO bm gs.length (seen ++ [j])), Y, F1]) := (hF3.trans hF1).trans hFU1
    refine awp_rs (ao_r (rig_loadN (vs := [_, _, _]) rfl rfl Try.isAgg30 Try.sizeOf30 (hc3.le hm1)) rfl (ao_r (rig_move rfl rfl) rfl ?_))
    refine ao_x (ex_call rfl rfl e31 (F31 _ _ _ _ fs a.1 (RdSl.le hd3.f hm1) hfl hasc (fun x hx => (hd3.d x hx).le hm1) hF)) rfl fun u m7 ⟨y, c7, G7, hu, hm7, hd7, hG7, hyr, hyc, hyl, hyd⟩ => ?_
    subst hu hm7
    obtain ⟨G8, hG8, hd8, rfl⟩ := grow_to (cs := [Go.Aw.one bi (itO bm gs.length (seen ++ [j])), Y]) hD1 hG7
    replace hd8 : Dj [Go.Aw.one bi (itO bm gs.length (seen ++ [j])), Y, G8] := hd8
    have hd9 : Dj [c7, Go.Aw.one bi (itO bm gs.length (seen ++ [j])), Y, G8] := Dj_flat (A := [c7]) hd7 hd8
    have e9 : U [c7, U [Go.Aw.one bi (itO bm gs.length (seen ++ [j])), Y, G8]] = U [c7, Go.Aw.one bi (itO bm gs.length (seen ++ [j])), Y, G8] := U_flat [c7] _
    have hp : U [c7, Go.Aw.one bi (itO bm gs.length (seen ++ [j])), Y, G8] = U [Go.Aw.one bi (itO bm gs.length (seen ++ [j])), Y, c7, G8] ∧ Dj [Go.Aw.one bi (itO bm gs.length (seen ++ [j])), Y, c7, G8] := U_pm [1, 2, 0, 3] rfl hd9
    have e10 : U [Go.Aw.one bi (itO bm gs.length (seen ++ [j])), Y, c7, G8] = U [Go.Aw.one bi (itO bm gs.length (seen ++ [j])), Y, U [c7, G8]] := (U_flat [_, Y] _).symm
    have hd10 : Dj [Go.Aw.one bi (itO bm gs.length (seen ++ [j])), Y, U [c7, G8]] := Dj_unflat (A := [_, Y]) hp.2
    have hcG : Dj [c7, G8] := hp.2.2.2
    show AOps _ _ _ _ _ (U [c7, U [Go.Aw.one bi (itO bm gs.length (seen ++ [j])), Y, G8]]) _
    rw [e9, hp.1, e10]
    replace hyr := RdSl.le hyr (le_at 0 hcG rfl)
    have hF9 : HpLe F0 (U [c7, G8]) := hF1.trans (hG8.trans (le_at 1 hcG rfl))
    generalize U [c7, G8] = F2 at hd10 hyr hF9
    clear e10 e9 hp hd9 hd8 hd7 hG7 hG8
    refine ao_r (rig_move rfl rfl) rfl (ao_r (rig_extract rfl rfl rfl) rfl (ao_r (rig_extract rfl rfl rfl) rfl ?_))
    refine ao_x (ex_alloc rfl hd10 Try.zeroValue61) rfl fun u m11 ⟨p14, hu, hm11, hd11⟩ => ?_
    subst hu hm11
    refine ao_x0 (ex_store (i := 0) rfl hd11 rfl rfl Try.sizeOf61 (encF_one y) rfl (Nat.le_refl 5)) fun u m12 ⟨_, hm12, hd12⟩ => ao_r (rig_assign rfl rfl) rfl (ao_nil ?_)
    subst hm12
    rw [List.set_cons_zero, putR_all _ _ (by rfl)] at hd12 ⊢
    replace hd12 : Dj [filB p14 y, Go.Aw.one bi (itO bm gs.length (seen ++ [j])), Y, F2] := hd12
    have hp : U [filB p14 y, Go.Aw.one bi (itO bm gs.length (seen ++ [j])), Y, F2] = U [Go.Aw.one bi (itO bm gs.length (seen ++ [j])), Y, filB p14 y, F2] ∧ Dj [Go.Aw.one bi (itO bm gs.length (seen ++ [j])), Y, filB p14 y, F2] := U_pm [1, 2, 0, 3] rfl hd12
    have e13 : U [Go.Aw.one bi (itO bm gs.length (seen ++ [j])), Y, filB p14 y, F2] = U [Go.Aw.one bi (itO bm gs.length (seen ++ [j])), Y, U [filB p14 y, F2]] := (U_flat [_, Y] _).symm
    have hd13 : Dj [Go.Aw.one bi (itO bm gs.length (seen ++ [j])), Y, U [filB p14 y, F2]] := Dj_unflat (A := [_, Y]) hp.2
    have hfF : Dj [filB p14 y, F2] := hp.2.2.2
    have hyc14 := filB_at 0 hfF rfl
    show AWp _ _ _ _ _ (U [filB p14 y, Go.Aw.one bi (itO bm gs.length (seen ++ [j])), Y, F2])
    rw [hp.1, e13]
    replace hyr := RdSl.le hyr (le_at 1 hfF rfl)
    replace hF9 : HpLe F0 (U [filB p14 y, F2]) := hF9.trans (le_at 1 hfF rfl)
    generalize U [filB p14 y, F2] = F3 at hd13 hyr hF9 hyc14
    clear e13 hp hd12 hd11 hfF hd10
    have hF3U : HpLe F3 (U [Go.Aw.one bi (itO bm gs.length (seen ++ [j])), Y, F3]) := le_at 2 hd13 rfl
    obtain ⟨y0, y1, y2, y3, y4, _⟩ := hyc14.le hF3U
    have hyn : y.n = y.data.length := by
      obtain ⟨A, cap, e, _⟩ := RdSl.form encB_len (by decide) hyr
      simp at e; exact e.2.1
    -- the number
    refine awp_rs (ao_r (rig_fieldAddr rfl rfl Try.underlying61 rfl Try.sizeOf22 rfl) rfl (ao_r (rig_load1 rfl rfl Try.isAgg22 y1) rfl (ao_r (rig_move rfl rfl) rfl (ao_r (rig_call rfl rfl e16 (F16 _ _ y.data size (RdSl.le hyr hF3U) (by omega) (fun A cap e => by simp only [Value.slice.injEq] at e; omega))) rfl (ao_r (rig_move rfl rfl) rfl (ao_r (rig_extract rfl rfl rfl) rfl (ao_r (rig_extract rfl rfl rfl) rfl (ao_r (rig_assign rfl rfl) rfl (ao_r (rig_assign rfl rfl) rfl (ao_nil ?_))))))))))
    have hgk : gK fs size a.1 = if fs.any (inoIs a.1) && numOk y.data.length size then some ⟨numV y.data size, a.1, y.data.length⟩ else none := by
      unfold gK
      cases hq : fs.find? (inoIs a.1) with
      | none =>
        have : fs.any (inoIs a.1) = false := by
          rw [List.any_eq_false]; rw [List.find?_eq_none] at hq; exact hq
        rw [this]; rfl
      | some x =>
        have hx := List.mem_of_find?_eq_some hq
        have hxi := List.find?_some hq
        have : fs.any (inoIs a.1) = true := List.any_eq_true.2 ⟨x, hx, hxi⟩
        have hxe : x.ino = a.1 := of_decide_eq_true hxi
        have hyx : y.data = cutF x := hyd x hx hxe
        rw [this, Bool.true_and]
        show numSn size x = _
        rw [numSn, ← hyx, hxe]
    refine awp_mid (fun r mm => r = [(2, .int .i64 size), (3, .pointer (some ⟨p3, 0, none⟩)), (12, v), (13, .int .i64 a.1), (14, .pointer (some ⟨p14, 0, none⟩)), (16, .int .i64 (numV y.data size)), (47, .pointer (some ⟨bi, 0, none⟩)), (68, .bool (fs.any (inoIs a.1) && numOk y.data.length size))] ∧ U [Go.Aw.one bi (itO bm gs.length (seen ++ [j])), Y, F3] = mm) (awp_region ?_) ?_
    · refine ao_r (rig_move rfl rfl) rfl (ao_r (rig_move rfl rfl) rfl ?_)
      cases hany : fs.any (inoIs a.1) with
      | true =>
        refine ao_on rfl rfl (ao_r (rig_move rfl rfl) rfl (ao_r (rig_pickT rfl rfl rfl) rfl (ao_nil ?_)))
        exact ⟨[(2, .int .i64 size), (3, .pointer (some ⟨p3, 0, none⟩)), (12, v), (13, .int .i64 a.1), (14, .pointer (some ⟨p14, 0, none⟩)), (16, .int .i64 (numV y.data size)), (47, .pointer (some ⟨bi, 0, none⟩)), (68, .bool (numOk y.data.length size))], ⟨rfl, rfl, rfl, rfl, rfl, rfl, rfl, rfl, trivial⟩, by rw [Bool.true_and], rfl⟩
      | false =>
        refine ao_no rfl rfl rfl rfl (ao_r (rig_pickF rfl rfl rfl) rfl (ao_nil ?_))
        exact ⟨[(2, .int .i64 size), (3, .pointer (some ⟨p3, 0, none⟩)), (12, v), (13, .int .i64 a.1), (14, .pointer (some ⟨p14, 0, none⟩)), (16, .int .i64 (numV y.data size)), (47, .pointer (some ⟨bi, 0, none⟩)), (68, .bool false)], ⟨rfl, rfl, rfl, rfl, rfl, rfl, rfl, rfl, trivial⟩, by rw [Bool.false_and], rfl⟩
    rintro r mm ⟨rfl, rfl⟩
    refine awp_cond rfl (fun hb => ?_) (fun hb => ?_)
    · rw [if_pos hb] at hgk
      refine awp_region (ao_r (rig_move rfl rfl) rfl (ao_r (rig_move rfl rfl) rfl (ao_r (rig_move rfl rfl) rfl (ao_r (rig_fieldAddr rfl rfl Try.underlying61 rfl Try.sizeOf22 rfl) rfl (ao_r (rig_load1 rfl rfl Try.isAgg22 y1) rfl (ao_r (rig_lenSl rfl rfl Try.underlying22) rfl ?_))))))
      rw [hyn]
      refine ao_r (rig_build (pl := #[(0, 1), (1, 1), (2, 1)]) (cs := (encSn ⟨numV y.data size, a.1, y.data.length⟩).toArray) rfl rfl Try.underlying45 Try.zeroValue45 (fun w => by kernel_rfl) rfl) rfl ?_
      refine ao_x (ex_buildSlice rfl hd13 rfl Try.underlying41 Try.sizeOf45 Try.zeroValue45 (by decide) (by decide) (fill_one rfl (rangeMap_size _ _))) rfl fun w2 m2 ⟨b2, hw2, hm2, hD5⟩ => ?_
      subst hw2 hm2
      refine ao_x (ex_append 2 (by_ := 24) rfl hD5 rfl rfl Try.underlying41 inf45 rfl (by decide) (by decide) hO rfl (src_one (enc := encSn) (x := ⟨numV y.data size, a.1, y.data.length⟩) encSn_len ((cellsAt_one b2 (encSn ⟨numV y.data size, a.1, y.data.length⟩).toArray 45).le U_le_head)) (one_rows encSn_one _) (by rw [rows_length encSn_len, rows_length encSn_len]; simp; omega)) rfl fun w3 m3' ⟨Y3, hO3, hm3', hD6⟩ => ao_r (rig_assign rfl rfl) rfl (ao_nil ?_)
      subst hm3'
      rw [← rows_append] at hO3
      replace hD6 : Dj [Go.Aw.one b2 (.cells (encSn ⟨numV y.data size, a.1, y.data.length⟩).toArray 45 (0, 0)), Go.Aw.one bi (itO bm gs.length (seen ++ [j])), Y3, F3] := hD6
      have hp : U [Go.Aw.one b2 (.cells (encSn ⟨numV y.data size, a.1, y.data.length⟩).toArray 45 (0, 0)), Go.Aw.one bi (itO bm gs.length (seen ++ [j])), Y3, F3] = U [Go.Aw.one bi (itO bm gs.length (seen ++ [j])), Y3, Go.Aw.one b2 (.cells (encSn ⟨numV y.data size, a.1, y.data.length⟩).toArray 45 (0, 0)), F3] ∧ Dj [Go.Aw.one bi (itO bm gs.length (seen ++ [j])), Y3, Go.Aw.one b2 (.cells (encSn ⟨numV y.data size, a.1, y.data.length⟩).toArray 45 (0, 0)), F3] := U_pm [1, 2, 0, 3] rfl hD6
      have e7 : U [Go.Aw.one bi (itO bm gs.length (seen ++ [j])), Y3, Go.Aw.one b2 (.cells (encSn ⟨numV y.data size, a.1, y.data.length⟩).toArray 45 (0, 0)), F3] = U [Go.Aw.one bi (itO bm gs.length (seen ++ [j])), Y3, U [Go.Aw.one b2 (.cells (encSn ⟨numV y.data size, a.1, y.data.length⟩).toArray 45 (0, 0)), F3]] := (U_flat [_, _] _).symm
      have hD7 : Dj [Go.Aw.one bi (itO bm gs.length (seen ++ [j])), Y3, U [Go.Aw.one b2 (.cells (encSn ⟨numV y.data size, a.1, y.data.length⟩).toArray 45 (0, 0)), F3]] := Dj_unflat (A := [_, _]) hp.2
      refine ⟨[(2, .int .i64 size), (3, .pointer (some ⟨p3, 0, none⟩)), (12, w3), (47, .pointer (some ⟨bi, 0, none⟩))], gs.length - (seen ++ [j]).length, ⟨rfl, rfl, rfl, rfl, trivial⟩, by rw [List.length_append, List.length_singleton]; omega, seen ++ [j], w3, out ++ [⟨numV y.data size, a.1, y.data.length⟩], Y3, _, hSn, hSm, rfl, rfl, (hp.1.trans e7).symm, hD7, hF9.trans (le_at 1 hp.2.2.2 rfl), hO3, ?_⟩
      rw [hfm, hgk]
      exact hperm.append_right _
    · rw [if_neg (by rw [hb]; decide)] at hgk
      refine awp_skip ⟨[(2, .int .i64 size), (3, .pointer (some ⟨p3, 0, none⟩)), (12, v), (47, .pointer (some ⟨bi, 0, none⟩))], gs.length - (seen ++ [j]).length, ⟨rfl, rfl, rfl, rfl, trivial⟩, by rw [List.length_append, List.length_singleton]; omega, seen ++ [j], v, out, Y, F3, hSn, hSm, rfl, rfl, rfl, hd13, hF9, hO, ?_⟩
      rw [hfm, hgk]
      simpa using hperm
end Go.Proofs.Ytbonkkbpjlikjaa
