/- The miner: what a state keeps; the reference's Add. -/
import Derived.Test.YtmofaabndjnhjaaGreatMiner
import Derived.Test.YtmofaabndjnhjaaGreatPieces
set_option linter.unusedVariables false
set_option linter.unusedSimpArgs false
namespace Go.Proofs.YtmofaabndjnhjaaGreat
open Go Go.Aw Go.Pl Go.RowKit
structure Sto (q : List El) (ls : List ByteArray) : Prop where
  asc : AscT q
  pos : posE q
  tok : ∀ a ∈ q, 1 ≤ a.1.length ∧ a.1.length ≤ 60 ∧ badT a.1 = false
  exp : (expE q).Perm (lineE ls)
theorem Sto.nil : Sto [] [] := ⟨List.Pairwise.nil, fun t ht => (by cases ht), fun a ha => (by cases ha), List.Perm.refl _⟩
theorem lineE_none {s : ByteArray} (h : toksOf s = none) : lineE [s] = [] := by rw [lineE, List.filterMap_cons, h]; rfl
theorem lineE_some {s : ByteArray} {ts : List ByteArray} (h : toksOf s = some ts) : lineE [s] = [(ts, 1)] := by rw [lineE, List.filterMap_cons, h]; rfl
theorem lineE_cat (a b : List ByteArray) : lineE (a ++ b) = lineE a ++ lineE b := List.filterMap_append
theorem Sto.elen {q : List El} {ls : List ByteArray} (h : Sto q ls) : (expE q).length ≤ ls.length := by rw [h.exp.length_eq]; exact lineE_len ls
theorem Sto.cnt {q : List El} {ls : List ByteArray} (h : Sto q ls) {a : El} (ha : a ∈ q) : 1 ≤ a.2 ∧ a.2 ≤ ls.length := by
  have h1 := cnt_exp ha
  have h2 := h.elen
  have h3 := (h.pos a ha).1
  omega
theorem Sto.len {q : List El} {ls : List ByteArray} (h : Sto q ls) : q.length ≤ ls.length := Nat.le_trans (expE_len h.pos) h.elen
theorem Sto.perm {q : List El} {ls ls' : List ByteArray} (h : Sto q ls) (hp : ls.Perm ls') : Sto q ls' := ⟨h.asc, h.pos, h.tok, h.exp.trans (hp.filterMap _)⟩
theorem good_tok {s : ByteArray} {ts : List ByteArray} (h : toksOf s = some ts) : 1 ≤ ts.length ∧ ts.length ≤ 60 ∧ badT ts = false := by
  have h1 := toksOf_len h
  refine ⟨h1.1, h1.2, ?_⟩
  rw [badT, List.any_eq_false]
  intro t ht
  rw [toks_good h t ht]; decide
theorem Sto.add {q : List El} {ls : List ByteArray} (h : Sto q ls) (s : ByteArray) (hl : ls.length ≤ 1048576) : Sto (addS s q) (ls ++ [s]) := by
  unfold addS
  cases hts : toksOf s with
  | none => exact ⟨h.asc, h.pos, h.tok, by rw [lineE_cat, lineE_none hts, List.append_nil]; exact h.exp⟩
  | some ts =>
    refine ⟨addE_asc h.asc, addE_pos (by decide) (by decide) h.pos, fun a ha => ?_, ?_⟩
    · rcases addE_mem ha with e | ⟨c, hc, e⟩
      · rw [e]; exact good_tok hts
      · rw [← e]; exact h.tok c hc
    · rw [lineE_cat, lineE_some hts]
      refine (addE_exp h.pos fun a ha => ?_).trans ?_
      · have := (h.cnt ha).2; omega
      · exact (h.exp.cons _).trans (List.perm_append_singleton _ _).symm
theorem Sto.rem {q q' : List El} {ls ls' : List ByteArray} {s : ByteArray} {b : Bool} (h : Sto q ls) (hp : ls.Perm (s :: ls')) (hr : RemR s q q' b) : Sto q' ls' ∧ b = (toksOf s).isSome := by
  have he := h.exp.trans ((hp.filterMap _))
  change (expE q).Perm (lineE ([s] ++ ls')) at he
  rw [lineE_cat] at he
  rcases hr with ⟨rfl, rfl, hno | ⟨ts, hts, hno⟩⟩ | ⟨rfl, ts, x, hts, hin, rfl⟩
  · rw [lineE_none hno] at he
    exact ⟨⟨h.asc, h.pos, h.tok, he⟩, by rw [hno]; rfl⟩
  · rw [lineE_some hts] at he
    obtain ⟨x, hx⟩ := exp_mem (he.mem_iff.2 (List.mem_append_left _ (List.mem_singleton.2 rfl)))
    exact absurd hx (hno x)
  · rw [lineE_some hts] at he
    refine ⟨⟨remE_asc h.asc, remE_pos h.pos, fun a ha => ?_, ?_⟩, by rw [hts]; rfl⟩
    · obtain ⟨c, hc, e⟩ := remE_mem ha
      rw [← e]; exact h.tok c hc
    · exact ((remE_exp h.pos ⟨x, hin⟩).symm.trans he).cons_inv
theorem okI_of {q : List El} (h : ∀ a ∈ q, a.2 ≤ 9223372036854775807) : okI q := h
theorem Sto.of {q : List El} {ls : List ByteArray} (h : Sto q ls) (hl : ls.length ≤ 1048576) : ofQ q = mineL ls := by
  have hok : okI (expE q) := fun a ha => by
    obtain ⟨b, hb, h2⟩ := List.mem_flatMap.1 ha
    rw [(List.mem_replicate.1 h2).2]; show (1 : Int) ≤ 9223372036854775807; decide
  rw [← ofQ_exp h.pos, mineL, ofQ_perm h.exp hok]
theorem Sto.chk {q : List El} {ls : List ByteArray} (h : Sto q ls) : chkB q = true := by
  rw [chkB, List.all_eq_true]
  intro i hi
  rw [List.mem_range] at hi
  have hg : ∀ j (hj : j < q.length), q.getD j e0 = q[j] := fun j hj => by rw [List.getD_eq_getElem?_getD, List.getElem?_eq_getElem hj]; rfl
  have hm : q[i] ∈ q := List.getElem_mem hi
  have h1 := h.tok _ hm
  have h2 := (h.pos _ hm).1
  rw [chk1, hg i hi, okB, decide_eq_true h2, decide_eq_true h1.1, decide_eq_true h1.2.1, h1.2.2]
  by_cases h0 : i = 0
  · rw [decide_eq_true h0]; rfl
  · rw [hg (i - 1) (by omega), decide_eq_true (List.pairwise_iff_getElem.1 h.asc (i - 1) i (by omega) hi (by omega))]; simp
theorem Sto.size {q : List El} {ls : List ByteArray} (h : Sto q ls) (hl : ls.length ≤ 1048576) : totQ q = (lineE ls).length := by
  have hok : ∀ t ∈ expE q, okC t.2 := fun a ha => by
    obtain ⟨b, hb, h2⟩ := List.mem_flatMap.1 ha
    rw [(List.mem_replicate.1 h2).2]
    exact ⟨(by show (0 : Int) ≤ 1; decide), (by show (1 : Int) ≤ 9223372036854775807; decide)⟩
  rw [← totQ_exp h.pos, totQ_perm h.exp hok]
  have h1 : ∀ t ∈ lineE ls, t.2 = 1 := fun t ht => by
    obtain ⟨s, _, h2⟩ := List.mem_filterMap.1 ht
    obtain ⟨ts, _, h3⟩ := Option.map_eq_some_iff.1 h2
    rw [← h3]
  have := tot_ones (lineE ls) 0 h1 (by omega) (by have := lineE_len ls; omega)
  rw [totQ, this]; omega
/-- What the elements of a state keep. -/
theorem Sto.elm {l : List Tm} {ls : List ByteArray} (h : Sto (keys l) ls) (hl : ls.length ≤ 1048576) : ∀ t ∈ l, t.toks.length ≤ 60 ∧ Cnt t := fun t ht => by
  have hm : t.key ∈ keys l := List.mem_map_of_mem ht
  have h1 := (h.tok _ hm).2.1
  have h2 := h.cnt hm
  exact ⟨h1, by have : (1 : Int) ≤ t.cnt := h2.1; omega, by have : t.cnt ≤ (ls.length : Int) := h2.2; omega⟩
theorem Sto.tlen {l : List Tm} {ls : List ByteArray} (h : Sto (keys l) ls) : l.length ≤ ls.length := by have := h.len; rwa [keys_len] at this
/-! The reference. -/
theorem tk_srt {a b : El} (h : cmpTk a.1 b.1 < 0) : cmpE a b < 0 := by
  rw [cmpTk_neg, cmpE_neg] at h
  rw [cmpE_neg]
  change a.1.length < b.1.length ∨ (a.1.length = b.1.length ∧ (cmpSL a.1 b.1 < 0 ∨ (a.1 = b.1 ∧ (0 : Int) < 0))) at h
  rcases h with h | ⟨h, h2 | ⟨_, h2⟩⟩
  · exact .inl h
  · exact .inr ⟨h, .inl h2⟩
  · omega
theorem ascT_srt {q : List El} (h : AscT q) : Srt q := List.Pairwise.imp (R := fun a b : El => cmpTk a.1 b.1 < 0) (S := fun a b : El => ¬ cmpE b a < 0) (fun hab e => cmpE_irr _ (cmpE_trans (tk_srt hab) e)) h
theorem insT_add {l : List Tm} {t : Tm} (hA : AscT (keys l)) (hn : ∀ x, (t.toks, x) ∉ keys l) : keys (insT l t) = addE t.toks t.cnt (keys l) := by
  have hx : ∀ x, (keys l)[plT (keys l) t.toks]? ≠ some (t.toks, x) := fun x h => hn x (List.mem_of_getElem? h)
  refine srt_unique ?_ (insT_srt t (ascT_srt hA)) (ascT_srt (addE_asc hA))
  refine ((insT_perm l t).map Tm.key).trans ?_
  rw [addE_new hA hx]
  have h2 : (keys l) = (keys l).take (plT (keys l) t.toks) ++ (keys l).drop (plT (keys l) t.toks) := (List.take_append_drop _ _).symm
  show (t.key :: keys l).Perm _
  conv => lhs; rw [h2]
  exact List.perm_middle.symm
theorem asc_idx {q : List El} {ts : List ByteArray} {x : Int} {i : Nat} (hA : AscT q) (h : q[i]? = some (ts, x)) : plT q ts = i := by
  have h1 := find_at hA (List.mem_of_getElem? h)
  obtain ⟨a1, a2⟩ := List.getElem?_eq_some_iff.1 h
  obtain ⟨b1, b2⟩ := List.getElem?_eq_some_iff.1 h1
  rcases Nat.lt_trichotomy (plT q ts) i with hlt | heq | hlt
  · have := List.pairwise_iff_getElem.1 hA _ _ b1 a1 hlt
    rw [a2, b2] at this
    exact absurd this (tk_irr _)
  · exact heq
  · have := List.pairwise_iff_getElem.1 hA _ _ a1 b1 hlt
    rw [a2, b2] at this
    exact absurd this (tk_irr _)
def isT (ts : List ByteArray) (x : Tm) : Bool := decide (x.toks = ts)
theorem ez30 : Enters Tryz.prog 30 := enters_of Tryz.func30 (by kernel_rfl) rfl
set_option maxRecDepth 100000 in
theorem Fz30 (m : Hp) (va : Value) (l : List Tm) (t : Tm) (ha : Tms m va l) (hok : ∀ x ∈ l, x.Ok m ∧ x.toks.length ≤ 16777216) (ht : t.Ok m) (hl : l.length ≤ 1099511627776) : RC Tryz.prog 30 #[va, t.val] m (.int .i64 (idxT (isT t.toks) l)) := by
  obtain ⟨A, ca, rfl, _⟩ := RdSl.form encT_len (by decide) ha
  refine rc_of_gc fun m1 hm => gc_intro (vs := [_, _]) Tryz.func30 rfl Tryz.ntmps30 (by simp) ?_
  refine awp_rs ?_
  refine ao_x (ex_boxR rfl rfl) rfl fun v m2 ⟨p2, hv, hl2, hc2⟩ => ao_r (rig_assign rfl rfl) rfl (ao_nil ?_)
  subst hv
  have hm2 := hm.trans hl2
  refine awp_sk fun K1 hK1 => awp_rs (ao_r (rig_assign rfl rfl) rfl (ao_nil ?_))
  refine awp_block ?_
  refine awp_le [(0, .slice A l.length ca), (3, .pointer (some ⟨p2, 0, none⟩)), (5, .int .i64 (0 : Nat))] ⟨rfl, rfl, rfl, trivial⟩ ?_
  refine awp_loop (fun k r mm => ∃ i : Nat, i ≤ l.length ∧ k = l.length - i ∧ r = [(0, .slice A l.length ca), (3, .pointer (some ⟨p2, 0, none⟩)), (5, .int .i64 i)] ∧ mm = m2 ∧ (l.take i).any (isT t.toks) = false) _ ⟨0, by omega, rfl, rfl, rfl, rfl⟩ ?_
  rintro k r mm ⟨i, hi, rfl, rfl, rfl, hj⟩
  refine awp_sk fun K2 hK2 => awp_rs ?_
  refine ao_r (rig_move rfl rfl) rfl (ao_r (rig_move rfl rfl) rfl (ao_r (rig_lenSl rfl rfl Tryz.underlying23) rfl (ao_r (rig_lss rfl rfl rfl) rfl (ao_nil ?_))))
  refine awp_if rfl (fun h => ?_) (fun h => ?_)
  · have hil : i < l.length := by omega
    obtain ⟨x, hx⟩ := get_lt hil
    have hxm := List.mem_of_getElem? hx
    obtain ⟨b, off, cap', e, hxc⟩ := Tms.get (RdSl.le ha hm2) hx
    simp only [Value.slice.injEq] at e
    obtain ⟨rfl, _, rfl⟩ := e
    refine awp_skip (hK2 _ _ (awp_sk fun K3 hK3 => awp_block ?_))
    refine awp_ds (.q 0 (.q 1 (.q 2 (.q 3 (.q 4 (.q 5 .fin)))))) [] (by kernel_rfl) (by kernel_rfl) ?_
    refine oq rfl (rig_move rfl rfl) rfl (oq rfl (rig_move rfl rfl) rfl (oq rfl (rig_ix i rfl rfl rfl Tryz.underlying23 Tryz.sizeOf32 rfl rfl hil) rfl (oq rfl (rig_loadN (vs := encT x) rfl rfl Tryz.isAgg32 Tryz.sizeOf32 hxc) rfl (oq rfl (rig_loadN (vs := encT t) rfl rfl Tryz.isAgg32 Tryz.sizeOf32 hc2) rfl (oq rfl (rig_call rfl rfl ez31 (Fz31 _ x t ((hok x hxm).1.le hm2) (ht.le hm2) (by have := (hok x hxm).2; omega))) rfl (od_fin ?_))))))
    refine awp_cond rfl (fun h2 => ?_) (fun h2 => ?_)
    · refine awp_rs (ao_r (rig_move rfl rfl) rfl (ao_r (rig_assign rfl rfl) rfl (ao_nil ?_)))
      refine awp_ret ⟨_, res1 Tryz.results30 rfl, ?_, hl2⟩
      rw [idxT_hit hx hj h2]
    · refine awp_skip (hK3 _ _ (awp_region ?_))
      refine ao_r (rig_move rfl rfl) rfl (ao_r (rig_add (c := ((i + 1 : Nat) : Int)) rfl rfl rfl (w64 _ (by omega) (by omega))) rfl (ao_r (rig_assign rfl rfl) rfl (ao_nil ?_)))
      exact ⟨[(0, .slice _ l.length _), (3, .pointer (some ⟨p2, 0, none⟩)), (5, .int .i64 (i + 1 : Nat))], _, ⟨rfl, rfl, rfl, trivial⟩, by omega, i + 1, by omega, rfl, rfl, rfl, by rw [any_take_none hx hj]; exact h2⟩
  · refine awp_exit (hK1 _ _ (awp_rs (ao_r (rig_assign rfl rfl) rfl (ao_nil ?_))))
    refine awp_ret ⟨_, res1 Tryz.results30 rfl, ?_, hl2⟩
    rw [List.take_of_length_le (by omega)] at hj
    rw [idxT, if_neg (by simp [hj])]
/-- What is handed back where nothing old is changed: the old slice, or a row in new memory. -/
def OldRow (F m' : Hp) (va u : Value) (l out : List Tm) : Prop := ∃ Y, HpLe Y m' ∧ (∀ k, Y k ≠ none → F k = none) ∧ ((u = va ∧ out = l) ∨ Tms Y u out) ∧ ∀ t ∈ out, (∃ t' ∈ l, SameH t t') ∨ t.Ok Y
theorem OldRow.old {F m' : Hp} {va : Value} {l : List Tm} : OldRow F m' va va l l := ⟨hp0, fun k o e => (by cases e), fun k hk => absurd rfl hk, .inl ⟨rfl, rfl⟩, fun t ht => .inl ⟨t, ht, .refl t⟩⟩
theorem OldRow.tms {F m' : Hp} {va u : Value} {l out : List Tm} (h : OldRow F m' va u l out) (hF : HpLe F m') (ha : Tms F va l) : Tms m' u out := by
  obtain ⟨Y, hY, _, h1, _⟩ := h
  rcases h1 with ⟨rfl, rfl⟩ | h1
  · exact RdSl.le ha hF
  · exact RdSl.le h1 hY
theorem OldRow.ok {F m' : Hp} {va u : Value} {l out : List Tm} (h : OldRow F m' va u l out) (hF : HpLe F m') (hl : ∀ t ∈ l, t.Ok F) : ∀ t ∈ out, t.Ok m' := fun t ht => by
  obtain ⟨Y, hY, _, _, hT⟩ := h
  rcases hT t ht with ⟨t', ht', hs⟩ | h
  · exact hs.ok ((hl t' ht').le hF)
  · exact h.le hY
theorem ez33 : Enters Tryz.prog 33 := enters_of Tryz.func33 (by kernel_rfl) rfl
set_option maxHeartbeats 2000000 in
set_option maxRecDepth 100000 in
theorem Fz33 (F : Hp) (va : Value) (l : List Tm) (t : Tm) (ha : Tms F va l) (hok : ∀ x ∈ l, x.Ok F ∧ x.toks.length ≤ 16777216 ∧ Cnt x) (hA : AscT (keys l)) (hl : l.length ≤ 1048576) (ht : t.Ok F) (htl : t.toks.length ≤ 16777216) (hc : Cnt t) :
    GC Tryz.prog 33 #[va, t.val] F (fun u m' => ∃ out, HpLe F m' ∧ (∃ Y, HpLe Y m' ∧ (∀ k, Y k ≠ none → F k = none) ∧ Tms Y u out) ∧ (∀ x ∈ out, (∃ t' ∈ l, SameH x t') ∨ SameH x t) ∧ keys out = addE t.toks t.cnt (keys l)) := by
  obtain ⟨A, ca, rfl, _⟩ := RdSl.form encT_len (by decide) ha
  refine gc_intro (vs := [_, _]) Tryz.func33 rfl Tryz.ntmps33 (by simp) ?_
  refine awp_rs ?_
  refine ao_x (ex_boxR rfl rfl) rfl fun v m2 ⟨p2, hv, hl2, hc2⟩ => ao_r (rig_assign rfl rfl) rfl (ao_nil ?_)
  subst hv
  have h110 := Fz30 m2 _ l t (RdSl.le ha hl2) (fun x hx => ⟨(hok x hx).1.le hl2, (hok x hx).2.1⟩) (ht.le hl2) (by omega)
  refine awp_rs ?_
  refine ao_r (rig_move rfl rfl) rfl (ao_r (rig_loadN (vs := encT t) rfl rfl Tryz.isAgg32 Tryz.sizeOf32 hc2) rfl (ao_r (rig_call rfl rfl ez30 h110) rfl (ao_r (rig_assign rfl rfl) rfl (ao_nil ?_))))
  refine awp_sk fun K1 hK1 => awp_rs (ao_r (rig_move rfl rfl) rfl (ao_r (rig_lss rfl rfl rfl) rfl (ao_nil ?_)))
  have hkey : ∀ x, x ∈ l → isT t.toks x = true → (t.toks, x.cnt) ∈ keys l := fun x hx h => by
    have e : x.toks = t.toks := of_decide_eq_true h
    rw [← e]; exact List.mem_map_of_mem hx
  cases hany : l.any (isT t.toks) with
  | false =>
    have hidx : idxT (isT t.toks) l = -1 := by rw [idxT, if_neg (by simp [hany])]
    rw [hidx]
    have hno : ∀ x, (t.toks, x) ∉ keys l := fun x hx => by
      obtain ⟨y, hy, e⟩ := List.mem_map.1 hx
      rw [List.any_eq_false] at hany
      exact hany y hy (decide_eq_true (congrArg Prod.fst e))
    refine awp_if rfl (fun _ => ?_) (fun h => absurd (show (-1 : Int) < 0 by decide) h)
    have hins := Fz55 m2 _ l t (RdSl.le ha hl2) (fun x hx => (hok x hx).1.le hl2) (ht.le hl2) (by omega) htl
    refine awp_rs ?_
    refine ao_r (rig_move rfl rfl) rfl (ao_r (rig_loadN (vs := encT t) rfl rfl Tryz.isAgg32 Tryz.sizeOf32 hc2) rfl ?_)
    refine ao_x (ex_call rfl rfl ez55 hins) rfl fun u m3 ⟨c3, F3, hD3, hm3, hO3⟩ => ao_r (rig_assign rfl rfl) rfl (ao_nil ?_)
    subst hm3
    have h23 : HpLe m2 (U [c3, F3, m2]) := le_at 2 hD3 rfl
    refine awp_ret ⟨_, res1 Tryz.results33 rfl, insT l t, hl2.trans h23, ⟨c3, le_at 0 hD3 rfl, fun k hk => new_beside' (L := [F3, m2]) hD3.1 (hl2.trans (le_at 1 hD3.2 rfl)) k hk, hO3.rd⟩, fun x hx => ?_, insT_add hA hno⟩
    rcases List.mem_cons.1 ((insT_perm l t).mem_iff.1 hx) with rfl | h
    · exact .inr (.refl _)
    · exact .inl ⟨x, h, .refl x⟩
  | true =>
    have hidx : idxT (isT t.toks) l = (l.findIdx (isT t.toks) : Nat) := by rw [idxT, if_pos hany]
    rw [hidx]
    obtain ⟨y, hym, hyt⟩ := List.any_eq_true.1 hany
    have hil : l.findIdx (isT t.toks) < l.length := List.findIdx_lt_length.2 ⟨y, hym, hyt⟩
    have hxp : isT t.toks (l[l.findIdx (isT t.toks)]) = true := List.findIdx_getElem
    obtain ⟨x, hx⟩ := get_lt hil
    have hxe := (List.getElem?_eq_some_iff.1 hx).2
    rw [hxe] at hxp
    have hxt : x.toks = t.toks := of_decide_eq_true hxp
    have hxm := List.mem_of_getElem? hx
    have hkx : (keys l)[l.findIdx (isT t.toks)]? = some (t.toks, x.cnt) := by rw [keys_get hx, Tm.key, hxt]
    have hpi := asc_idx hA hkx
    have hadd : addE t.toks t.cnt (keys l) = (keys l).set (l.findIdx (isT t.toks)) (t.toks, sumK x.cnt t.cnt) := by
      rw [← hpi] at hkx ⊢
      exact addE_found hA hkx
    generalize l.findIdx (isT t.toks) = i at hil hx hkx hadd
    clear hidx hpi hxe
    refine awp_if rfl (fun h => absurd h (by omega)) (fun _ => ?_)
    refine awp_skip (hK1 _ _ (awp_u (awp_rs (ao_r (rig_move rfl rfl) rfl ?_))))
    have h2U : HpLe m2 (U [m2]) := by rw [U_single]; exact HpLe.refl _
    refine ao_x (ex_appendNil (by_ := 32) rfl (Dj_single m2) rfl rfl Tryz.underlying23 inf32 rfl (by decide) (by decide) (Go.Aw.Src.le ha (hl2.trans h2U)) (one_rows encT_one _) (by rw [rows_length encT_len]; omega)) rfl fun v4 m4 ⟨z, hOz, hm4, hDz⟩ => ao_r (rig_assign rfl rfl) rfl (ao_nil ?_)
    subst hm4
    obtain ⟨g, cap3, sp, rfl, rfl, hsp, hnc, hcm⟩ := hOz.some_ encT_len (by decide) (by omega)
    have hrow : Tms (U [Go.Aw.one g (.cells (rows encT l ++ sp).toArray 32 (0, 0)), m2]) (.slice (some ⟨g, 0, none⟩) l.length cap3) l := RdSl.le hOz.rd (le_at 0 hDz rfl)
    obtain ⟨b8, o8, cap8, e8, hyc⟩ := Tms.get hrow hx
    simp only [Value.slice.injEq, Option.some.injEq, Addr.mk.injEq] at e8
    obtain ⟨⟨rfl, rfl, _⟩, _, rfl⟩ := e8
    obtain ⟨y0, y1, _⟩ := id hyc
    obtain ⟨t0, t1, _⟩ := hc2.le (le_at 1 hDz rfl)
    have hcx := (hok x hxm).2.2
    refine awp_ds (.q 0 (.q 1 (.q 2 (.q 3 (.q 4 (.q 5 (.q 6 (.q 7 (.q 8 (.q 9 (.q 10 (.q 11 (.s 12 .fin))))))))))))) [12] (by kernel_rfl) (by kernel_rfl) ?_
    refine oq rfl (rig_move rfl rfl) rfl (oq rfl (rig_move rfl rfl) rfl (oq rfl (rig_move rfl rfl) rfl (oq rfl (rig_move rfl rfl) rfl (oq rfl (rig_ix i rfl rfl rfl Tryz.underlying23 Tryz.sizeOf32 rfl rfl hil) rfl (oq rfl (rig_fieldAddr rfl rfl Tryz.underlying32 rfl Tryz.sizeOf3 rfl) rfl (oq rfl (rig_load1 rfl rfl Tryz.isAgg3 y1) rfl ?_))))))
    refine oq rfl (rig_fieldAddr rfl rfl Tryz.underlying32 rfl Tryz.sizeOf3 rfl) rfl (oq rfl (rig_load1 rfl rfl Tryz.isAgg3 t1) rfl (oq rfl (rig_call rfl rfl ez37 (Fz37 _ x.cnt t.cnt (by have h0 : 0 ≤ x.cnt := hcx.1; omega) hc.1 hc.2)) rfl (oq rfl (rig_ix i rfl rfl rfl Tryz.underlying23 Tryz.sizeOf32 rfl rfl hil) rfl (oq rfl (rig_fieldAddr rfl rfl Tryz.underlying32 rfl Tryz.sizeOf3 rfl) rfl ?_))))
    refine os0 rfl (ex_store (i := 0) rfl hDz rfl rfl Tryz.sizeOf3 (by simp [Value.cells, Value.oneCell']) rfl (by simp [Value.cells, rows_length encT_len]; omega)) fun u m1 ⟨_, hm, hD4⟩ => ⟨fun h => by simp at h, ?_⟩
    subst hm
    have erow : putR (rows encT l ++ sp).toArray (0 + i * 2 + 1) [.int .i64 (sumS x.cnt t.cnt)] = (rows encT (l.set i { x with cnt := sumS x.cnt t.cnt }) ++ sp).toArray := by
      rw [Nat.zero_add]; exact putR_cnt l _ x _ sp hx
    have key : ∃ mm, mm = U [Go.Aw.one g (.cells (rows encT (l.set i { x with cnt := sumS x.cnt t.cnt }) ++ sp).toArray 32 (0, 0)), m2] ∧ Dj [Go.Aw.one g (.cells (rows encT (l.set i { x with cnt := sumS x.cnt t.cnt }) ++ sp).toArray 32 (0, 0)), m2] ∧ U ([Go.Aw.one g (.cells (rows encT l ++ sp).toArray 32 (0, 0)), m2].set 0 (Go.Aw.one g (.cells (putR (rows encT l ++ sp).toArray (0 + i * 2 + 1) [.int .i64 (sumS x.cnt t.cnt)]) 32 (0, 0)))) = mm :=
      ⟨_, rfl, by have := hD4; rw [List.set_cons_zero] at this; rw [← erow]; exact this, by rw [erow]; rfl⟩
    obtain ⟨mm, hmm, hD5, hmm2⟩ := key
    have hln : (l.set i { x with cnt := sumS x.cnt t.cnt }).length = l.length := by simp
    have hO5 : Own 32 2 (Go.Aw.one g (.cells (rows encT (l.set i { x with cnt := sumS x.cnt t.cnt }) ++ sp).toArray 32 (0, 0))) (.slice (some ⟨g, 0, none⟩) l.length cap3) (rows encT (l.set i { x with cnt := sumS x.cnt t.cnt })) := by
      rw [← hln]
      refine Own.mk_ encT_len ?_ (by rw [hln]; exact hnc) hcm
      rw [List.length_append, rows_length encT_len] at hsp ⊢
      rw [hln]; exact hsp
    have e6 := hmm2.trans hmm
    refine od_fin (awp_L e6 (awp_rs (ao_r (rig_move rfl rfl) rfl (ao_r (rig_assign rfl rfl) rfl (ao_nil ?_)))))
    refine awp_ret ⟨_, res1 Tryz.results33 rfl, l.set i { x with cnt := sumS x.cnt t.cnt }, hl2.trans (le_at 1 hD5 rfl), ⟨_, le_at 0 hD5 rfl, fun k hk => new_beside' (L := [m2]) hD5.1 (by rw [U_single]; exact hl2) k hk, hO5.rd⟩, fun z hz => ?_, ?_⟩
    · rcases List.mem_or_eq_of_mem_set hz with h | h
      · exact .inl ⟨z, h, .refl z⟩
      · rw [h]; exact .inl ⟨x, hxm, rfl, rfl, rfl, rfl⟩
    · rw [hadd, keys, List.map_set]
      show (keys l).set _ _ = _
      congr 1
      show (x.toks, sumS x.cnt t.cnt) = _
      rw [hxt]; rfl
theorem ez13 : Enters Tryz.prog 13 := enters_of Tryz.func13 (by kernel_rfl) rfl
set_option maxHeartbeats 1000000 in
set_option maxRecDepth 100000 in
theorem Fz13 (F : Hp) (va : Value) (l : List Tm) (s : ByteArray) (ha : Tms F va l) (hok : ∀ x ∈ l, x.Ok F ∧ x.toks.length ≤ 16777216 ∧ Cnt x) (hA : AscT (keys l)) (hl : l.length ≤ 1048576) (hs : s.size ≤ 16777216) :
    GC Tryz.prog 13 #[va, .string s] F (fun u m' => ∃ out, HpLe F m' ∧ OldRow F m' va u l out ∧ keys out = addS s (keys l)) := by
  refine gc_intro (vs := [_, _]) Tryz.func13 rfl Tryz.ntmps13 (by simp) ?_
  refine awp_rs (ao_r (rig_assign rfl rfl) rfl (ao_nil ?_))
  refine awp_rs (ao_r (rig_move rfl rfl) rfl ?_)
  refine ao_x (ex_call rfl rfl ez29 (Fz29 F s hs)) rfl fun u m1 ⟨c0, F0, hD0, hm1, hR⟩ => ?_
  have h1 : HpLe F m1 := by rw [hm1]; exact le_at 2 hD0 rfl
  have hc1 : HpLe c0 m1 := by rw [hm1]; exact le_at 0 hD0 rfl
  have hn1 := new_beside' (L := [F0, F]) hD0.1 (le_at 1 hD0.2 rfl)
  clear hm1
  rcases hR with ⟨hno, rfl⟩ | ⟨ts, v1, hts, rfl, hOt⟩
  · refine ao_r (rig_move rfl rfl) rfl (ao_r (rig_extract rfl rfl rfl) rfl (ao_r (rig_extract rfl rfl rfl) rfl (ao_r (rig_assign rfl rfl) rfl (ao_r (rig_assign rfl rfl) rfl (ao_nil ?_)))))
    refine awp_sk fun K1 hK1 => awp_rs (ao_r (rig_move rfl rfl) rfl (ao_r (rig_not rfl rfl) rfl (ao_nil ?_)))
    refine awp_true rfl (awp_rs (ao_r (rig_move rfl rfl) rfl (ao_r (rig_assign rfl rfl) rfl (ao_nil ?_))))
    exact awp_ret ⟨_, res1 Tryz.results13 rfl, l, h1, .old, by rw [addS, hno]⟩
  · refine ao_r (rig_move rfl rfl) rfl (ao_r (rig_extract rfl rfl rfl) rfl (ao_r (rig_extract rfl rfl rfl) rfl (ao_r (rig_assign rfl rfl) rfl (ao_r (rig_assign rfl rfl) rfl (ao_nil ?_)))))
    refine awp_sk fun K1 hK1 => awp_rs (ao_r (rig_move rfl rfl) rfl (ao_r (rig_not rfl rfl) rfl (ao_nil ?_)))
    obtain ⟨A2, cap2, rfl⟩ := hOt.len encS_len (by decide)
    have htl := (toksOf_len hts).2
    refine awp_false rfl (awp_skip (hK1 _ _ (awp_rs ?_)))
    refine ao_r (rig_move rfl rfl) rfl (ao_r (rig_move rfl rfl) rfl (ao_r (rig_build (pl := #[(0, 1), (1, 1)]) (cs := #[.slice A2 ts.length cap2, .int .i64 1]) rfl rfl Tryz.underlying32 Tryz.zeroValue32 (fun w => by kernel_rfl) rfl) rfl ?_))
    have h80 := Fz33 m1 va l ⟨A2, ts.length, cap2, ts, 1⟩ (RdSl.le ha h1) (fun x hx => ⟨(hok x hx).1.le h1, (hok x hx).2⟩) hA hl (RdSl.le hOt.rd hc1) (by show ts.length ≤ _; omega) ⟨by show (0 : Int) ≤ 1; decide, by show (1 : Int) ≤ 9223372036854775807; decide⟩
    refine ao_x (ex_call rfl rfl ez33 h80) rfl fun u2 m2 ⟨out, h2, ⟨Y, hY, hYn, hYt⟩, hT, hk⟩ => ao_r (rig_assign rfl rfl) rfl (ao_nil ?_)
    have hDY : Dj [Y, c0] := by
      refine ⟨fun k hk => ?_, Dj_single c0⟩
      rw [U_single]
      have := hYn k hk
      cases h : c0 k with
      | none => rfl
      | some o => rw [hc1 k o h] at this; cases this
    refine awp_ret ⟨_, res1 Tryz.results13 rfl, out, h1.trans h2, ⟨U [Y, c0], fun k o hk => ?_, fun k hk => ?_, .inr (RdSl.le hYt (le_at 0 hDY rfl)), fun t ht => ?_⟩, ?_⟩
    · simp only [U, hp0, Option.or_none] at hk
      cases hq : Y k with
      | some q => rw [hq, Option.some_or] at hk; rw [hY k q hq]; exact hk
      | none => rw [hq, Option.none_or] at hk; exact h2 k o (hc1 k o hk)
    · simp only [U, hp0, Option.or_none] at hk
      cases hq : Y k with
      | some q =>
        have h5 := hYn k (by rw [hq]; simp)
        cases h : F k with
        | none => rfl
        | some o => rw [h1 k o h] at h5; cases h5
      | none => rw [hq, Option.none_or] at hk; exact hn1 k hk
    · rcases hT t ht with h | h
      · exact .inl h
      · exact .inr (h.ok (RdSl.le hOt.rd (le_at 1 hDY rfl)))
    · rw [hk, addS, hts]
end Go.Proofs.YtmofaabndjnhjaaGreat
/- The miner's law: contracts beside pieces; awake and state of chapter 15. -/
set_option linter.unusedVariables false
set_option linter.unusedSimpArgs false
namespace Go.Aw
open Go Go.RowKit
theorem new_last : ∀ {cs : List Hp} {Y F M : Hp}, (∀ k, Y k ≠ none → U (cs ++ [F]) k = none) → HpLe Y (U (cs ++ [M])) → HpLe Y M := fun hn hY k o hk =>
  (last_get (hn k (by rw [hk]; simp)) (hY k o hk)).1
theorem none_last : ∀ {cs : List Hp} {F : Hp} {k : Nat}, U (cs ++ [F]) k = none → F k = none
  | [], F, k, h => by rw [List.nil_append, U_single] at h; exact h
  | c :: cs, F, k, h => by
    simp only [List.cons_append, U, Option.or_eq_none_iff] at h
    exact none_last h.2
theorem last_le : ∀ {cs : List Hp} {F : Hp}, Dj (cs ++ [F]) → HpLe F (U (cs ++ [F]))
  | [], F, _ => by rw [List.nil_append, U_single]; exact HpLe.refl F
  | c :: cs, F, h => (last_le h.2).trans (U_le_tail h)
theorem absorb {cs : List Hp} {G c F' : Hp} (hD : Dj (cs ++ [G])) (hDc : Dj [c, F']) (hF : HpLe (U (cs ++ [G])) F') : ∃ G', HpLe G G' ∧ Dj (cs ++ [G']) ∧ U [c, F'] = U (cs ++ [G']) ∧ HpLe c G' ∧ ∀ Y, HpLe Y F' → (∀ k, Y k ≠ none → U (cs ++ [G]) k = none) → HpLe Y G' := by
  obtain ⟨G', h1, h2, h3⟩ := grow_to (m' := U [c, F']) hD (hF.trans (le_at 1 hDc rfl))
  refine ⟨G', h1, h2, h3, new_last (cs := cs) (F := G) (fun k hk => ?_) (by rw [← h3]; exact U_le_head), fun Y hY hn => new_last (cs := cs) (F := G) hn (by rw [← h3]; exact hY.trans (le_at 1 hDc rfl))⟩
  have h4 := hDc.1 k hk
  rw [U_single] at h4
  cases h : U (cs ++ [G]) k with
  | none => rfl
  | some o => rw [hF k o h] at h4; cases h4
theorem U_last_mono : ∀ {cs : List Hp} {F F' : Hp}, HpLe F F' → HpLe (U (cs ++ [F])) (U (cs ++ [F']))
  | [], F, F', h => by rw [List.nil_append, List.nil_append, U_single, U_single]; exact h
  | c :: cs, F, F', h => fun k o hk => by
    simp only [List.cons_append, U] at hk ⊢
    cases hc : c k with
    | some q => rw [hc, Option.some_or] at hk; rw [Option.some_or]; exact hk
    | none => rw [hc, Option.none_or] at hk; rw [Option.none_or]; exact U_last_mono h k o hk
/-- A new piece joins what is only read, beside two pieces. -/
theorem sinkB {x c a F : Hp} (hD : Dj [x, c, a, F]) : U [x, c, a, F] = U [c, a, U [x, F]] ∧ Dj [c, a, U [x, F]] ∧ HpLe F (U [x, F]) ∧ HpLe x (U [x, F]) := by
  have h : U [x, c, a, F] = U [c, a, x, F] ∧ Dj [c, a, x, F] := U_pm [1, 2, 0, 3] rfl hD
  exact ⟨h.1.trans (U_flat [c, a] _).symm, Dj_unflat (A := [c, a]) h.2, le_at 1 h.2.2.2 rfl, U_le_head⟩
/-- The row at the second place is put off for a new one. -/
theorem swapB {x c a F : Hp} (hD : Dj [x, c, a, F]) : U [x, c, a, F] = U [c, x, U [a, F]] ∧ Dj [c, x, U [a, F]] ∧ HpLe F (U [a, F]) ∧ HpLe a (U [a, F]) := by
  have h : U [x, c, a, F] = U [c, x, a, F] ∧ Dj [c, x, a, F] := U_pm [1, 0, 2, 3] rfl hD
  exact ⟨h.1.trans (U_flat [c, x] _).symm, Dj_unflat (A := [c, x]) h.2, le_at 1 h.2.2.2 rfl, U_le_head⟩
theorem rig_bneqS {P : Program} {r : Env} {m : Hp} {o : Oper} {T T' : TypeId} {x y : Operand} {b : Bool} (h : o.op = .binOp .neq T x y T') (hT : P.underlying T = some .bool) (ex : ev r x = some (.bool b)) (ey : ev r y = some (.bool b)) : Rig P o r m (.bool false) := by
  have := rig_bneq (m := m) h hT ex ey
  simpa using this
end Go.Aw
namespace Go.Proofs.YtmofaabndjnhjaaGreat
open Go Go.Aw Go.Pl Go.RowKit
theorem Fz12g (cs : List Hp) (G : Hp) (va : Value) (l : List Tm) (s : ByteArray) (hD : Dj (cs ++ [G])) (ha : Tms G va l) (hok : ∀ t ∈ l, t.Ok G ∧ t.toks.length ≤ 16777216 ∧ Cnt t) (hA : AscT (keys l)) (hl : l.length ≤ 1048576) (hs : s.size ≤ 16777216) :
    GC Tryz.prog 12 #[va, .string s] (U (cs ++ [G])) (fun u m' => ∃ out G', HpLe G G' ∧ Dj (cs ++ [G']) ∧ m' = U (cs ++ [G']) ∧ Tms G' u out ∧ (∀ t ∈ out, t.Ok G') ∧ keys out = addS s (keys l)) := by
  have hG := last_le hD
  refine (Fz12 (U (cs ++ [G])) va l s (RdSl.le ha hG) (fun t ht => ⟨(hok t ht).1.le hG, (hok t ht).2⟩) hA hl hs).mono fun u m' ⟨out, c, F', hO, hm, hDc, hF, ⟨Y, hY, hn, hT⟩, hk⟩ => ?_
  subst hm
  obtain ⟨G', hGG, hD', e, hc, hYG⟩ := absorb hD hDc hF
  have hYG := hYG Y hY hn
  refine ⟨out, G', hGG, hD', e, RdSl.le hO.rd hc, fun t ht => ?_, hk⟩
  rcases hT t ht with ⟨t', ht', hs⟩ | h
  · exact hs.ok ((hok t' ht').1.le hGG)
  · exact h.le hYG
theorem Fz9g (cs : List Hp) (G : Hp) (va : Value) (l : List Tm) (s : ByteArray) (hD : Dj (cs ++ [G])) (ha : Tms G va l) (hok : ∀ t ∈ l, t.Ok G ∧ t.toks.length ≤ 16777216 ∧ Cnt t) (hA : AscT (keys l)) (hl : l.length ≤ 1048576) (hs : s.size ≤ 16777216) :
    GC Tryz.prog 9 #[va, .string s] (U (cs ++ [G])) (fun u m' => ∃ v b out G', u = .tuple #[v, .bool b] ∧ HpLe G G' ∧ Dj (cs ++ [G']) ∧ m' = U (cs ++ [G']) ∧ Tms G' v out ∧ (∀ t ∈ out, t.Ok G') ∧ RemR s (keys l) (keys out) b) := by
  have hG := last_le hD
  refine (Fz9 (U (cs ++ [G])) va l s (RdSl.le ha hG) (fun t ht => ⟨(hok t ht).1.le hG, (hok t ht).2⟩) hA hl hs).mono fun u m' ⟨v, b, out, c, F', hu, hO, hm, hDc, hF, hT, hk⟩ => ?_
  subst hm
  obtain ⟨G', hGG, hD', e, hc, _⟩ := absorb hD hDc hF
  refine ⟨v, b, out, G', hu, hGG, hD', e, RdSl.le hO.rd hc, fun t ht => ?_, hk⟩
  obtain ⟨t', ht', hs⟩ := hT t ht
  exact hs.ok ((hok t' ht').1.le hGG)
theorem Fz13g (cs : List Hp) (G : Hp) (va : Value) (l : List Tm) (s : ByteArray) (hD : Dj (cs ++ [G])) (ha : Tms G va l) (hok : ∀ t ∈ l, t.Ok G ∧ t.toks.length ≤ 16777216 ∧ Cnt t) (hA : AscT (keys l)) (hl : l.length ≤ 1048576) (hs : s.size ≤ 16777216) :
    GC Tryz.prog 13 #[va, .string s] (U (cs ++ [G])) (fun u m' => ∃ out G', HpLe G G' ∧ Dj (cs ++ [G']) ∧ m' = U (cs ++ [G']) ∧ Tms G' u out ∧ (∀ t ∈ out, t.Ok G') ∧ keys out = addS s (keys l)) := by
  have hG := last_le hD
  refine (Fz13 (U (cs ++ [G])) va l s (RdSl.le ha hG) (fun t ht => ⟨(hok t ht).1.le hG, (hok t ht).2⟩) hA hl hs).mono fun u m' ⟨out, hF, ⟨Y, hY, hn, h1, hT⟩, hk⟩ => ?_
  obtain ⟨G', hGG, hD', rfl⟩ := grow_to hD hF
  have hYG : HpLe Y G' := new_last (cs := cs) (F := G) hn hY
  refine ⟨out, G', hGG, hD', rfl, ?_, fun t ht => ?_, hk⟩
  · rcases h1 with ⟨rfl, rfl⟩ | h1
    · exact RdSl.le ha hGG
    · exact RdSl.le h1 hYG
  · rcases hT t ht with ⟨t', ht', hs⟩ | h
    · exact hs.ok ((hok t' ht').1.le hGG)
    · exact h.le hYG
/-- Tokens, beside pieces: only whether there are any. -/
theorem Fz26g (cs : List Hp) (G : Hp) (s : ByteArray) (hD : Dj (cs ++ [G])) (hs : s.size ≤ 16777216) :
    GC Tryz.prog 26 #[.string s] (U (cs ++ [G])) (fun u m' => ∃ v G', u = .tuple #[v, .bool (toksOf s).isSome] ∧ HpLe G G' ∧ Dj (cs ++ [G']) ∧ m' = U (cs ++ [G'])) := by
  refine (Fz26 (U (cs ++ [G])) s hs).mono fun u m' ⟨c, F', hDc, hm, hR⟩ => ?_
  subst hm
  obtain ⟨G', hGG, hD', e⟩ := grow_to (m' := U [c, F', U (cs ++ [G])]) hD (le_at 2 hDc rfl)
  rcases hR with ⟨hno, rfl⟩ | ⟨ts, v, hts, rfl, _⟩
  · exact ⟨_, G', by rw [hno]; rfl, hGG, hD', e⟩
  · exact ⟨v, G', by rw [hts]; rfl, hGG, hD', e⟩
theorem Fz26h (G : Hp) (s : ByteArray) (hs : s.size ≤ 16777216) : GC Tryz.prog 26 #[.string s] G (fun u m' => ∃ v, u = .tuple #[v, .bool (toksOf s).isSome] ∧ HpLe G m') := by
  have h := Fz26g [] G s (Dj_single G) hs
  rw [List.nil_append, U_single] at h
  refine h.mono fun u m' ⟨v, G', hu, hG, _, hm⟩ => ⟨v, hu, by rw [hm, List.nil_append, U_single]; exact hG⟩
def abS : ByteArray := ⟨#[97, 32, 98]⟩
def abT : List ByteArray := [B [97], B [98]]
set_option maxRecDepth 100000 in
theorem abToks : toksOf abS = some abT := by decide +kernel
theorem ez4 : Enters Tryz.prog 4 := enters_of Tryz.func4 (by kernel_rfl) rfl
set_option maxHeartbeats 1000000 in
set_option maxRecDepth 100000 in
theorem Fz4 (m : Hp) : RC Tryz.prog 4 #[] m (.bool true) := by
  refine rc_of_gc fun m1 hm => gc_intro (vs := []) Tryz.func4 rfl Tryz.ntmps4 (by simp) ?_
  refine awp_rs (ao_r (rig_assign rfl rfl) rfl (ao_nil ?_))
  have hU : m1 = U ([] ++ [m1]) := (U_single m1).symm
  have s0 : Sto [] [] := Sto.nil
  have s1 := s0.add abS (by decide)
  have s2 := s1.add abS (by decide)
  have k1 : addS abS [] = [(abT, 1)] := by rw [addS, abToks]; rfl
  have k2 : addS abS [(abT, 1)] = [(abT, 2)] := by rw [addS, abToks]; decide +kernel
  rw [k1] at s1 s2
  rw [k2] at s2
  have h24 := Fz12g [] m1 (.slice none 0 0) [] abS (Dj_single m1) ⟨none, 0, 0, rfl, rfl, .inl rfl⟩ (by simp) List.Pairwise.nil (by decide) (by decide)
  rw [← hU] at h24
  refine awp_rs ?_
  refine ao_x (ex_call rfl rfl ez12 h24) rfl fun u m2 ⟨o1, G1, hG1, hD1, hm2, ht1, hk1, hq1⟩ => ?_
  subst hm2
  have hq1' : keys o1 = [(abT, 1)] := hq1.trans k1
  have hl1 : o1.length = 1 := by have := congrArg List.length hq1'; rw [keys_len] at this; exact this
  have h24b := Fz12g [] G1 u o1 abS hD1 ht1 (fun t ht => ⟨hk1 t ht, by have := (show Sto (keys o1) _ by rw [hq1']; exact s1).elm (by decide) t ht; exact ⟨by omega, this.2⟩⟩) (by rw [hq1']; exact s1.asc) (by omega) (by decide)
  refine ao_x (ex_call rfl rfl ez12 h24b) rfl fun u2 m3 ⟨o2, G2, hG2, hD2, hm3, ht2, hk2, hq2⟩ => ao_r (rig_assign rfl rfl) rfl (ao_nil ?_)
  subst hm3
  have hq2' : keys o2 = [(abT, 2)] := by rw [hq2, hq1', k2]
  have hl2 : o2.length = 1 := by have := congrArg List.length hq2'; rw [keys_len] at this; exact this
  have h25 := Fz9g [] G2 u2 o2 abS hD2 ht2 (fun t ht => ⟨hk2 t ht, by have := (show Sto (keys o2) _ by rw [hq2']; exact s2).elm (by decide) t ht; exact ⟨by omega, this.2⟩⟩) (by rw [hq2']; exact s2.asc) (by omega) (by decide)
  refine awp_rs (ao_r (rig_move rfl rfl) rfl ?_)
  refine ao_x (ex_call rfl rfl ez9 h25) rfl fun u3 m4 ⟨v, b, o3, G3, hu3, hG3, hD3, hm4, ht3, hk3, hR⟩ => ?_
  subst hu3 hm4
  rw [hq2'] at hR
  have hR2 : b = true ∧ keys o3 = [(abT, 1)] := by
    rcases hR with ⟨_, _, h | ⟨ts, h, hn⟩⟩ | ⟨hb, ts, x, h, _, hk⟩
    · rw [abToks] at h; cases h
    · rw [abToks] at h; cases h; exact absurd (List.mem_singleton.2 rfl) (hn 2)
    · rw [abToks] at h; cases h
      exact ⟨hb, hk.trans (by decide +kernel)⟩
  obtain ⟨rfl, hq3⟩ := hR2
  have hl3 : o3.length = 1 := by have := congrArg List.length hq3; rw [keys_len] at this; exact this
  obtain ⟨t, rfl⟩ := List.length_eq_one_iff.1 hl3
  have htc : t.cnt = 1 := by
    have h1 : t.key = (abT, 1) := by simpa [keys] using hq3
    exact congrArg Prod.snd h1
  obtain ⟨b', o', c', e, hc⟩ := Tms.get ht3 (i := 0) rfl
  subst e
  have hc3 := hc.le (last_le hD3)
  obtain ⟨c0, c1, _⟩ := id hc3
  refine ao_r (rig_move rfl rfl) rfl (ao_r (rig_extract rfl rfl rfl) rfl (ao_r (rig_extract rfl rfl rfl) rfl (ao_r (rig_assign rfl rfl) rfl (ao_r (rig_assign rfl rfl) rfl (ao_nil ?_)))))
  refine awp_rs ?_
  refine ao_r (rig_move rfl rfl) rfl (ao_r (rig_move rfl rfl) rfl ?_)
  refine ao_on rfl rfl (ao_r (rig_move rfl rfl) rfl (ao_on rfl rfl (ao_r (rig_lenSl rfl rfl Tryz.underlying23) rfl (ao_on rfl rfl (ao_r (rig_eql rfl rfl rfl) rfl (ao_r (rig_pickT rfl rfl rfl) rfl (ao_r (rig_move rfl rfl) rfl ?_)))))))
  refine ao_on rfl rfl (ao_r (rig_move rfl rfl) rfl (ao_on rfl rfl (ao_r (rig_ix 0 rfl rfl rfl Tryz.underlying23 Tryz.sizeOf32 rfl rfl (by simp)) rfl (ao_on rfl rfl (ao_r (rig_fieldAddr rfl rfl Tryz.underlying32 rfl Tryz.sizeOf3 rfl) rfl (ao_on rfl rfl (ao_r (rig_load1 rfl rfl Tryz.isAgg3 c1) rfl (ao_on rfl rfl (ao_r (rig_eql rfl rfl rfl) rfl ?_)))))))))
  rw [decide_eq_true htc]
  refine ao_r (rig_pickT rfl rfl rfl) rfl (ao_r (rig_assign rfl rfl) rfl (ao_nil ?_))
  refine awp_ret ⟨_, res1 Tryz.results4 rfl, rfl, ?_⟩
  rw [List.nil_append, U_single]
  exact hG1.trans (hG2.trans hG3)
theorem ez6 : Enters Tryz.prog 6 := enters_of Tryz.func6 (by kernel_rfl) rfl
set_option maxHeartbeats 2000000 in
set_option maxRecDepth 100000 in
theorem Fz6 (mb : Hp) (p : Nat) (F m : Hp) (most : Nat) (hmost : most ≤ 50) (h : CodH mb p 44 F m) : GC Tryz.prog 6 #[.pointer (some ⟨p, 0, none⟩), .int .i64 most] m (fun u m' => ∃ (va vl : Value) (ts : List Tm) (ls : List ByteArray) (x F' : Hp), u = .tuple #[va, vl] ∧ ls.length ≤ most ∧ (∀ s ∈ ls, s.size ≤ 200) ∧ Own 9 1 x vl (rows encS ls) ∧ Dj [x, F'] ∧ HpLe F F' ∧ CodH mb p 44 (U [x, F']) m' ∧ Tms F' va ts ∧ (∀ t ∈ ts, t.Ok F') ∧ Sto (keys ts) ls) := by
  refine gc_intro (vs := [_, _]) Tryz.func6 rfl Tryz.ntmps6 (by simp) ?_
  have hmb : HpLe mb F := by obtain ⟨_, _, _, _, h⟩ := h; exact h
  refine awp_rs (ao_r (rig_assign rfl rfl) rfl (ao_r (rig_assign rfl rfl) rfl (ao_nil ?_)))
  refine awp_rs (ao_r (rig_assign rfl rfl) rfl (ao_nil ?_))
  refine awp_rs (ao_r (rig_assign rfl rfl) rfl (ao_nil ?_))
  refine awp_sk fun K1 hK1 => ?_
  refine awp_rs ?_
  refine ao_r (rig_move rfl rfl) rfl (ao_r (rig_move rfl rfl) rfl (ao_r (rig_add rfl rfl rfl (w64 _ (by omega) (by omega))) rfl ?_))
  refine ao_x (ex_call rfl rfl ez7 (Fz7 mb p F _ _ h)) rfl fun v m1 ⟨k, hv, hk, h⟩ => ?_
  subst hv
  refine ao_r (rig_assign rfl rfl) rfl (ao_nil ?_)
  refine awp_block ?_
  refine awp_le [(0, .pointer (some ⟨p, 0, none⟩)), (6, .slice none 0 0), (7, .slice none 0 0), (8, .int .i64 k)] ⟨rfl, rfl, rfl, rfl, trivial⟩ ?_
  refine awp_loop (fun k r mm => ∃ (va vl : Value) (ts : List Tm) (ls : List ByteArray) (x F' : Hp), ls.length + k ≤ most ∧ r = [(0, .pointer (some ⟨p, 0, none⟩)), (6, va), (7, vl), (8, .int .i64 (k : Nat))] ∧ (∀ s ∈ ls, s.size ≤ 200) ∧ Own 9 1 x vl (rows encS ls) ∧ Dj [x, F'] ∧ HpLe F F' ∧ CodH mb p 44 (U [x, F']) mm ∧ Tms F' va ts ∧ (∀ t ∈ ts, t.Ok F') ∧ Sto (keys ts) ls) k
    ⟨_, _, [], [], hp0, F, by simp; omega, rfl, by simp, Own.nil 9 1, Dj_hp0 (Dj_single F), HpLe.refl _, by rw [U_hp0, U_single]; exact h, ⟨none, 0, 0, rfl, rfl, .inl rfl⟩, by simp, Sto.nil⟩ ?_
  rintro k r mm ⟨va, vl, ts, ls, x, F1, hk2, rfl, hsz, hO, hD, hF1, h, hT, hok, hS⟩
  refine awp_sk fun K2 hK2 => awp_rs ?_
  refine ao_r (rig_move rfl rfl) rfl (ao_r (rig_gtr rfl rfl rfl) rfl (ao_nil ?_))
  refine awp_if rfl (fun h1 => ?_) (fun h1 => ?_)
  · obtain ⟨j, rfl⟩ : ∃ j, k = j + 1 := ⟨k - 1, by omega⟩
    refine awp_skip (hK2 _ _ (awp_sk fun K3 hK3 => awp_block (awp_rs ?_)))
    refine ao_r (rig_move rfl rfl) rfl ?_
    refine ao_x (ex_call rfl rfl ez8 (Fz8 mb p _ _ h)) rfl fun w m2 ⟨s, hw, hs, F2, hF2, h⟩ => ?_
    subst hw
    obtain ⟨F3, hF3, hD3, h⟩ := h.split hF2 hD
    obtain ⟨c, hc, rfl, hD4⟩ := h.out hD3
    refine ao_r (rig_assign rfl rfl) rfl (ao_nil ?_)
    refine awp_region ?_
    have h46 := Fz13g [c, x] F3 va ts s hD4 (RdSl.le hT hF3) (fun t ht => ⟨(hok t ht).le hF3, by have := hS.elm (by omega) t ht; exact ⟨by omega, this.2⟩⟩) hS.asc (by have := hS.tlen; omega) (by omega)
    refine ao_r (rig_move rfl rfl) rfl (ao_r (rig_move rfl rfl) rfl ?_)
    refine ao_x (ex_call rfl rfl ez13 h46) rfl fun u m5 ⟨ts', F4, hF4, hD5, hm5, hT5, hok5, hq5⟩ => ?_
    subst hm5
    refine ao_r (rig_move rfl rfl) rfl (ao_r (rig_move rfl rfl) rfl ?_)
    refine ao_x (ex_buildSlice rfl hD5 rfl Tryz.underlying27 Tryz.sizeOf9 Tryz.zeroValue9 (by decide) (by decide) (fill_one rfl (rangeMap_size _ _))) rfl fun w2 m2 ⟨b2, hw2, hm2, hD6⟩ => ?_
    subst hw2 hm2
    refine ao_x (ex_append 2 (by_ := 16) rfl hD6 rfl rfl Tryz.underlying27 inf9 rfl (by decide) (by decide) hO rfl (src_one (enc := encS) (x := s) encS_len ((cellsAt_one _ _ _).le U_le_head)) (one_rows encS_one _) (by rw [rows_length encS_len, rows_length encS_len]; simp; omega)) rfl fun w3 m3 ⟨c3, hO3, hm3, hD7⟩ => ?_
    subst hm3
    refine ao_r (rig_assign rfl rfl) rfl (ao_r (rig_assign rfl rfl) rfl (ao_nil ?_))
    rw [← rows_append] at hO3
    obtain ⟨e8, hD8, hF8, _⟩ := sinkB (x := Go.Aw.one b2 (.cells (Value.string s).cells 9 (0, 0))) (c := c) (a := c3) (F := F4) hD7
    refine hK3 _ _ (awp_L e8 (awp_region ?_))
    have hC8 : CodH mb p 44 (U [c3, U [Go.Aw.one b2 (.cells (Value.string s).cells 9 (0, 0)), F4]]) (U [c, c3, U [Go.Aw.one b2 (.cells (Value.string s).cells 9 (0, 0)), F4]]) :=
      backL hc hD8 (((hmb.trans (hF1.trans hF3)).trans (hF4.trans hF8)).trans (le_at 1 hD8.2 rfl))
    refine ao_r (rig_move rfl rfl) rfl (ao_r (rig_sub rfl rfl rfl (show IntKind.i64.wrap (((j + 1 : Nat) : Int) - 1) = (j : Int) by rw [show (((j + 1 : Nat) : Int) - 1) = (j : Int) by omega]; exact w64 _ (by omega) (by omega))) rfl (ao_r (rig_assign rfl rfl) rfl (ao_nil ?_)))
    refine ⟨[(0, .pointer (some ⟨p, 0, none⟩)), (6, u), (7, w3), (8, .int .i64 (j : Nat))], j, ⟨rfl, rfl, rfl, rfl, trivial⟩, by omega, u, w3, ts', ls ++ [s], c3, _, by simp; omega, rfl, ?_, hO3, hD8.2, (hF1.trans hF3).trans (hF4.trans hF8), hC8, RdSl.le hT5 hF8, fun t ht => (hok5 t ht).le hF8, by rw [hq5]; exact hS.add s (by omega)⟩
    intro y hy
    rcases List.mem_append.1 hy with h | h
    · exact hsz y h
    · rw [List.mem_singleton.1 h]; exact hs
  · refine awp_exit (hK1 _ _ (awp_rs ?_))
    refine ao_r (rig_move rfl rfl) rfl (ao_r (rig_move rfl rfl) rfl (ao_r (rig_assign rfl rfl) rfl (ao_r (rig_assign rfl rfl) rfl (ao_nil ?_))))
    exact awp_ret ⟨_, res2 Tryz.results6 rfl rfl, va, vl, ts, ls, x, F1, rfl, by omega, hsz, hO, hD, hF1, h, hT, hok, hS⟩
end Go.Proofs.YtmofaabndjnhjaaGreat
