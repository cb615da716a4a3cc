/- The miner's law MinerSteps: states that a count may have been changed in; the reference's Size, token, Remove, Merge; the program's Merge. -/
import Derived.Test.YtmofaabndjnhjaaGreatSteps
import Derived.Test.YtmofaabndjnhjaaGreatHeap
set_option linter.unusedVariables false
set_option linter.unusedSimpArgs false
namespace Go.Proofs.YtmofaabndjnhjaaGreat
open Go Go.Aw Go.Pl Go.RowKit
/-! ### 1. States -/
structure Sta (q : List El) : Prop where
  asc : AscT q
  pos : posE q
  tok : ∀ a ∈ q, 1 ≤ a.1.length ∧ a.1.length ≤ 60 ∧ badT a.1 = false
theorem Sto.sta {q : List El} {ls : List ByteArray} (h : Sto q ls) : Sta q := ⟨h.asc, h.pos, h.tok⟩
theorem Sta.chk {q : List El} (h : Sta q) : chkB q = true := by
  rw [chkB, List.all_eq_true]
  intro i hi
  rw [List.mem_range] at hi
  have hg : ∀ j (hj : j < q.length), q.getD j e0 = q[j] := fun j hj => by rw [List.getD_eq_getElem?_getD, List.getElem?_eq_getElem hj]; rfl
  have hm : q[i] ∈ q := List.getElem_mem hi
  have h1 := h.tok _ hm
  have h2 := (h.pos _ hm).1
  rw [chk1, hg i hi, okB, decide_eq_true h2, decide_eq_true h1.1, decide_eq_true h1.2.1, h1.2.2]
  by_cases h0 : i = 0
  · rw [decide_eq_true h0]; rfl
  · rw [hg (i - 1) (by omega), decide_eq_true (List.pairwise_iff_getElem.1 h.asc (i - 1) i (by omega) hi (by omega))]; simp
theorem Sta.elm {l : List Tm} (h : Sta (keys l)) : ∀ t ∈ l, t.toks.length ≤ 60 ∧ Cnt t ∧ 1 ≤ t.cnt := fun t ht => by
  have hm : t.key ∈ keys l := List.mem_map_of_mem ht
  have h1 := (h.tok _ hm).2.1
  have h2 := h.pos _ hm
  have h3 : (1 : Int) ≤ t.cnt := h2.1
  exact ⟨h1, ⟨by omega, h2.2⟩, h3⟩
theorem Sta.ok {l : List Tm} (h : Sta (keys l)) {G : Hp} (hok : ∀ t ∈ l, t.Ok G) : ∀ t ∈ l, t.Ok G ∧ t.toks.length ≤ 16777216 ∧ Cnt t := fun t ht => by
  have := h.elm t ht
  exact ⟨hok t ht, by omega, this.2.1⟩
theorem Sta.put {q : List El} (h : Sta q) {a : El} (h1 : 1 ≤ a.1.length ∧ a.1.length ≤ 60 ∧ badT a.1 = false) (h2 : 1 ≤ a.2 ∧ a.2 ≤ 9223372036854775807) : Sta (addE a.1 a.2 q) :=
  ⟨addE_asc h.asc, addE_pos h2.1 h2.2 h.pos, fun b hb => by
    rcases addE_mem hb with e | ⟨c, hc, e⟩
    · rw [e]; exact h1
    · rw [← e]; exact h.tok c hc⟩
theorem Sta.set {q : List El} (h : Sta q) {k : Nat} {ts : List ByteArray} {x n : Int} (hk : q[k]? = some (ts, x)) (hn : 1 ≤ n ∧ n ≤ 9223372036854775807) : Sta (q.set k (ts, n)) := by
  obtain ⟨hlt, hx⟩ := List.getElem?_eq_some_iff.1 hk
  have hm : (ts, x) ∈ q := by rw [← hx]; exact List.getElem_mem hlt
  refine ⟨?_, fun a ha => ?_, fun a ha => ?_⟩
  · have hg : ∀ i (hi : i < (q.set k (ts, n)).length), ((q.set k (ts, n))[i]).1 = (q[i]'(by simpa using hi)).1 := fun i hi => by
      rw [List.getElem_set]
      split
      · rename_i e; subst e; rw [hx]
      · rfl
    refine List.pairwise_iff_getElem.2 fun i j hi hj hij => ?_
    rw [hg i hi, hg j hj]
    exact List.pairwise_iff_getElem.1 h.asc i j _ _ hij
  · rcases List.mem_or_eq_of_mem_set ha with h1 | rfl
    · exact h.pos a h1
    · exact hn
  · rcases List.mem_or_eq_of_mem_set ha with h1 | rfl
    · exact h.tok a h1
    · exact h.tok (ts, x) hm
def mrgE (q o : List El) : List El := o.foldl (fun q a => addE a.1 a.2 q) q
theorem mrg_snoc (q o : List El) (a : El) : mrgE q (o ++ [a]) = addE a.1 a.2 (mrgE q o) := by rw [mrgE, List.foldl_append]; rfl
theorem mrg_sta : ∀ {p q : List El}, Sta q → (∀ a ∈ p, (1 ≤ a.1.length ∧ a.1.length ≤ 60 ∧ badT a.1 = false) ∧ 1 ≤ a.2 ∧ a.2 ≤ 9223372036854775807) → Sta (mrgE q p)
  | [], q, h, _ => h
  | a :: p, q, h, hp => by
    have h1 := hp a (List.mem_cons_self ..)
    exact mrg_sta (p := p) (h.put h1.1 h1.2) fun b hb => hp b (List.mem_cons_of_mem _ hb)
theorem mrg_len : ∀ (p q : List El), (mrgE q p).length ≤ q.length + p.length
  | [], q => Nat.le_add_right _ _
  | a :: p, q => by
    have h1 := mrg_len p (addE a.1 a.2 q)
    have h2 := addE_len a.1 a.2 q
    show (mrgE (addE a.1 a.2 q) p).length ≤ _
    rw [List.length_cons]; omega
theorem RemR.one {s : ByteArray} {q q1 q2 : List El} {b1 b2 : Bool} (h1 : RemR s q q1 b1) (h2 : RemR s q q2 b2) : b1 = b2 ∧ q1 = q2 := by
  rcases h1 with ⟨rfl, rfl, h1⟩ | ⟨rfl, ts, x, ht, hx, rfl⟩ <;> rcases h2 with ⟨rfl, rfl, h2⟩ | ⟨rfl, ts2, x2, ht2, hx2, rfl⟩
  · exact ⟨rfl, rfl⟩
  · rcases h1 with h1 | ⟨ts3, h3, hn⟩
    · rw [ht2] at h1; cases h1
    · rw [ht2] at h3; cases h3; exact absurd hx2 (hn _)
  · rcases h2 with h2 | ⟨ts3, h3, hn⟩
    · rw [ht] at h2; cases h2
    · rw [ht] at h3; cases h3; exact absurd hx (hn _)
  · rw [ht] at ht2; cases ht2; exact ⟨rfl, rfl⟩
/-! ### 2. What the reference's Remove builds -/
def decT (i k : Nat) (t : Tm) : Tm := if k = i then { t with cnt := t.cnt - 1 } else t
def stepR (i k : Nat) (t : Tm) : List Tm := if 0 < (decT i k t).cnt then [decT i k t] else []
def remG (i : Nat) : List Tm → Nat → List Tm
  | [], _ => []
  | t :: l, k => stepR i k t ++ remG i l (k + 1)
theorem remG_snoc (i : Nat) (x : Tm) : ∀ (l : List Tm) (k : Nat), remG i (l ++ [x]) k = remG i l k ++ stepR i (k + l.length) x
  | [], k => by simp [remG]
  | t :: l, k => by
    rw [List.cons_append, remG, remG, remG_snoc i x l (k + 1), List.append_assoc, List.length_cons, show k + 1 + l.length = k + (l.length + 1) by omega]
theorem remG_rest {i : Nat} : ∀ {l : List Tm} {k : Nat}, i < k → (∀ t ∈ l, 1 ≤ t.cnt) → remG i l k = l
  | [], _, _, _ => rfl
  | t :: l, k, hk, h => by
    have h1 := h t (List.mem_cons_self ..)
    have hd : decT i k t = t := by rw [decT, if_neg (show ¬ k = i by omega)]
    rw [remG, stepR, hd, if_pos (by omega), remG_rest (by omega) fun u hu => h u (List.mem_cons_of_mem _ hu)]
    rfl
theorem remG_keys {ts : List ByteArray} : ∀ {l : List Tm} {k : Nat}, (∃ t ∈ l, t.toks = ts) → (∀ t ∈ l, 1 ≤ t.cnt) → keys (remG (k + l.findIdx (isT ts)) l k) = remE ts (keys l)
  | [], k, h, _ => by obtain ⟨t, ht, _⟩ := h; cases ht
  | t :: l, k, h, hp => by
    have h1 := hp t (List.mem_cons_self ..)
    have hp' : ∀ u ∈ l, 1 ≤ u.cnt := fun u hu => hp u (List.mem_cons_of_mem _ hu)
    by_cases e : t.toks = ts
    · have hi : (t :: l).findIdx (isT ts) = 0 := by rw [List.findIdx_cons, isT, decide_eq_true e]; rfl
      have hd : decT k k t = { t with cnt := t.cnt - 1 } := by rw [decT, if_pos rfl]
      rw [hi, Nat.add_zero, remG, stepR, hd, remG_rest (by omega) hp']
      show keys ((if 0 < t.cnt - 1 then [_] else []) ++ l) = (if t.key.1 = ts then (if t.key.2 - 1 = 0 then keys l else (ts, t.key.2 - 1) :: keys l) else _)
      rw [if_pos (show t.key.1 = ts from e)]
      by_cases h2 : t.cnt - 1 = 0
      · rw [if_neg (by omega), if_pos (show t.key.2 - 1 = 0 from h2)]; rfl
      · rw [if_pos (by omega), if_neg (show ¬ t.key.2 - 1 = 0 from h2), ← e]; rfl
    · have hi : (t :: l).findIdx (isT ts) = l.findIdx (isT ts) + 1 := by rw [List.findIdx_cons, isT, decide_eq_false e]; rfl
      have hd : decT (k + (l.findIdx (isT ts) + 1)) k t = t := by rw [decT, if_neg (by omega)]
      rw [hi, remG, stepR, hd, if_pos (by omega), show k + (l.findIdx (isT ts) + 1) = (k + 1) + l.findIdx (isT ts) by omega]
      show t.key :: keys (remG ((k + 1) + l.findIdx (isT ts)) l (k + 1)) = (if t.key.1 = ts then _ else t.key :: remE ts (keys l))
      rw [if_neg (show ¬ t.key.1 = ts from e), remG_keys (by
        obtain ⟨u, hu, hut⟩ := h
        rcases List.mem_cons.1 hu with rfl | hu
        · exact absurd hut e
        · exact ⟨u, hu, hut⟩) hp']
theorem stepR_len (i k : Nat) (t : Tm) : (stepR i k t).length ≤ 1 := by unfold stepR; split <;> simp
theorem remG_len (i : Nat) : ∀ (l : List Tm) (k : Nat), (remG i l k).length ≤ l.length
  | [], _ => Nat.zero_le _
  | t :: l, k => by
    rw [remG, List.length_append, List.length_cons]
    have := stepR_len i k t
    have := remG_len i l (k + 1)
    omega
theorem remG_mem {i : Nat} {u : Tm} : ∀ {l : List Tm} {k : Nat}, u ∈ remG i l k → ∃ t ∈ l, SameH u t
  | [], _, h => by cases h
  | t :: l, k, h => by
    rw [remG, List.mem_append] at h
    rcases h with h | h
    · unfold stepR at h
      split at h
      · rw [List.mem_singleton] at h
        refine ⟨t, List.mem_cons_self .., ?_⟩
        rw [h, decT]
        split
        · exact ⟨rfl, rfl, rfl, rfl⟩
        · exact .refl t
      · cases h
    · obtain ⟨v, hv, hs⟩ := remG_mem h
      exact ⟨v, List.mem_cons_of_mem _ hv, hs⟩
/-! ### 3. Size, token -/
theorem ez19 : Enters Tryz.prog 19 := enters_of Tryz.func19 (by kernel_rfl) rfl
set_option maxRecDepth 100000 in
theorem Fz19 (m : Hp) (va : Value) (l : List Tm) (ha : Tms m va l) (hl : l.length ≤ 1099511627776) (hc : ∀ t ∈ l, Cnt t) : RC Tryz.prog 19 #[va] m (.int .i64 (totS 0 l)) := by
  obtain ⟨A, ca, rfl, _⟩ := RdSl.form encT_len (by decide) ha
  refine rc_of_gc fun m1 hm => gc_intro (vs := [_]) Tryz.func19 rfl Tryz.ntmps19 (by simp) ?_
  refine awp_rs (ao_r (rig_assign rfl rfl) rfl (ao_nil ?_))
  refine awp_rs (ao_r (rig_assign rfl rfl) rfl (ao_nil ?_))
  refine awp_sk fun K1 hK1 => awp_rs (ao_r (rig_assign rfl rfl) rfl (ao_nil ?_))
  refine awp_block ?_
  refine awp_le [(0, .slice A l.length ca), (3, .int .i64 (totS 0 (l.take 0))), (4, .int .i64 (0 : Nat))] ⟨rfl, rfl, rfl, trivial⟩ ?_
  refine awp_loop (fun k r mm => ∃ i : Nat, i ≤ l.length ∧ k = l.length - i ∧ r = [(0, .slice A l.length ca), (3, .int .i64 (totS 0 (l.take i))), (4, .int .i64 i)] ∧ mm = m1) _ ⟨0, by omega, rfl, rfl, rfl⟩ ?_
  rintro k r mm ⟨i, hi, rfl, rfl, rfl⟩
  refine awp_sk fun K2 hK2 => awp_rs ?_
  refine ao_r (rig_move rfl rfl) rfl (ao_r (rig_move rfl rfl) rfl (ao_r (rig_lenSl rfl rfl Tryz.underlying23) rfl (ao_r (rig_lss rfl rfl rfl) rfl (ao_nil ?_))))
  refine awp_if rfl (fun h => ?_) (fun h => ?_)
  · refine awp_skip (hK2 _ _ (awp_sk fun K3 hK3 => awp_block (awp_region ?_)))
    obtain ⟨x, hx⟩ := get_lt (l := l) (i := i) (by omega)
    obtain ⟨b, off, cap', e, hxc⟩ := Tms.get (RdSl.le ha hm) hx
    simp only [Value.slice.injEq] at e
    obtain ⟨rfl, _, rfl⟩ := e
    obtain ⟨x0, x1, _⟩ := id hxc
    have hcx := hc x (List.mem_of_getElem? hx)
    have hr := totS_range (l.take i) 0 (by omega) (by omega) fun t ht => hc t (List.mem_of_mem_take ht)
    refine ao_r (rig_move rfl rfl) rfl (ao_r (rig_move rfl rfl) rfl (ao_r (rig_move rfl rfl) rfl (ao_r (rig_ix i rfl rfl rfl Tryz.underlying23 Tryz.sizeOf32 rfl rfl (by omega)) rfl (ao_r (rig_fieldAddr rfl rfl Tryz.underlying32 rfl Tryz.sizeOf3 rfl) rfl (ao_r (rig_load1 rfl rfl Tryz.isAgg3 x1) rfl (ao_r (rig_call rfl rfl ez37 (Fz37 _ (totS 0 (l.take i)) x.cnt (by omega) hcx.1 hcx.2)) rfl (ao_r (rig_assign rfl rfl) rfl (ao_nil ?_))))))))
    refine hK3 _ _ (awp_region ?_)
    refine ao_r (rig_move rfl rfl) rfl (ao_r (rig_add (c := ((i + 1 : Nat) : Int)) rfl rfl rfl (w64 _ (by omega) (by omega))) rfl (ao_r (rig_assign rfl rfl) rfl (ao_nil ?_)))
    have htk : l.take (i + 1) = l.take i ++ [x] := by
      rw [List.take_succ_eq_append_getElem (by omega), (List.getElem?_eq_some_iff.1 hx).2]
    exact ⟨[(0, .slice _ l.length _), (3, .int .i64 (totS 0 (l.take (i + 1)))), (4, .int .i64 (i + 1 : Nat))], _, ⟨rfl, by rw [htk, totS_snoc]; rfl, rfl, trivial⟩, by omega, i + 1, by omega, rfl, rfl, rfl⟩
  · refine awp_exit (hK1 _ _ (awp_rs (ao_r (rig_move rfl rfl) rfl (ao_r (rig_assign rfl rfl) rfl (ao_nil ?_)))))
    refine awp_ret ⟨_, res1 Tryz.results19 rfl, ?_, HpLe.refl _⟩
    rw [List.take_of_length_le (by omega)]
theorem tokBad_take {s : List UInt8} {i : Nat} (hi : i < s.length) : tokBad (s.take (i + 1)) = (tokBad (s.take i) || tokC (s.getD i 0)) := by
  rw [tokBad, List.take_succ_eq_append_getElem hi, List.any_append, List.getD_eq_getElem?_getD, List.getElem?_eq_getElem hi]; simp [tokBad]
theorem ez44 : Enters Tryz.prog 44 := enters_of Tryz.func44 (by kernel_rfl) rfl
set_option maxRecDepth 100000 in
theorem Fz44 (m : Hp) (s : ByteArray) (hs : s.size ≤ 1099511627776) : RC Tryz.prog 44 #[.string s] m (.bool (!tokBad s.data.toList)) := by
  refine rc_of_gc fun m1 hm => gc_intro (vs := [_]) Tryz.func44 rfl Tryz.ntmps44 (by simp) ?_
  refine awp_rs (ao_r (rig_assign rfl rfl) rfl (ao_nil ?_))
  refine awp_sk fun K1 hK1 => awp_rs (ao_r (rig_assign rfl rfl) rfl (ao_nil ?_))
  refine awp_block ?_
  refine awp_le [(0, .string s), (3, .int .i64 (0 : Nat))] ⟨rfl, rfl, trivial⟩ ?_
  refine awp_loop (fun k r mm => ∃ i : Nat, i ≤ s.size ∧ k = s.size - i ∧ r = [(0, .string s), (3, .int .i64 i)] ∧ m1 = mm ∧ tokBad (s.data.toList.take i) = false) s.size ⟨0, by omega, rfl, rfl, rfl, rfl⟩ ?_
  rintro k r mm ⟨i, hi, rfl, rfl, rfl, hj⟩
  have hsz : s.size = s.data.toList.length := by rw [Array.length_toList]; rfl
  refine awp_sk fun K2 hK2 => awp_rs ?_
  refine ao_r (rig_move rfl rfl) rfl (ao_r (rig_move rfl rfl) rfl (ao_r (rig_lenStr rfl rfl Tryz.underlying9) rfl (ao_r (rig_lss rfl rfl rfl) rfl (ao_nil ?_))))
  refine awp_if rfl (fun h => ?_) (fun h => ?_)
  · have htk := tokBad_take (s := s.data.toList) (i := i) (by omega)
    rw [hj, Bool.false_or] at htk
    refine awp_skip (hK2 _ _ (awp_sk fun K3 hK3 => awp_block (awp_mid (fun r mm => r = [(0, .string s), (3, .int .i64 i), (19, .bool (tokBad (s.data.toList.take (i + 1))))] ∧ m1 = mm) (awp_region ?_) ?_)))
    · refine ao_r (rig_move rfl rfl) rfl (ao_r (rig_move rfl rfl) rfl (ao_r (rig_indexStr i rfl rfl rfl Tryz.underlying9 rfl (by omega)) rfl (ao_r (rig_call rfl rfl ez65 (Fz65 _ _)) rfl (ao_r (rig_move rfl rfl) rfl ?_))))
      rw [isDigI_of]
      rw [tokC] at htk
      cases hd : isDig (s.data.toList.getD i 0) with
      | true =>
        refine ao_no rfl rfl rfl rfl (ao_no rfl rfl rfl rfl (ao_no rfl rfl rfl rfl (ao_no rfl rfl rfl rfl (ao_r (rig_pickT rfl rfl rfl) rfl (ao_nil ?_)))))
        exact ⟨[(0, .string s), (3, .int .i64 i), (19, .bool true)], ⟨rfl, rfl, rfl, trivial⟩, by rw [htk, hd, Bool.or_true], rfl⟩
      | false =>
        refine ao_on rfl rfl (ao_r (rig_move rfl rfl) rfl (ao_on rfl rfl (ao_r (rig_move rfl rfl) rfl (ao_on rfl rfl (ao_r (rig_indexStr i rfl rfl rfl Tryz.underlying9 rfl (by omega)) rfl (ao_on rfl rfl (ao_r (rig_call rfl rfl ez66 (Fz66 _ _)) rfl (ao_r (rig_pickF rfl rfl rfl) rfl (ao_nil ?_)))))))))
        rw [isSpI_of]
        exact ⟨[(0, .string s), (3, .int .i64 i), (19, .bool (isSp (s.data.toList.getD i 0)))], ⟨rfl, rfl, rfl, trivial⟩, by rw [htk, hd, Bool.or_false], rfl⟩
    · rintro r mm ⟨rfl, rfl⟩
      refine awp_cond rfl (fun h1 => ?_) (fun h1 => ?_)
      · refine awp_rs (ao_r (rig_assign rfl rfl) rfl (ao_nil ?_))
        refine awp_ret ⟨_, res1 Tryz.results44 rfl, ?_, HpLe.refl _⟩
        have : tokBad s.data.toList = true := by
          rw [← List.take_append_drop (i + 1) s.data.toList, tokBad, List.any_append]
          rw [tokBad] at h1
          rw [h1, Bool.true_or]
        rw [this]; rfl
      · refine awp_skip (hK3 _ _ (awp_region ?_))
        refine ao_r (rig_move rfl rfl) rfl (ao_r (rig_add (c := ((i + 1 : Nat) : Int)) rfl rfl rfl (w64 _ (by omega) (by omega))) rfl (ao_r (rig_assign rfl rfl) rfl (ao_nil ?_)))
        exact ⟨[(0, .string s), (3, .int .i64 (i + 1 : Nat))], _, ⟨rfl, rfl, trivial⟩, by omega, i + 1, by omega, rfl, rfl, rfl, h1⟩
  · refine awp_exit (hK1 _ _ (awp_rs (ao_r (rig_assign rfl rfl) rfl (ao_nil ?_))))
    refine awp_ret ⟨_, res1 Tryz.results44 rfl, ?_, HpLe.refl _⟩
    rw [List.take_of_length_le (by omega)] at hj
    rw [hj]; rfl
end Go.Proofs.YtmofaabndjnhjaaGreat
/- The miner's law MinerSteps: the reference's Check. -/
set_option linter.unusedVariables false
set_option linter.unusedSimpArgs false
namespace Go.Proofs.YtmofaabndjnhjaaGreat
open Go Go.Aw Go.Pl Go.RowKit
theorem less_tk {a b : Tm} (h : a.toks ≠ b.toks) : lessT a b = decide (cmpTk a.toks b.toks < 0) := by
  rw [lessT_cmp, decide_eq_decide]
  constructor
  · intro h1
    rw [cmpE_neg] at h1
    rw [cmpTk_neg, cmpE_neg]
    rcases h1 with h1 | ⟨h1, h2 | ⟨h2, _⟩⟩
    · exact .inl h1
    · exact .inr ⟨h1, .inl h2⟩
    · exact absurd h2 h
  · exact fun h1 => tk_srt h1
theorem ez21 : Enters Tryz.prog 21 := enters_of Tryz.func21 (by kernel_rfl) rfl
set_option maxHeartbeats 4000000 in
set_option maxRecDepth 100000 in
theorem Fz21 (m : Hp) (va : Value) (l : List Tm) (ha : Tms m va l) (hok : ∀ t ∈ l, t.Ok m ∧ t.toks.length ≤ 16777216 ∧ ∀ s ∈ t.toks, s.size ≤ 1099511627776) (hl : l.length ≤ 1048576) : RC Tryz.prog 21 #[va] m (.bool (chkB (keys l))) := by
  obtain ⟨A, ca, rfl, _⟩ := RdSl.form encT_len (by decide) ha
  refine rc_of_gc fun m1 hm => gc_intro (vs := [_]) Tryz.func21 rfl Tryz.ntmps21 (by simp) ?_
  refine awp_rs (ao_r (rig_assign rfl rfl) rfl (ao_nil ?_))
  refine awp_sk fun K1 hK1 => awp_rs (ao_r (rig_assign rfl rfl) rfl (ao_nil ?_))
  refine awp_block ?_
  refine awp_le [(0, .slice A l.length ca), (3, .int .i64 (0 : Nat))] ⟨rfl, rfl, trivial⟩ ?_
  refine awp_loop (fun kk r mm => ∃ i : Nat, i ≤ l.length ∧ kk = l.length - i ∧ r = [(0, .slice A l.length ca), (3, .int .i64 i)] ∧ m1 = mm ∧ (List.range i).all (chk1 (keys l)) = true) _ ⟨0, by omega, rfl, rfl, rfl, rfl⟩ ?_
  rintro kk r mm ⟨i, hi, rfl, rfl, rfl, hall⟩
  refine awp_sk fun K2 hK2 => awp_rs ?_
  refine ao_r (rig_move rfl rfl) rfl (ao_r (rig_move rfl rfl) rfl (ao_r (rig_lenSl rfl rfl Tryz.underlying23) rfl (ao_r (rig_lss rfl rfl rfl) rfl (ao_nil ?_))))
  refine awp_if rfl (fun h => ?_) (fun h => ?_)
  · have hil : i < l.length := by omega
    obtain ⟨y, hy⟩ := get_lt hil
    have hym := List.mem_of_getElem? hy
    obtain ⟨b, off, cap', e, hyc⟩ := Tms.get (RdSl.le ha hm) hy
    simp only [Value.slice.injEq] at e
    obtain ⟨rfl, _, rfl⟩ := e
    have hyl := (hok y hym).2.1
    have hyn := (hok y hym).1.len
    have hyU := (hok y hym).1.le hm
    have hky : (keys l).getD i e0 = y.key := by rw [List.getD_eq_getElem?_getD, keys_get hy]; rfl
    obtain ⟨y0, y1, _⟩ := id hyc
    refine awp_skip (hK2 _ _ (awp_sk fun K3 hK3 => awp_block ?_))
    refine awp_sk fun K4 hK4 => ?_
    refine awp_mid (fun r m' => m1 = m' ∧ r = [(0, .slice (some ⟨b, off, none⟩) l.length ca), (3, .int .i64 i), (34, .bool (!(decide (1 ≤ y.cnt) && (decide (1 ≤ y.toks.length) && decide (y.toks.length ≤ 60)))))]) (awp_region ?_) ?_
    · refine ao_r (rig_move rfl rfl) rfl (ao_r (rig_move rfl rfl) rfl (ao_r (rig_ix i rfl rfl rfl Tryz.underlying23 Tryz.sizeOf32 rfl rfl hil) rfl (ao_r (rig_fieldAddr rfl rfl Tryz.underlying32 rfl Tryz.sizeOf3 rfl) rfl (ao_r (rig_load1 rfl rfl Tryz.isAgg3 y1) rfl (ao_r (rig_lss rfl rfl rfl) rfl (ao_r (rig_move rfl rfl) rfl ?_))))))
      have hfin : ∀ (bb : Bool), bb = (!(decide (1 ≤ y.cnt) && (decide (1 ≤ y.toks.length) && decide (y.toks.length ≤ 60)))) → ∀ r' : Env, EnvLe [(0, .slice (some ⟨b, off, none⟩) l.length ca), (3, .int .i64 i), (34, .bool bb)] r' → ∃ s, EnvLe s r' ∧ m1 = m1 ∧ s = [(0, .slice (some ⟨b, off, none⟩) l.length ca), (3, .int .i64 i), (34, .bool (!(decide (1 ≤ y.cnt) && (decide (1 ≤ y.toks.length) && decide (y.toks.length ≤ 60)))))] := fun bb hbb r' hr => ⟨_, hr, rfl, by rw [hbb]⟩
      by_cases c1 : y.cnt < 1
      · rw [decide_eq_true c1]
        refine ao_no rfl rfl rfl rfl (ao_no rfl rfl rfl rfl (ao_no rfl rfl rfl rfl (ao_no rfl rfl rfl rfl (ao_no rfl rfl rfl rfl (ao_no rfl rfl rfl rfl (ao_no rfl rfl rfl rfl (ao_r (rig_pickT rfl rfl rfl) rfl (ao_r (rig_move rfl rfl) rfl ?_))))))))
        refine ao_no rfl rfl rfl rfl (ao_no rfl rfl rfl rfl (ao_no rfl rfl rfl rfl (ao_no rfl rfl rfl rfl (ao_no rfl rfl rfl rfl (ao_no rfl rfl rfl rfl (ao_no rfl rfl rfl rfl (ao_r (rig_pickT rfl rfl rfl) rfl (ao_nil ?_))))))))
        refine hfin true ?_ _ ⟨rfl, rfl, rfl, trivial⟩
        rw [decide_eq_false (show ¬ (1 : Int) ≤ y.cnt by omega)]; rfl
      · rw [decide_eq_false c1]
        have d1 : decide ((1 : Int) ≤ y.cnt) = true := decide_eq_true (by omega)
        refine ao_on rfl rfl (ao_r (rig_move rfl rfl) rfl (ao_on rfl rfl (ao_r (rig_move rfl rfl) rfl (ao_on rfl rfl (ao_r (rig_ix i rfl rfl rfl Tryz.underlying23 Tryz.sizeOf32 rfl rfl hil) rfl (ao_on rfl rfl (ao_r (rig_fieldAddr rfl rfl Tryz.underlying32 rfl Tryz.sizeOf27 rfl) rfl ?_)))))))
        refine ao_on rfl rfl (ao_r (rig_load1 rfl rfl Tryz.isAgg27 y0) rfl (ao_on rfl rfl (ao_r (rig_lenSl rfl rfl Tryz.underlying27) rfl (ao_on rfl rfl (ao_r (rig_lss rfl rfl rfl) rfl (ao_r (rig_pickF rfl rfl rfl) rfl (ao_r (rig_move rfl rfl) rfl ?_)))))))
        by_cases c2 : (y.n : Int) < 1
        · rw [decide_eq_true c2]
          refine ao_no rfl rfl rfl rfl (ao_no rfl rfl rfl rfl (ao_no rfl rfl rfl rfl (ao_no rfl rfl rfl rfl (ao_no rfl rfl rfl rfl (ao_no rfl rfl rfl rfl (ao_no rfl rfl rfl rfl (ao_r (rig_pickT rfl rfl rfl) rfl (ao_nil ?_))))))))
          refine hfin true ?_ _ ⟨rfl, rfl, rfl, trivial⟩
          rw [d1, decide_eq_false (show ¬ 1 ≤ y.toks.length by omega)]; rfl
        · rw [decide_eq_false c2]
          have d2 : decide (1 ≤ y.toks.length) = true := decide_eq_true (by omega)
          refine ao_on rfl rfl (ao_r (rig_move rfl rfl) rfl (ao_on rfl rfl (ao_r (rig_move rfl rfl) rfl (ao_on rfl rfl (ao_r (rig_ix i rfl rfl rfl Tryz.underlying23 Tryz.sizeOf32 rfl rfl hil) rfl (ao_on rfl rfl (ao_r (rig_fieldAddr rfl rfl Tryz.underlying32 rfl Tryz.sizeOf27 rfl) rfl ?_)))))))
          refine ao_on rfl rfl (ao_r (rig_load1 rfl rfl Tryz.isAgg27 y0) rfl (ao_on rfl rfl (ao_r (rig_lenSl rfl rfl Tryz.underlying27) rfl (ao_on rfl rfl (ao_r (rig_gtr rfl rfl rfl) rfl (ao_r (rig_pickF rfl rfl rfl) rfl (ao_nil ?_)))))))
          refine hfin _ ?_ _ ⟨rfl, rfl, rfl, trivial⟩
          rw [d1, d2, Bool.true_and, Bool.true_and]
          by_cases c3 : (60 : Int) < (y.n : Int)
          · rw [decide_eq_true c3, decide_eq_false (show ¬ y.toks.length ≤ 60 by omega)]; rfl
          · rw [decide_eq_false c3, decide_eq_true (show y.toks.length ≤ 60 by omega)]; rfl
    · rintro r m' ⟨rfl, rfl⟩
      refine awp_cond rfl (fun h2 => ?_) (fun h2 => ?_)
      · refine awp_rs (ao_r (rig_assign rfl rfl) rfl (ao_nil ?_))
        refine awp_ret ⟨_, res1 Tryz.results21 rfl, ?_, HpLe.refl _⟩
        rw [chkB_no (i := i) (by rw [keys_len]; exact hil)]
        have h2' : (decide (1 ≤ y.cnt) && (decide (1 ≤ y.toks.length) && decide (y.toks.length ≤ 60))) = false := by rw [Bool.not_eq_true'] at h2; exact h2
        rw [chk1, hky, okB]
        show ((decide (1 ≤ y.cnt) && (decide (1 ≤ y.toks.length) && (decide (y.toks.length ≤ 60) && !badT y.toks))) && _) = false
        rw [← Bool.and_assoc (decide (1 ≤ y.toks.length)), ← Bool.and_assoc (decide (1 ≤ y.cnt)), h2']; rfl
      · have h2' : (decide (1 ≤ y.cnt) && (decide (1 ≤ y.toks.length) && decide (y.toks.length ≤ 60))) = true := by rw [Bool.not_eq_false'] at h2; exact h2
        have hokb : okB y.key = !badT y.toks := by
          show (decide (1 ≤ y.cnt) && (decide (1 ≤ y.toks.length) && (decide (y.toks.length ≤ 60) && !badT y.toks))) = _
          rw [← Bool.and_assoc (decide (1 ≤ y.toks.length)), ← Bool.and_assoc (decide (1 ≤ y.cnt)), h2']; rfl
        refine awp_skip (hK4 _ _ ?_)
        refine awp_sk fun K5 hK5 => awp_rs (ao_r (rig_assign rfl rfl) rfl (ao_nil ?_))
        refine awp_block ?_
        refine awp_le [(0, .slice (some ⟨b, off, none⟩) l.length ca), (3, .int .i64 i), (4, .int .i64 (0 : Nat))] ⟨rfl, rfl, rfl, trivial⟩ ?_
        refine awp_loop (fun kk r mm => ∃ j : Nat, j ≤ y.toks.length ∧ kk = y.toks.length - j ∧ r = [(0, .slice (some ⟨b, off, none⟩) l.length ca), (3, .int .i64 i), (4, .int .i64 j)] ∧ m1 = mm ∧ badT (y.toks.take j) = false) _ ⟨0, by omega, rfl, rfl, rfl, rfl⟩ ?_
        rintro kk r mm ⟨j, hj, rfl, rfl, rfl, hbad⟩
        refine awp_sk fun K6 hK6 => awp_rs ?_
        refine ao_r (rig_move rfl rfl) rfl (ao_r (rig_move rfl rfl) rfl (ao_r (rig_move rfl rfl) rfl (ao_r (rig_ix i rfl rfl rfl Tryz.underlying23 Tryz.sizeOf32 rfl rfl hil) rfl (ao_r (rig_fieldAddr rfl rfl Tryz.underlying32 rfl Tryz.sizeOf27 rfl) rfl (ao_r (rig_load1 rfl rfl Tryz.isAgg27 y0) rfl (ao_r (rig_lenSl rfl rfl Tryz.underlying27) rfl (ao_r (rig_lss rfl rfl rfl) rfl (ao_nil ?_))))))))
        refine awp_if rfl (fun h3 => ?_) (fun h3 => ?_)
        · have hjl : j < y.toks.length := by omega
          obtain ⟨s, hs⟩ := get_lt hjl
          obtain ⟨bs, os, hAs, hsc⟩ := hyU.get hs
          have hss := (hok y hym).2.2 s (List.mem_of_getElem? hs)
          have htk : badT (y.toks.take (j + 1)) = tokBad s.data.toList := by
            rw [take_succ_get hs, badT, List.any_append]
            rw [badT] at hbad
            rw [hbad]; simp
          refine awp_skip (hK6 _ _ (awp_sk fun K7 hK7 => awp_block (awp_rs ?_)))
          refine ao_r (rig_move rfl rfl) rfl (ao_r (rig_move rfl rfl) rfl (ao_r (rig_ix i rfl rfl rfl Tryz.underlying23 Tryz.sizeOf32 rfl rfl hil) rfl (ao_r (rig_fieldAddr rfl rfl Tryz.underlying32 rfl Tryz.sizeOf27 rfl) rfl (ao_r (rig_load1 rfl rfl Tryz.isAgg27 y0) rfl (ao_r (rig_move rfl rfl) rfl (ao_r (rig_ix j rfl rfl rfl Tryz.underlying27 Tryz.sizeOf9 hAs rfl (by omega)) rfl (ao_r (rig_load1 rfl rfl Tryz.isAgg9 hsc) rfl (ao_r (rig_call rfl rfl ez44 (Fz44 _ s hss)) rfl (ao_r (rig_not rfl rfl) rfl (ao_nil ?_))))))))))
          rw [Bool.not_not]
          refine awp_cond rfl (fun h4 => ?_) (fun h4 => ?_)
          · refine awp_rs (ao_r (rig_assign rfl rfl) rfl (ao_nil ?_))
            refine awp_ret ⟨_, res1 Tryz.results21 rfl, ?_, HpLe.refl _⟩
            rw [chkB_no (i := i) (by rw [keys_len]; exact hil)]
            have hb : badT y.toks = true := by
              rw [← List.take_append_drop (j + 1) y.toks, badT, List.any_append]
              rw [badT] at htk
              rw [htk, h4, Bool.true_or]
            rw [chk1, hky, hokb, hb]; rfl
          · refine awp_skip (hK7 _ _ (awp_region ?_))
            refine ao_r (rig_move rfl rfl) rfl (ao_r (rig_add (c := ((j + 1 : Nat) : Int)) rfl rfl rfl (w64 _ (by omega) (by omega))) rfl (ao_r (rig_assign rfl rfl) rfl (ao_nil ?_)))
            exact ⟨[(0, .slice (some ⟨b, off, none⟩) l.length ca), (3, .int .i64 i), (4, .int .i64 (j + 1 : Nat))], _, ⟨rfl, rfl, rfl, trivial⟩, by omega, j + 1, by omega, rfl, rfl, rfl, htk.trans h4⟩
        · obtain rfl : j = y.toks.length := by omega
          rw [List.take_length] at hbad
          rw [hbad] at hokb
          refine awp_exit (hK5 _ _ ?_)
          have h1 : chk1 (keys l) i = (decide (i = 0) || decide (cmpTk ((keys l).getD (i - 1) e0).1 y.toks < 0)) := by
            rw [chk1, hky, hokb]; rfl
          refine awp_mid (fun r m' => m1 = m' ∧ r = [(0, .slice (some ⟨b, off, none⟩) l.length ca), (3, .int .i64 i), (81, .bool (!chk1 (keys l) i))]) ?_ ?_
          · refine awp_draw (.q 0 (.q 1 (.q 2 (.q 3 (.q 4 (.q 5 (.q 6 (.q 7 (.q 8 (.q 9 (.q 10 (.q 11 (.q 12 (.q 13 (.q 14 (.q 15 (.q 16 (.q 17 (.q 18 (.q 19 (.q 20 (.q 21 (.q 22 (.q 23 (.q 24 (.q 25 (.q 26 .fin))))))))))))))))))))))))))) [] (by kernel_rfl) (by kernel_rfl) ?_
            refine oq rfl (rig_move rfl rfl) rfl (oq rfl (rig_gtr rfl rfl rfl) rfl ?_)
            by_cases hi0 : (0 : Int) < (i : Int)
            · rw [decide_eq_true hi0]
              refine oq rfl (rig_move rfl rfl) rfl ?_
              have hil0 : i - 1 < l.length := by omega
              obtain ⟨z, hz⟩ := get_lt hil0
              have hzm := List.mem_of_getElem? hz
              obtain ⟨bz, oz, cz, ez, hzc⟩ := Tms.get (RdSl.le ha hm) hz
              simp only [Value.slice.injEq, Option.some.injEq, Addr.mk.injEq] at ez
              obtain ⟨⟨rfl, rfl, _⟩, _, rfl⟩ := ez
              have hzl := (hok z hzm).2.1
              have hzU := (hok z hzm).1.le hm
              have hkz : (keys l).getD (i - 1) e0 = z.key := by rw [List.getD_eq_getElem?_getD, keys_get hz]; rfl
              refine oqon rfl rfl rfl (rig_move rfl rfl) rfl ?_
              refine oqon rfl rfl rfl (rig_move rfl rfl) rfl ?_
              refine oqon rfl rfl rfl (rig_sub (c := ((i - 1 : Nat) : Int)) rfl rfl rfl (by rw [w64 _ (by omega) (by omega)]; omega)) rfl ?_
              refine oqon rfl rfl rfl (rig_ix (i - 1) rfl rfl rfl Tryz.underlying23 Tryz.sizeOf32 rfl rfl hil0) rfl ?_
              refine oqon rfl rfl rfl (rig_loadN (vs := encT z) rfl rfl Tryz.isAgg32 Tryz.sizeOf32 hzc) rfl ?_
              refine oqon rfl rfl rfl (rig_move rfl rfl) rfl ?_
              refine oqon rfl rfl rfl (rig_move rfl rfl) rfl ?_
              refine oqon rfl rfl rfl (rig_ix i rfl rfl rfl Tryz.underlying23 Tryz.sizeOf32 rfl rfl hil) rfl ?_
              refine oqon rfl rfl rfl (rig_loadN (vs := encT y) rfl rfl Tryz.isAgg32 Tryz.sizeOf32 hyc) rfl ?_
              refine oqon rfl rfl rfl (rig_call rfl rfl ez31 (Fz31 _ z y hzU hyU (by omega))) rfl ?_
              refine oqon rfl rfl rfl (rig_move rfl rfl) rfl ?_
              have hfin : ∀ bb : Bool, bb = (!chk1 (keys l) i) → ∀ r' : Env, EnvLe [(0, .slice (some ⟨b, off, none⟩) l.length ca), (3, .int .i64 i), (81, .bool bb)] r' → ∃ s, EnvLe s r' ∧ m1 = m1 ∧ s = [(0, .slice (some ⟨b, off, none⟩) l.length ca), (3, .int .i64 i), (81, .bool (!chk1 (keys l) i))] := fun bb hbb r' hr => ⟨_, hr, rfl, by rw [hbb]⟩
              have hi00 : decide (i = 0) = false := decide_eq_false (by omega)
              by_cases hs : z.toks = y.toks
              · rw [decide_eq_true hs]
                refine oqno rfl rfl rfl rfl rfl (oqno rfl rfl rfl rfl rfl (oqno rfl rfl rfl rfl rfl (oqno rfl rfl rfl rfl rfl (oqno rfl rfl rfl rfl rfl (oqno rfl rfl rfl rfl rfl (oqno rfl rfl rfl rfl rfl (oqno rfl rfl rfl rfl rfl (oqno rfl rfl rfl rfl rfl (oqno rfl rfl rfl rfl rfl (oqno rfl rfl rfl rfl rfl ?_))))))))))
                refine oqon rfl rfl rfl (rig_pickT rfl rfl rfl) rfl (oq rfl (rig_pickT rfl rfl rfl) rfl (od_fin ?_))
                refine hfin true ?_ _ ⟨rfl, rfl, rfl, trivial⟩
                rw [h1, hkz, hi00, Bool.false_or, decide_eq_false (show ¬ cmpTk z.key.1 y.toks < 0 by show ¬ cmpTk z.toks y.toks < 0; rw [hs]; exact tk_irr _)]; rfl
              · rw [decide_eq_false hs]
                refine oqon rfl rfl rfl (rig_move rfl rfl) rfl ?_
                refine oqon rfl rfl rfl (rig_move rfl rfl) rfl ?_
                refine oqon rfl rfl rfl (rig_sub (c := ((i - 1 : Nat) : Int)) rfl rfl rfl (by rw [w64 _ (by omega) (by omega)]; omega)) rfl ?_
                refine oqon rfl rfl rfl (rig_ix (i - 1) rfl rfl rfl Tryz.underlying23 Tryz.sizeOf32 rfl rfl hil0) rfl ?_
                refine oqon rfl rfl rfl (rig_loadN (vs := encT z) rfl rfl Tryz.isAgg32 Tryz.sizeOf32 hzc) rfl ?_
                refine oqon rfl rfl rfl (rig_move rfl rfl) rfl ?_
                refine oqon rfl rfl rfl (rig_move rfl rfl) rfl ?_
                refine oqon rfl rfl rfl (rig_ix i rfl rfl rfl Tryz.underlying23 Tryz.sizeOf32 rfl rfl hil) rfl ?_
                refine oqon rfl rfl rfl (rig_loadN (vs := encT y) rfl rfl Tryz.isAgg32 Tryz.sizeOf32 hyc) rfl ?_
                refine oqon rfl rfl rfl (rig_call rfl rfl ez45 (Fz45 _ z y hzU hyU (by omega))) rfl ?_
                refine oqon rfl rfl rfl (rig_not rfl rfl) rfl ?_
                refine oqon rfl rfl rfl (rig_pickF rfl rfl rfl) rfl (oq rfl (rig_pickT rfl rfl rfl) rfl (od_fin ?_))
                refine hfin _ ?_ _ ⟨rfl, rfl, rfl, trivial⟩
                rw [h1, hkz, hi00, Bool.false_or, less_tk hs]; rfl
            · rw [decide_eq_false hi0]
              refine oq rfl (rig_move rfl rfl) rfl ?_
              refine oqno rfl rfl rfl rfl rfl (oqno rfl rfl rfl rfl rfl (oqno rfl rfl rfl rfl rfl (oqno rfl rfl rfl rfl rfl (oqno rfl rfl rfl rfl rfl (oqno rfl rfl rfl rfl rfl (oqno rfl rfl rfl rfl rfl (oqno rfl rfl rfl rfl rfl (oqno rfl rfl rfl rfl rfl (oqno rfl rfl rfl rfl rfl (oqno rfl rfl rfl rfl rfl (oqnu rfl rfl rfl rfl (oqnu rfl rfl rfl rfl (oqnu rfl rfl rfl rfl (oqnu rfl rfl rfl rfl (oqnu rfl rfl rfl rfl (oqnu rfl rfl rfl rfl (oqnu rfl rfl rfl rfl (oqnu rfl rfl rfl rfl (oqnu rfl rfl rfl rfl (oqnu rfl rfl rfl rfl (oqnu rfl rfl rfl rfl (oqno rfl rfl rfl rfl rfl ?_))))))))))))))))))))))
              refine oq rfl (rig_pickF rfl rfl rfl) rfl (od_fin ?_)
              refine ⟨[(0, .slice (some ⟨b, off, none⟩) l.length ca), (3, .int .i64 i), (81, .bool false)], ⟨rfl, rfl, rfl, trivial⟩, rfl, ?_⟩
              rw [h1, decide_eq_true (show i = 0 by omega)]; rfl
          · rintro r m' ⟨rfl, rfl⟩
            refine awp_cond rfl (fun h3 => ?_) (fun h3 => ?_)
            · refine awp_rs (ao_r (rig_assign rfl rfl) rfl (ao_nil ?_))
              refine awp_ret ⟨_, res1 Tryz.results21 rfl, ?_, HpLe.refl _⟩
              rw [chkB_no (i := i) (by rw [keys_len]; exact hil) (by simpa using h3)]
            · refine awp_skip (hK3 _ _ (awp_region ?_))
              refine ao_r (rig_move rfl rfl) rfl (ao_r (rig_add (c := ((i + 1 : Nat) : Int)) rfl rfl rfl (w64 _ (by omega) (by omega))) rfl (ao_r (rig_assign rfl rfl) rfl (ao_nil ?_)))
              refine ⟨[(0, .slice (some ⟨b, off, none⟩) l.length ca), (3, .int .i64 (i + 1 : Nat))], _, ⟨rfl, rfl, trivial⟩, by omega, i + 1, by omega, rfl, rfl, rfl, ?_⟩
              rw [List.range_succ, List.all_append, hall]
              have : chk1 (keys l) i = true := by simpa using h3
              simp [this]
  · obtain rfl : i = l.length := by omega
    refine awp_exit (hK1 _ _ (awp_rs (ao_r (rig_assign rfl rfl) rfl (ao_nil ?_))))
    refine awp_ret ⟨_, res1 Tryz.results21 rfl, ?_, HpLe.refl _⟩
    rw [chkB, keys_len, hall]
end Go.Proofs.YtmofaabndjnhjaaGreat
/- The miner's law MinerSteps: the reference's Remove and Merge, the program's Merge. -/
set_option linter.unusedVariables false
set_option linter.unusedSimpArgs false
namespace Go.Proofs.YtmofaabndjnhjaaGreat
open Go Go.Aw Go.Pl Go.RowKit
theorem sinkA {x y F : Hp} (hD : Dj [x, y, F]) : U [x, y, F] = U [y, U [x, F]] ∧ Dj [y, U [x, F]] ∧ HpLe F (U [x, F]) ∧ HpLe x (U [x, F]) := by
  have h : U [x, y, F] = U [y, x, F] ∧ Dj [y, x, F] := U_pm [1, 0, 2] rfl hD
  exact ⟨h.1.trans (U_flat [y] _).symm, Dj_unflat (A := [y]) h.2, le_at 1 h.2.2 rfl, U_le_head⟩
theorem ez10 : Enters Tryz.prog 10 := enters_of Tryz.func10 (by kernel_rfl) rfl
set_option maxHeartbeats 2000000 in
set_option maxRecDepth 100000 in
theorem Fz10 (F : Hp) (va : Value) (l : List Tm) (s : ByteArray) (ha : Tms F va l) (hok : ∀ t ∈ l, t.Ok F) (hS : Sta (keys l)) (hl : l.length ≤ 1048576) (hs : s.size ≤ 16777216) :
    GC Tryz.prog 10 #[va, .string s] F (fun u m' => ∃ v b out, u = .tuple #[v, .bool b] ∧ HpLe F m' ∧ Tms m' v out ∧ (∀ t ∈ out, t.Ok m') ∧ out.length ≤ l.length ∧ RemR s (keys l) (keys out) b) := by
  obtain ⟨A, ca, rfl, _⟩ := RdSl.form encT_len (by decide) ha
  refine gc_intro (vs := [_, _]) Tryz.func10 rfl Tryz.ntmps10 (by simp) ?_
  refine awp_rs (ao_r (rig_assign rfl rfl) rfl (ao_r (rig_assign rfl rfl) rfl (ao_nil ?_)))
  refine awp_rs (ao_r (rig_move rfl rfl) rfl ?_)
  refine ao_x (ex_call rfl rfl ez29 (Fz29 F s hs)) rfl fun u m1 ⟨c0, F0, hD0, hm1, hR⟩ => ?_
  have h1 : HpLe F m1 := by rw [hm1]; exact le_at 2 hD0 rfl
  have hc1 : HpLe c0 m1 := by rw [hm1]; exact le_at 0 hD0 rfl
  clear hm1
  have hold : ∀ {m2 : Hp}, HpLe F m2 → (toksOf s = none ∨ ∃ ts, toksOf s = some ts ∧ ∀ x, (ts, x) ∉ keys l) → ∃ v b out, (Value.tuple #[.slice A l.length ca, .bool false]) = .tuple #[v, .bool b] ∧ HpLe F m2 ∧ Tms m2 v out ∧ (∀ t ∈ out, t.Ok m2) ∧ out.length ≤ l.length ∧ RemR s (keys l) (keys out) b :=
    fun hle hno => ⟨_, _, l, rfl, hle, RdSl.le ha hle, fun t ht => (hok t ht).le hle, Nat.le_refl _, .inl ⟨rfl, rfl, hno⟩⟩
  rcases hR with ⟨hno, rfl⟩ | ⟨ts, v1, hts, rfl, hOt⟩
  · refine ao_r (rig_move rfl rfl) rfl (ao_r (rig_extract rfl rfl rfl) rfl (ao_r (rig_extract rfl rfl rfl) rfl (ao_r (rig_assign rfl rfl) rfl (ao_r (rig_assign rfl rfl) rfl (ao_nil ?_)))))
    refine awp_sk fun K1 hK1 => awp_rs (ao_r (rig_move rfl rfl) rfl (ao_r (rig_not rfl rfl) rfl (ao_nil ?_)))
    refine awp_true rfl (awp_rs (ao_r (rig_move rfl rfl) rfl (ao_r (rig_assign rfl rfl) rfl (ao_r (rig_assign rfl rfl) rfl (ao_nil ?_)))))
    exact awp_ret ⟨_, res2 Tryz.results10 rfl rfl, hold h1 (.inl hno)⟩
  · refine ao_r (rig_move rfl rfl) rfl (ao_r (rig_extract rfl rfl rfl) rfl (ao_r (rig_extract rfl rfl rfl) rfl (ao_r (rig_assign rfl rfl) rfl (ao_r (rig_assign rfl rfl) rfl (ao_nil ?_)))))
    refine awp_sk fun K1 hK1 => awp_rs (ao_r (rig_move rfl rfl) rfl (ao_r (rig_not rfl rfl) rfl (ao_nil ?_)))
    refine awp_false rfl (awp_skip (hK1 _ _ (awp_rs ?_)))
    obtain ⟨A2, cap2, rfl⟩ := hOt.len encS_len (by decide)
    have htl := (toksOf_len hts).2
    refine ao_r (rig_move rfl rfl) rfl (ao_r (rig_move rfl rfl) rfl (ao_r (rig_build (pl := #[(0, 1), (1, 1)]) (cs := #[.slice A2 ts.length cap2, .int .i64 0]) rfl rfl Tryz.underlying32 Tryz.zeroValue32 (fun w => by kernel_rfl) rfl) rfl ?_))
    have h30 := Fz30 m1 (.slice A l.length ca) l ⟨A2, ts.length, cap2, ts, 0⟩ (RdSl.le ha h1) (fun x hx => ⟨(hok x hx).le h1, by have := (hS.elm x hx).1; omega⟩) (RdSl.le hOt.rd hc1) (by omega)
    refine ao_r (rig_call rfl rfl ez30 h30) rfl (ao_r (rig_assign rfl rfl) rfl (ao_nil ?_))
    refine awp_sk fun K2 hK2 => awp_rs (ao_r (rig_move rfl rfl) rfl (ao_r (rig_lss rfl rfl rfl) rfl (ao_nil ?_)))
    cases hany : l.any (isT ts) with
    | false =>
      have hidx : idxT (isT ts) l = -1 := by rw [idxT, if_neg (by simp [hany])]
      have hno : ∀ x, (ts, x) ∉ keys l := fun x hx => by
        obtain ⟨y, hy, e⟩ := List.mem_map.1 hx
        rw [List.any_eq_false] at hany
        exact hany y hy (decide_eq_true (congrArg Prod.fst e))
      show AWp _ _ _ _ ((25, .bool (decide (idxT (isT ts) l < 0))) :: _) _
      rw [hidx]
      refine awp_if rfl (fun _ => ?_) (fun h => absurd (show (-1 : Int) < 0 by decide) h)
      refine awp_rs (ao_r (rig_move rfl rfl) rfl (ao_r (rig_assign rfl rfl) rfl (ao_r (rig_assign rfl rfl) rfl (ao_nil ?_))))
      exact awp_ret ⟨_, res2 Tryz.results10 rfl rfl, hold h1 (.inr ⟨ts, hts, hno⟩)⟩
    | true =>
      have hidx : idxT (isT ts) l = (l.findIdx (isT ts) : Nat) := by rw [idxT, if_pos hany]
      obtain ⟨y, hym, hyt⟩ := List.any_eq_true.1 hany
      have hil : l.findIdx (isT ts) < l.length := List.findIdx_lt_length.2 ⟨y, hym, hyt⟩
      have hyk : (ts, y.cnt) ∈ keys l := by
        have e : y.toks = ts := of_decide_eq_true hyt
        rw [← e]; exact List.mem_map_of_mem hym
      have hkeys := remG_keys (k := 0) (l := l) (ts := ts) ⟨y, hym, of_decide_eq_true hyt⟩ (fun t ht => (hS.elm t ht).2.2)
      rw [Nat.zero_add] at hkeys
      show AWp _ _ _ _ ((25, .bool (decide (idxT (isT ts) l < 0))) :: (24, .int .i64 (idxT (isT ts) l)) :: (8, .int .i64 (idxT (isT ts) l)) :: _) _
      rw [hidx]
      generalize hg : l.findIdx (isT ts) = q at hkeys hil
      refine awp_if rfl (fun h => absurd h (by omega)) (fun _ => awp_skip (hK2 _ _ ?_))
      refine awp_rs (ao_r (rig_assign rfl rfl) rfl (ao_nil ?_))
      refine awp_sk fun K3 hK3 => awp_rs (ao_r (rig_assign rfl rfl) rfl (ao_nil ?_))
      refine awp_block ?_
      refine awp_le [(0, .slice A l.length ca), (8, .int .i64 q), (9, .slice none 0 0), (10, .int .i64 (0 : Nat))] ⟨rfl, rfl, rfl, rfl, trivial⟩ ?_
      refine awp_loop (fun kk r mm => ∃ (k : Nat) (v : Value) (Y G : Hp), k ≤ l.length ∧ kk = l.length - k ∧ r = [(0, .slice A l.length ca), (8, .int .i64 q), (9, v), (10, .int .i64 k)] ∧ U [Y, G] = mm ∧ Dj [Y, G] ∧ HpLe F G ∧ Own 32 2 Y v (rows encT (remG q (l.take k) 0))) _
        ⟨0, _, hp0, m1, by omega, rfl, rfl, by rw [U_hp0, U_single], Dj_hp0 (Dj_single m1), h1, Own.nil 32 2⟩ ?_
      rintro kk r mm ⟨k, v, Y, G, hk, rfl, rfl, rfl, hD, hFG, hO⟩
      refine awp_sk fun K4 hK4 => awp_rs ?_
      refine ao_r (rig_move rfl rfl) rfl (ao_r (rig_move rfl rfl) rfl (ao_r (rig_lenSl rfl rfl Tryz.underlying23) rfl (ao_r (rig_lss rfl rfl rfl) rfl (ao_nil ?_))))
      refine awp_if rfl (fun h => ?_) (fun h => ?_)
      · have hkl : k < l.length := by omega
        obtain ⟨x, hx⟩ := get_lt hkl
        have hxm := List.mem_of_getElem? hx
        have hxe := hS.elm x hxm
        have hGU : HpLe G (U [Y, G]) := le_at 1 hD rfl
        obtain ⟨b, off, cap', e, hxc⟩ := Tms.get (RdSl.le ha (hFG.trans hGU)) hx
        simp only [Value.slice.injEq] at e
        obtain ⟨rfl, _, rfl⟩ := e
        have htk : remG q (l.take (k + 1)) 0 = remG q (l.take k) 0 ++ stepR q k x := by
          rw [take_succ_get hx, remG_snoc, List.length_take, Nat.zero_add, Nat.min_eq_left (by omega)]
        refine awp_skip (hK4 _ _ (awp_sk fun K5 hK5 => awp_block (awp_rs ?_)))
        refine ao_r (rig_move rfl rfl) rfl (ao_r (rig_move rfl rfl) rfl (ao_r (rig_ix k rfl rfl rfl Tryz.underlying23 Tryz.sizeOf32 rfl rfl hkl) rfl (ao_r (rig_loadN (vs := encT x) rfl rfl Tryz.isAgg32 Tryz.sizeOf32 hxc) rfl ?_)))
        refine ao_x (ex_alloc rfl hD Tryz.zeroValue32) rfl fun u m7 ⟨b7, hu, hm7, hD7⟩ => ?_
        subst hu hm7
        refine ao_x0 (ex_store (i := 0) rfl hD7 rfl rfl Tryz.sizeOf32 (encT_one x) rfl (by simp [Value.cells, encT])) fun u m8 ⟨_, hm8, hD8⟩ => ao_nil ?_
        subst hm8
        rw [List.set_cons_zero, putR_all _ _ (by rfl)] at hD8 ⊢
        replace hD8 : Dj [Go.Aw.one b7 (.cells #[.slice x.A x.n x.cap, .int .i64 x.cnt] 32 (0, 0)), Y, G] := hD8
        show AWp _ _ _ _ _ (U [Go.Aw.one b7 (.cells #[.slice x.A x.n x.cap, .int .i64 x.cnt] 32 (0, 0)), Y, G])
        have hfin : ∀ (v' : Value) (Y' G' mm' : Hp), U [Y', G'] = mm' → Dj [Y', G'] → HpLe G G' → Own 32 2 Y' v' (rows encT (remG q (l.take (k + 1)) 0)) → ∀ r', EnvLe [(0, .slice (some ⟨b, off, none⟩) l.length ca), (8, .int .i64 q), (9, v'), (10, .int .i64 k)] r' → K5 r' mm' := by
          intro v' Y' G' mm' hmm hD' hG' hO' r' hr
          subst hmm
          refine hK5 _ _ (awp_le _ hr (awp_region ?_))
          refine ao_r (rig_move rfl rfl) rfl (ao_r (rig_add (c := ((k + 1 : Nat) : Int)) rfl rfl rfl (w64 _ (by omega) (by omega))) rfl (ao_r (rig_assign rfl rfl) rfl (ao_nil ?_)))
          exact ⟨[(0, .slice (some ⟨b, off, none⟩) l.length ca), (8, .int .i64 q), (9, v'), (10, .int .i64 (k + 1 : Nat))], _, ⟨rfl, rfl, rfl, rfl, trivial⟩, by omega, k + 1, v', Y', G', by omega, rfl, rfl, rfl, hD', hFG.trans hG', hO'⟩
        have hrl : (remG q (l.take k) 0).length ≤ k := Nat.le_trans (remG_len _ _ _) (by rw [List.length_take]; omega)
        refine awp_sk fun K6 hK6 => ?_
        have hnext : ∀ (c : Int), c = (decT q k x).cnt → Dj [Go.Aw.one b7 (.cells #[.slice x.A x.n x.cap, .int .i64 c] 32 (0, 0)), Y, G] → ∀ r', EnvLe [(0, .slice (some ⟨b, off, none⟩) l.length ca), (8, .int .i64 q), (9, v), (10, .int .i64 k), (11, .pointer (some ⟨b7, 0, none⟩))] r' → K6 r' (U [Go.Aw.one b7 (.cells #[.slice x.A x.n x.cap, .int .i64 c] 32 (0, 0)), Y, G]) := by
          intro c hc hD9 r' hr
          have hcell : CellsAt (U [Go.Aw.one b7 (.cells #[.slice x.A x.n x.cap, .int .i64 c] 32 (0, 0)), Y, G]) b7 0 [.slice x.A x.n x.cap, .int .i64 c] := (cellsAt_one b7 #[.slice x.A x.n x.cap, .int .i64 c] 32).le U_le_head
          obtain ⟨x0, x1, _⟩ := id hcell
          refine hK6 _ _ (awp_le _ hr (awp_rs (ao_r (rig_fieldAddr rfl rfl Tryz.underlying32 rfl Tryz.sizeOf3 rfl) rfl (ao_r (rig_load1 rfl rfl Tryz.isAgg3 x1) rfl (ao_r (rig_gtr rfl rfl rfl) rfl (ao_nil ?_))))))
          refine awp_if rfl (fun h3 => ?_) (fun h3 => ?_)
          · refine awp_region (ao_r (rig_move rfl rfl) rfl (ao_r (rig_loadN (vs := [.slice x.A x.n x.cap, .int .i64 c]) rfl rfl Tryz.isAgg32 Tryz.sizeOf32 hcell) rfl ?_))
            refine ao_x (ex_buildSlice rfl hD9 rfl Tryz.underlying23 Tryz.sizeOf32 Tryz.zeroValue32 (by decide) (by decide) (fill_one rfl (rangeMap_size _ _))) rfl fun w2 m2 ⟨b2, hw2, hm2, hD10⟩ => ?_
            subst hw2 hm2
            have hsrc : Go.Aw.Src (U [Go.Aw.one b2 (.cells #[.slice x.A x.n x.cap, .int .i64 c] 32 (0, 0)), Go.Aw.one b7 (.cells #[.slice x.A x.n x.cap, .int .i64 c] 32 (0, 0)), Y, G]) 2 (.slice (some ⟨b2, 0, none⟩) 1 1) (rows encT [⟨x.A, x.n, x.cap, x.toks, c⟩]) := src_one encT_len ((cellsAt_one b2 #[.slice x.A x.n x.cap, .int .i64 c] 32).le U_le_head)
            refine ao_x (ex_append 2 (by_ := 32) rfl hD10 rfl rfl Tryz.underlying23 inf32 rfl (by decide) (by decide) hO rfl hsrc (one_rows encT_one _) (by rw [rows_length encT_len, rows_length encT_len]; simp; omega)) rfl fun w3 m3 ⟨Y3, hO3, hm3, hD11⟩ => ao_r (rig_assign rfl rfl) rfl (ao_nil ?_)
            subst hm3
            rw [← rows_append] at hO3
            have hp : U [Go.Aw.one b2 (.cells #[.slice x.A x.n x.cap, .int .i64 c] 32 (0, 0)), Go.Aw.one b7 (.cells #[.slice x.A x.n x.cap, .int .i64 c] 32 (0, 0)), Y3, G] = U [Y3, U [Go.Aw.one b2 (.cells #[.slice x.A x.n x.cap, .int .i64 c] 32 (0, 0)), Go.Aw.one b7 (.cells #[.slice x.A x.n x.cap, .int .i64 c] 32 (0, 0)), G]] ∧ Dj [Y3, U [Go.Aw.one b2 (.cells #[.slice x.A x.n x.cap, .int .i64 c] 32 (0, 0)), Go.Aw.one b7 (.cells #[.slice x.A x.n x.cap, .int .i64 c] 32 (0, 0)), G]] ∧ HpLe G (U [Go.Aw.one b2 (.cells #[.slice x.A x.n x.cap, .int .i64 c] 32 (0, 0)), Go.Aw.one b7 (.cells #[.slice x.A x.n x.cap, .int .i64 c] 32 (0, 0)), G]) := by
              have h : U [Go.Aw.one b2 (.cells #[.slice x.A x.n x.cap, .int .i64 c] 32 (0, 0)), Go.Aw.one b7 (.cells #[.slice x.A x.n x.cap, .int .i64 c] 32 (0, 0)), Y3, G] = U [Y3, Go.Aw.one b2 (.cells #[.slice x.A x.n x.cap, .int .i64 c] 32 (0, 0)), Go.Aw.one b7 (.cells #[.slice x.A x.n x.cap, .int .i64 c] 32 (0, 0)), G] ∧ Dj [Y3, Go.Aw.one b2 (.cells #[.slice x.A x.n x.cap, .int .i64 c] 32 (0, 0)), Go.Aw.one b7 (.cells #[.slice x.A x.n x.cap, .int .i64 c] 32 (0, 0)), G] := U_pm [2, 0, 1, 3] rfl hD11
              exact ⟨h.1.trans (U_flat [Y3] _).symm, Dj_unflat (A := [Y3]) h.2, le_at 2 h.2.2 rfl⟩
            refine hfin w3 Y3 _ _ hp.1.symm hp.2.1 hp.2.2 ?_ _ ⟨rfl, rfl, rfl, rfl, trivial⟩
            have hst : stepR q k x = [⟨x.A, x.n, x.cap, x.toks, c⟩] := by
              rw [stepR, if_pos (by rw [← hc]; exact h3), hc]
              unfold decT; split <;> rfl
            rw [htk, hst]; exact hO3
          · obtain ⟨e8, hD12, hG12, _⟩ := sinkA hD9
            refine awp_skip (hfin v Y _ _ e8.symm hD12 hG12 ?_ _ ⟨rfl, rfl, rfl, rfl, trivial⟩)
            have hst : stepR q k x = [] := by rw [stepR, if_neg (by rw [← hc]; exact h3)]
            rw [htk, hst, List.append_nil]; exact hO
        refine awp_rs (ao_r (rig_move rfl rfl) rfl (ao_r (rig_move rfl rfl) rfl (ao_r (rig_eql rfl rfl rfl) rfl (ao_nil ?_))))
        refine awp_if rfl (fun h3 => ?_) (fun h3 => ?_)
        · have hkq : k = q := by omega
          have hcell : CellsAt (U [Go.Aw.one b7 (.cells #[.slice x.A x.n x.cap, .int .i64 x.cnt] 32 (0, 0)), Y, G]) b7 0 [.slice x.A x.n x.cap, .int .i64 x.cnt] := (cellsAt_one b7 #[.slice x.A x.n x.cap, .int .i64 x.cnt] 32).le U_le_head
          obtain ⟨x0, x1, _⟩ := id hcell
          have hcx := hxe.2.1
          refine awp_region (ao_r (rig_fieldAddr rfl rfl Tryz.underlying32 rfl Tryz.sizeOf3 rfl) rfl (ao_r (rig_load1 rfl rfl Tryz.isAgg3 x1) rfl (ao_r (rig_sub (c := x.cnt - 1) rfl rfl rfl (w64 _ (by omega) (by have := hcx.2; omega))) rfl (ao_r (rig_fieldAddr rfl rfl Tryz.underlying32 rfl Tryz.sizeOf3 rfl) rfl ?_))))
          refine ao_x0 (ex_store (i := 0) rfl hD8 rfl rfl Tryz.sizeOf3 (by simp [Value.cells, Value.oneCell']) rfl (by simp [Value.cells])) fun u m9 ⟨_, hm9, hD9⟩ => ao_nil ?_
          subst hm9
          exact hnext (x.cnt - 1) (by rw [decT, if_pos hkq]) hD9 _ ⟨rfl, rfl, rfl, rfl, rfl, trivial⟩
        · exact awp_skip (hnext x.cnt (by rw [decT, if_neg (by omega)]) hD8 _ ⟨rfl, rfl, rfl, rfl, rfl, trivial⟩)
      · obtain rfl : k = l.length := by omega
        rw [List.take_length] at hO
        refine awp_exit (hK3 _ _ (awp_rs (ao_r (rig_move rfl rfl) rfl (ao_r (rig_assign rfl rfl) rfl (ao_r (rig_assign rfl rfl) rfl (ao_nil ?_))))))
        have hGU : HpLe G (U [Y, G]) := le_at 1 hD rfl
        refine awp_ret ⟨_, res2 Tryz.results10 rfl rfl, v, true, remG q l 0, rfl, hFG.trans hGU, RdSl.le hO.rd (le_at 0 hD rfl), fun t ht => ?_, remG_len _ _ _, .inr ⟨rfl, ts, y.cnt, hts, hyk, hkeys⟩⟩
        obtain ⟨t', ht', hs⟩ := remG_mem ht
        exact hs.ok ((hok t' ht').le (hFG.trans hGU))
/-! The reference's Merge. -/
theorem ez15 : Enters Tryz.prog 15 := enters_of Tryz.func15 (by kernel_rfl) rfl
theorem mrg_good {o : List Tm} (ho : Sta (keys o)) {j : Nat} : ∀ a ∈ keys (o.take j), (1 ≤ a.1.length ∧ a.1.length ≤ 60 ∧ badT a.1 = false) ∧ 1 ≤ a.2 ∧ a.2 ≤ 9223372036854775807 := fun a ha => by
  obtain ⟨t, ht, rfl⟩ := List.mem_map.1 ha
  have hm : t.key ∈ keys o := List.mem_map_of_mem (List.mem_of_mem_take ht)
  exact ⟨ho.tok _ hm, ho.pos _ hm⟩
theorem mrg_take {q : List El} {o : List Tm} {j : Nat} {x : Tm} (hx : o[j]? = some x) : mrgE q (keys (o.take (j + 1))) = addE x.toks x.cnt (mrgE q (keys (o.take j))) := by
  rw [take_succ_get hx, keys, List.map_append]
  exact mrg_snoc _ _ _
set_option maxHeartbeats 2000000 in
set_option maxRecDepth 100000 in
theorem Fz15 (F : Hp) (va vb : Value) (l o : List Tm) (ha : Tms F va l) (hb : Tms F vb o) (hok : ∀ t ∈ l, t.Ok F) (hoo : ∀ t ∈ o, t.Ok F) (hS : Sta (keys l)) (hT : Sta (keys o)) (hl : l.length ≤ 1024) (hol : o.length ≤ 1024) :
    GC Tryz.prog 15 #[va, vb] F (fun u m' => ∃ out, HpLe F m' ∧ Tms m' u out ∧ (∀ t ∈ out, t.Ok m') ∧ keys out = mrgE (keys l) (keys o)) := by
  obtain ⟨A, ca, rfl, _⟩ := RdSl.form encT_len (by decide) ha
  obtain ⟨B, cb, rfl, _⟩ := RdSl.form encT_len (by decide) hb
  refine gc_intro (vs := [_, _]) Tryz.func15 rfl Tryz.ntmps15 (by simp) ?_
  refine awp_rs (ao_r (rig_assign rfl rfl) rfl (ao_nil ?_))
  refine awp_rs (ao_r (rig_move rfl rfl) rfl (ao_r (rig_assign rfl rfl) rfl (ao_nil ?_)))
  refine awp_sk fun K1 hK1 => awp_rs (ao_r (rig_assign rfl rfl) rfl (ao_nil ?_))
  refine awp_block ?_
  refine awp_le [(1, .slice B o.length cb), (5, .slice A l.length ca), (6, .int .i64 (0 : Nat))] ⟨rfl, rfl, rfl, trivial⟩ ?_
  refine awp_loop (fun kk r mm => ∃ (j : Nat) (v : Value) (out : List Tm), j ≤ o.length ∧ kk = o.length - j ∧ r = [(1, .slice B o.length cb), (5, v), (6, .int .i64 j)] ∧ HpLe F mm ∧ Tms mm v out ∧ (∀ t ∈ out, t.Ok mm) ∧ keys out = mrgE (keys l) (keys (o.take j))) _
    ⟨0, _, l, by omega, rfl, rfl, HpLe.refl _, ha, hok, rfl⟩ ?_
  rintro kk r mm ⟨j, v, out, hj, rfl, rfl, hF, hv, hvo, hk⟩
  refine awp_sk fun K2 hK2 => awp_rs ?_
  refine ao_r (rig_move rfl rfl) rfl (ao_r (rig_move rfl rfl) rfl (ao_r (rig_lenSl rfl rfl Tryz.underlying23) rfl (ao_r (rig_lss rfl rfl rfl) rfl (ao_nil ?_))))
  refine awp_if rfl (fun h => ?_) (fun h => ?_)
  · refine awp_skip (hK2 _ _ (awp_sk fun K3 hK3 => awp_block (awp_region ?_)))
    obtain ⟨x, hx⟩ := get_lt (l := o) (i := j) (by omega)
    have hxm := List.mem_of_getElem? hx
    have hxe := hT.elm x hxm
    obtain ⟨b, off, cap', e, hxc⟩ := Tms.get (RdSl.le hb hF) hx
    simp only [Value.slice.injEq] at e
    obtain ⟨rfl, _, rfl⟩ := e
    have hst : Sta (keys out) := by rw [hk]; exact mrg_sta hS (mrg_good hT)
    have hlen : out.length ≤ 2048 := by
      have h1 := mrg_len (keys (o.take j)) (keys l)
      rw [← hk, keys_len, keys_len, keys_len, List.length_take] at h1; omega
    have h33 := Fz33 mm v out x hv (hst.ok hvo) hst.asc (by omega) ((hoo x hxm).le hF) (by omega) hxe.2.1
    refine ao_r (rig_move rfl rfl) rfl (ao_r (rig_move rfl rfl) rfl (ao_r (rig_move rfl rfl) rfl (ao_r (rig_ix j rfl rfl rfl Tryz.underlying23 Tryz.sizeOf32 rfl rfl (by omega)) rfl (ao_r (rig_loadN (vs := encT x) rfl rfl Tryz.isAgg32 Tryz.sizeOf32 hxc) rfl ?_))))
    refine ao_x (ex_call rfl rfl ez33 h33) rfl fun u m2 ⟨out2, hF2, ⟨Y, hY, _, hYt⟩, hT2, hk2⟩ => ao_r (rig_assign rfl rfl) rfl (ao_nil ?_)
    refine hK3 _ _ (awp_region ?_)
    refine ao_r (rig_move rfl rfl) rfl (ao_r (rig_add (c := ((j + 1 : Nat) : Int)) rfl rfl rfl (w64 _ (by omega) (by omega))) rfl (ao_r (rig_assign rfl rfl) rfl (ao_nil ?_)))
    refine ⟨[(1, .slice (some ⟨b, off, none⟩) o.length cb), (5, u), (6, .int .i64 (j + 1 : Nat))], _, ⟨rfl, rfl, rfl, trivial⟩, by omega, j + 1, u, out2, by omega, rfl, rfl, hF.trans hF2, RdSl.le hYt hY, fun t ht => ?_, by rw [hk2, mrg_take hx, hk]⟩
    rcases hT2 t ht with ⟨t', ht', hs⟩ | hs
    · exact hs.ok ((hvo t' ht').le hF2)
    · exact hs.ok ((hoo x hxm).le (hF.trans hF2))
  · obtain rfl : j = o.length := by omega
    rw [List.take_length] at hk
    refine awp_exit (hK1 _ _ (awp_rs (ao_r (rig_move rfl rfl) rfl (ao_r (rig_assign rfl rfl) rfl (ao_nil ?_)))))
    exact awp_ret ⟨_, res1 Tryz.results15 rfl, out, hF, hv, hvo, hk⟩
/-! The program's Merge. -/
theorem ez14 : Enters Tryz.prog 14 := enters_of Tryz.func14 (by kernel_rfl) rfl
set_option maxHeartbeats 2000000 in
set_option maxRecDepth 100000 in
theorem Fz14 (F : Hp) (va vb : Value) (l o : List Tm) (ha : Tms F va l) (hb : Tms F vb o) (hok : ∀ t ∈ l, t.Ok F) (hoo : ∀ t ∈ o, t.Ok F) (hS : Sta (keys l)) (hT : Sta (keys o)) (hl : l.length ≤ 1024) (hol : o.length ≤ 1024) :
    GC Tryz.prog 14 #[va, vb] F (fun u m' => ∃ out, HpLe F m' ∧ Tms m' u out ∧ (∀ t ∈ out, t.Ok m') ∧ keys out = mrgE (keys l) (keys o)) := by
  obtain ⟨B, cb, rfl, _⟩ := RdSl.form encT_len (by decide) hb
  refine gc_intro (vs := [_, _]) Tryz.func14 rfl Tryz.ntmps14 (by simp) ?_
  refine awp_rs (ao_r (rig_assign rfl rfl) rfl (ao_nil ?_))
  refine awp_rs (ao_r (rig_move rfl rfl) rfl ?_)
  refine ao_x (ex_call rfl rfl ez25 (Fz25 F va l ha (by omega))) rfl fun u2 m2 ⟨c2, F2, hD2, hm2, hO2⟩ => ao_r (rig_assign rfl rfl) rfl (ao_nil ?_)
  have e2 : U [c2, U [F2, F]] = m2 := ((hm2).trans (U_flat [c2] _).symm).symm
  have hD3 : Dj [c2, U [F2, F]] := Dj_unflat (A := [c2]) hD2
  have h3 : HpLe F (U [F2, F]) := le_at 1 hD2.2 rfl
  refine awp_sk fun K1 hK1 => awp_rs (ao_r (rig_move rfl rfl) rfl (ao_r (rig_lenSl rfl rfl Tryz.underlying23) rfl (ao_r (rig_move rfl rfl) rfl (ao_nil ?_))))
  refine awp_block ?_
  refine awp_le [(5, u2), (10, .slice B o.length cb), (11, .int .i64 o.length), (12, .int .i64 (0 : Nat))] ⟨rfl, rfl, rfl, rfl, trivial⟩ ?_
  refine awp_loop (fun kk r mm => ∃ (j : Nat) (v : Value) (out : List Tm) (c G : Hp), j ≤ o.length ∧ kk = o.length - j ∧ r = [(5, v), (10, .slice B o.length cb), (11, .int .i64 o.length), (12, .int .i64 j)] ∧ U [c, G] = mm ∧ Dj [c, G] ∧ HpLe F G ∧ Own 32 2 c v (rows encT out) ∧ (∀ t ∈ out, t.Ok G) ∧ keys out = mrgE (keys l) (keys (o.take j))) _
    ⟨0, _, l, c2, _, by omega, rfl, rfl, e2, hD3, h3, hO2, fun t ht => (hok t ht).le h3, rfl⟩ ?_
  clear e2 hD3 h3 hm2 hD2 hO2
  rintro kk r mm ⟨j, v, out, c, G, hj, rfl, rfl, rfl, hD, hFG, hO, hvo, hk⟩
  refine awp_rs (ao_r (rig_lss rfl rfl rfl) rfl (ao_nil ?_))
  refine awp_sk fun K2 hK2 => ?_
  refine awp_if rfl (fun h => ?_) (fun h => ?_)
  · refine awp_skip (hK2 _ _ (awp_sk fun K3 hK3 => awp_block (awp_rs ?_)))
    obtain ⟨x, hx⟩ := get_lt (l := o) (i := j) (by omega)
    have hxm := List.mem_of_getElem? hx
    have hxe := hT.elm x hxm
    have hGU : HpLe G (U [c, G]) := le_at 1 hD rfl
    obtain ⟨b, off, cap', e, hxc⟩ := Tms.get (RdSl.le hb (hFG.trans hGU)) hx
    simp only [Value.slice.injEq] at e
    obtain ⟨rfl, _, rfl⟩ := e
    have hst : Sta (keys out) := by rw [hk]; exact mrg_sta hS (mrg_good hT)
    have hlen : out.length ≤ 2048 := by
      have h1 := mrg_len (keys (o.take j)) (keys l)
      rw [← hk, keys_len, keys_len, keys_len, List.length_take] at h1; omega
    refine ao_r (rig_ix j rfl rfl rfl Tryz.underlying23 Tryz.sizeOf32 rfl rfl (by omega)) rfl (ao_r (rig_loadN (vs := encT x) rfl rfl Tryz.isAgg32 Tryz.sizeOf32 hxc) rfl ?_)
    refine ao_x (ex_alloc rfl hD Tryz.zeroValue32) rfl fun u m7 ⟨b7, hu, hm7, hD7⟩ => ?_
    subst hu hm7
    refine ao_x0 (ex_store (i := 0) rfl hD7 rfl rfl Tryz.sizeOf32 (encT_one x) rfl (by simp [Value.cells, encT])) fun u m8 ⟨_, hm8, hD8⟩ => ao_nil ?_
    subst hm8
    rw [List.set_cons_zero, putR_all _ _ (by rfl)] at hD8 ⊢
    obtain ⟨e9, hD9, hG9, hc9⟩ := sinkA hD8
    have hcy : CellsAt (U [c, U [Go.Aw.one b7 (.cells (Value.agg (encT x).toArray).cells 32 (0, 0)), G]]) b7 0 (encT x) := (cellsAt_one b7 (encT x).toArray 32).le (hc9.trans (le_at 1 hD9 rfl))
    obtain ⟨y0, y1, _⟩ := id hcy
    have h32 := Fz32 c _ v (.slice x.A x.n x.cap) out x.toks x.cnt hO hD9 (hst.ok fun t ht => (hvo t ht).le hG9) hst.asc (by omega) ((hoo x hxm).le (hFG.trans hG9)) (by omega) hxe.2.1
    refine awp_L e9 (awp_region ?_)
    refine ao_r (rig_move rfl rfl) rfl (ao_r (rig_fieldAddr rfl rfl Tryz.underlying32 rfl Tryz.sizeOf27 rfl) rfl (ao_r (rig_load1 rfl rfl Tryz.isAgg27 y0) rfl (ao_r (rig_fieldAddr rfl rfl Tryz.underlying32 rfl Tryz.sizeOf3 rfl) rfl (ao_r (rig_load1 rfl rfl Tryz.isAgg3 y1) rfl ?_))))
    refine ao_x (ex_call rfl rfl ez32 h32) rfl fun u4 m4 ⟨out4, c4, F4, hO4, hm4, hD4, hF4, hT4, hk4⟩ => ao_r (rig_assign rfl rfl) rfl (ao_nil ?_)
    subst hm4
    refine hK3 _ _ (awp_region ?_)
    refine ao_r (rig_add (c := ((j + 1 : Nat) : Int)) rfl rfl rfl (w64 _ (by omega) (by omega))) rfl (ao_r (rig_move rfl rfl) rfl (ao_nil ?_))
    refine ⟨[(5, u4), (10, .slice (some ⟨b, off, none⟩) o.length cb), (11, .int .i64 o.length), (12, .int .i64 (j + 1 : Nat))], _, ⟨rfl, rfl, rfl, rfl, trivial⟩, by omega, j + 1, u4, out4, c4, F4, by omega, rfl, rfl, rfl, hD4, hFG.trans (hG9.trans hF4), hO4, fun t ht => ?_, by rw [hk4, mrg_take hx, hk]⟩
    obtain ⟨Y, hY, _, hT⟩ := hT4
    rcases hT t ht with ⟨t', ht', hs⟩ | h
    · exact hs.ok ((hvo t' ht').le (hG9.trans hF4))
    · exact h.le hY
  · obtain rfl : j = o.length := by omega
    rw [List.take_length] at hk
    refine awp_exit (hK1 _ _ (awp_rs (ao_r (rig_move rfl rfl) rfl (ao_r (rig_assign rfl rfl) rfl (ao_nil ?_)))))
    have hGU : HpLe G (U [c, G]) := le_at 1 hD rfl
    exact awp_ret ⟨_, res1 Tryz.results14 rfl, out, hFG.trans hGU, RdSl.le hO.rd (le_at 0 hD rfl), fun t ht => (hvo t ht).le hGU, hk⟩
theorem ez17 : Enters Tryz.prog 17 := enters_of Tryz.func17 (by kernel_rfl) rfl
set_option maxRecDepth 100000 in
theorem Fz17 (F : Hp) (va : Value) (l : List Tm) (ha : Tms F va l) (hok : ∀ t ∈ l, t.Ok F) (hcn : ∀ t ∈ l, t.cnt ≤ 9223372036854775807) (hl : l.length ≤ 16384) :
    GC Tryz.prog 17 #[va] F (fun u m' => ∃ out, HpLe F m' ∧ Tms m' u out ∧ (∀ t ∈ out, t.Ok m') ∧ keys out = ofQ (keys l) ∧ out.length ≤ 1048576) := by
  refine gc_intro (vs := [_]) Tryz.func17 rfl Tryz.ntmps17 (by simp) ?_
  refine awp_rs (ao_r (rig_assign rfl rfl) rfl (ao_nil ?_))
  refine awp_rs (ao_r (rig_move rfl rfl) rfl ?_)
  refine ao_x (ex_call rfl rfl ez35 (Fz35 F va l ha hok hcn hl)) rfl fun u m1 h => ao_r (rig_assign rfl rfl) rfl (ao_nil ?_)
  exact awp_ret ⟨_, res1 Tryz.results17 rfl, h⟩
end Go.Proofs.YtmofaabndjnhjaaGreat
