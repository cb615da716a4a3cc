/- The program's side: Find. -/
import Derived.Test.YtmofaabndjnhjaaAnswers
import Derived.Test.YtmofaabndjnhjaaPlain
import Derived.Test.YtmofaabndjnhjaaOrder
import Derived.Laws.MakeOwn
import Derived.Test.YtmofaabndjnhjaaArgs
set_option linter.unusedVariables false
namespace Go.Proofs.Ytmofaabndjnhjaa
open Go Go.Aw Go.Pl Go.RowKit
def fit1 (a b : ByteArray) : Bool := decide (a = em) || decide (a = b)
def fitsB (ps ts : List ByteArray) : Bool := decide (ps.length = ts.length) && (ps.zip ts).all fun x => fit1 x.1 x.2
theorem zip_take_all {a b : List ByteArray} {i : Nat} {x y : ByteArray} (hx : a[i]? = some x) (hy : b[i]? = some y) : ((a.zip b).take (i + 1)).all (fun x => fit1 x.1 x.2) = (((a.zip b).take i).all (fun x => fit1 x.1 x.2) && fit1 x y) := by
  have h : (a.zip b)[i]? = some (x, y) := by rw [List.getElem?_zip_eq_some]; exact ⟨hx, hy⟩
  rw [take_succ_get h, List.all_append]; simp
theorem all_take_false {α : Type} {p : α → Bool} {l : List α} {i : Nat} (h : (l.take i).all p = false) : l.all p = false := by
  rw [Bool.eq_false_iff] at *
  intro h2
  exact h (List.all_eq_true.2 fun x hx => List.all_eq_true.1 h2 x (List.mem_of_mem_take hx))
theorem e63 : Enters Try.prog 63 := enters_of Try.func63 (by kernel_rfl) rfl
set_option maxRecDepth 100000 in
theorem F63 (m : Hp) (a b : ByteArray) : RC Try.prog 63 #[.string a, .string b] m (.bool (fit1 a b)) := by
  refine rc_of_gc fun m1 hm => gc_intro (vs := [_, _]) Try.func63 rfl Try.ntmps63 (by simp) ?_
  refine awp_rs (ao_r (rig_assign rfl rfl) rfl (ao_nil ?_))
  refine awp_rs (ao_r (rig_move rfl rfl) rfl (ao_r (rig_seql rfl rfl rfl) rfl (ao_r (rig_move rfl rfl) rfl ?_)))
  by_cases h : a = ⟨#[]⟩
  · rw [decide_eq_true h]
    refine ao_no rfl rfl rfl rfl (ao_no rfl rfl rfl rfl (ao_no rfl rfl rfl rfl (ao_r (rig_pickT rfl rfl rfl) rfl (ao_r (rig_assign rfl rfl) rfl (ao_nil ?_)))))
    refine awp_ret ⟨_, res1 Try.results63 rfl, ?_, HpLe.refl _⟩
    rw [fit1, decide_eq_true (show a = em from h)]; rfl
  · rw [decide_eq_false h]
    refine ao_on rfl rfl (ao_r (rig_move rfl rfl) rfl (ao_on rfl rfl (ao_r (rig_move rfl rfl) rfl (ao_on rfl rfl (ao_r (rig_seql rfl rfl rfl) rfl (ao_r (rig_pickF rfl rfl rfl) rfl (ao_r (rig_assign rfl rfl) rfl (ao_nil ?_))))))))
    refine awp_ret ⟨_, res1 Try.results63 rfl, ?_, HpLe.refl _⟩
    rw [fit1, decide_eq_false (show ¬ a = em from h)]; rfl
theorem e62 : Enters Try.prog 62 := enters_of Try.func62 (by kernel_rfl) rfl
set_option maxRecDepth 100000 in
theorem F62 (m : Hp) (va vb : Value) (a b : List ByteArray) (ha : Strs m va a) (hb : Strs m vb b) (hl : a.length ≤ 1099511627776) : RC Try.prog 62 #[va, vb, .func (.func 63) #[] #[]] m (.bool (fitsB a b)) := by
  obtain ⟨A, ca, rfl, _⟩ := RdSl.form encS_len (by decide) ha
  obtain ⟨A2, cb, rfl, _⟩ := RdSl.form encS_len (by decide) hb
  refine rc_of_gc fun m1 hm => gc_intro (vs := [_, _, _]) Try.func62 rfl Try.ntmps62 (by simp) ?_
  have ha' := RdSl.le ha hm
  have hb' := RdSl.le hb hm
  refine awp_rs (ao_r (rig_assign rfl rfl) rfl (ao_nil ?_))
  refine awp_sk fun K15 hK15 => awp_rs ?_
  refine ao_r (rig_move rfl rfl) rfl (ao_r (rig_lenSl rfl rfl Try.underlying22) rfl (ao_r (rig_move rfl rfl) rfl (ao_r (rig_lenSl rfl rfl Try.underlying22) rfl (ao_r (rig_neq rfl rfl rfl) rfl (ao_nil ?_)))))
  refine awp_ifn rfl (fun h => ?_) (fun h => ?_)
  · refine awp_rs (ao_r (rig_assign rfl rfl) rfl (ao_nil ?_))
    refine awp_ret ⟨_, res1 Try.results62 rfl, ?_, HpLe.refl _⟩
    rw [fitsB, decide_eq_false (by omega)]; rfl
  · have hlen : a.length = b.length := by omega
    refine awp_skip (hK15 _ _ (awp_sk fun K16 hK16 => awp_rs ?_))
    refine ao_r (rig_move rfl rfl) rfl (ao_r (rig_lenSl rfl rfl Try.underlying22) rfl (ao_r (rig_move rfl rfl) rfl (ao_nil ?_)))
    refine awp_block ?_
    refine awp_le [(1, .slice A2 b.length cb), (2, .func (.func 63) #[] #[]), (15, .slice A a.length ca), (16, .int .i64 a.length), (17, .int .i64 (0 : Nat))] ⟨rfl, rfl, rfl, rfl, rfl, trivial⟩ ?_
    refine awp_loop (fun k r mm => ∃ i : Nat, i ≤ a.length ∧ k = a.length - i ∧ r = [(1, .slice A2 b.length cb), (2, .func (.func 63) #[] #[]), (15, .slice A a.length ca), (16, .int .i64 a.length), (17, .int .i64 i)] ∧ mm = m1 ∧ ((a.zip b).take i).all (fun x => fit1 x.1 x.2) = true) _ ⟨0, by omega, rfl, rfl, rfl, rfl⟩ ?_
    rintro k r mm ⟨i, hi, rfl, rfl, rfl, hj⟩
    refine awp_rs (ao_r (rig_lss rfl rfl rfl) rfl (ao_nil ?_))
    refine awp_sk fun K17 hK17 => ?_
    refine awp_if rfl (fun h1 => ?_) (fun h1 => ?_)
    · refine awp_skip (hK17 _ _ (awp_sk fun K18 hK18 => awp_block (awp_rs ?_)))
      obtain ⟨x, hx⟩ := get_lt (l := a) (i := i) (by omega)
      obtain ⟨y, hy⟩ := get_lt (l := b) (i := i) (by omega)
      obtain ⟨xb, xo, xc, hxA, hxc⟩ := Strs.get ha' hx
      simp only [Value.slice.injEq] at hxA
      obtain ⟨rfl, _, rfl⟩ := hxA
      obtain ⟨yb, yo, yc, hyA, hyc⟩ := Strs.get hb' hy
      simp only [Value.slice.injEq] at hyA
      obtain ⟨rfl, _, rfl⟩ := hyA
      refine ao_r (rig_move rfl rfl) rfl (ao_r (rig_ix i rfl rfl rfl Try.underlying22 Try.sizeOf9 rfl rfl (by omega)) rfl (ao_r (rig_load1 rfl rfl Try.isAgg9 hxc) rfl (ao_r (rig_assign rfl rfl) rfl (ao_r (rig_assign rfl rfl) rfl (ao_nil ?_)))))
      refine awp_rs ?_
      refine ao_r (rig_move rfl rfl) rfl (ao_r (rig_move rfl rfl) rfl (ao_r (rig_ix i rfl rfl rfl Try.underlying22 Try.sizeOf9 rfl rfl (by omega)) rfl (ao_r (rig_load1 rfl rfl Try.isAgg9 hyc) rfl (ao_r (rig_assign rfl rfl) rfl (ao_nil ?_)))))
      refine awp_rs ?_
      refine ao_r (rig_move rfl rfl) rfl (ao_r (rig_move rfl rfl) rfl (ao_r (rig_move rfl rfl) rfl (ao_r (rig_callv (vs := [_, _]) rfl rfl rfl e63 (by simpa using F63 mm x y)) rfl (ao_r (rig_not rfl rfl) rfl (ao_nil ?_)))))
      have hz := zip_take_all hx hy
      rw [hj, Bool.true_and] at hz
      cases hf : fit1 x y with
      | false =>
        refine awp_true rfl (awp_rs (ao_r (rig_assign rfl rfl) rfl (ao_nil ?_)))
        refine awp_ret ⟨_, res1 Try.results62 rfl, ?_, HpLe.refl _⟩
        rw [hf] at hz
        rw [fitsB, all_take_false hz, Bool.and_false]
      | true =>
        refine awp_false rfl (awp_skip (hK18 _ _ (awp_region ?_)))
        refine ao_r (rig_add (c := ((i + 1 : Nat) : Int)) rfl rfl rfl (w64 _ (by omega) (by omega))) rfl (ao_r (rig_move rfl rfl) rfl (ao_nil ?_))
        exact ⟨[(1, .slice _ b.length _), (2, .func (.func 63) #[] #[]), (15, .slice _ a.length _), (16, .int .i64 a.length), (17, .int .i64 (i + 1 : Nat))], _, ⟨rfl, rfl, rfl, rfl, rfl, trivial⟩, by omega, i + 1, by omega, rfl, rfl, rfl, by rw [hz, hf]⟩
    · refine awp_exit (hK16 _ _ (awp_rs (ao_r (rig_assign rfl rfl) rfl (ao_nil ?_))))
      refine awp_ret ⟨_, res1 Try.results62 rfl, ?_, HpLe.refl _⟩
      rw [List.take_of_length_le (by rw [List.length_zip]; omega)] at hj
      rw [fitsB, hj, decide_eq_true hlen]; rfl
theorem e61 : Enters Try.prog 61 := enters_of Try.func61 (by kernel_rfl) rfl
set_option maxRecDepth 100000 in
theorem F61 (m : Hp) (x : Tm) (b : Nat) (vt : Value) (ts : List ByteArray) (hx : x.Ok m) (hb : cell m b 0 = some vt) (ht : Strs m vt ts) (hl : x.toks.length ≤ 1099511627776) : RC Try.prog 61 #[x.val, .pointer (some ⟨b, 0, none⟩)] m (.bool (fitsB x.toks ts)) := by
  refine rc_of_gc fun m1 hm => gc_intro (vs := [_, _]) Try.func61 rfl Try.ntmps61 (by simp) ?_
  refine awp_rs ?_
  refine ao_x (ex_boxR rfl rfl) rfl fun v m2 ⟨p2, hv, hl2, hc2⟩ => ?_
  subst hv
  obtain ⟨a0, a1, _⟩ := hc2
  have hle := hm.trans hl2
  refine ao_r (rig_assign rfl rfl) rfl (ao_nil ?_)
  refine awp_rs ?_
  refine ao_r (rig_fieldAddr rfl rfl Try.underlying33 rfl Try.sizeOf22 rfl) rfl (ao_r (rig_load1 rfl rfl Try.isAgg22 a0) rfl (ao_r (rig_load1 rfl rfl Try.isAgg22 (cell_le hle hb)) rfl (ao_r (rig_call rfl rfl e62 (F62 m2 _ vt x.toks ts (hx.le hle) (RdSl.le ht hle) hl)) rfl (ao_r (rig_assign rfl rfl) rfl (ao_nil ?_)))))
  exact awp_ret ⟨_, res1 Try.results61 rfl, rfl, hl2⟩
def fitP (ts : List ByteArray) (t : Tm) : Bool := fitsB t.toks ts
/-- What Find answers: the place of the first template that fits, and whether there is one. -/
def findI (l : List Tm) (s : ByteArray) : Int := match toksOf s with | none => 0 | some ts => if l.any (fitP ts) then (l.findIdx (fitP ts) : Nat) else 0
def findO (l : List Tm) (s : ByteArray) : Bool := match toksOf s with | none => false | some ts => l.any (fitP ts)
theorem e33 : Enters Try.prog 33 := enters_of Try.func33 (by kernel_rfl) rfl
set_option maxRecDepth 100000 in
theorem F33 (m : Hp) (va : Value) (l : List Tm) (s : ByteArray) (ha : Tms m va l) (hok : ∀ t ∈ l, t.Ok m) (hl : l.length ≤ 1099511627776) (htl : ∀ t ∈ l, t.toks.length ≤ 1099511627776) (hs : s.size ≤ 16777216) : RC Try.prog 33 #[va, .string s] m (.tuple #[.int .i64 (findI l s), .bool (findO l s)]) := by
  refine rc_of_gc fun m1 hm => gc_intro (vs := [_, _]) Try.func33 rfl Try.ntmps33 (by simp) ?_
  refine awp_rs (ao_r (rig_assign rfl rfl) rfl (ao_r (rig_assign rfl rfl) rfl (ao_nil ?_)))
  refine awp_rs (ao_r (rig_move rfl rfl) rfl ?_)
  refine ao_x (ex_call rfl rfl e17 (F17 m1 s hs)) rfl fun u m2 ⟨c, F, hD, hm2, hR⟩ => ?_
  subst hm2
  have hle2 : HpLe m1 (U [c, F, m1]) := le_at 2 hD rfl
  rcases hR with ⟨hno, rfl⟩ | ⟨ts, v, hts, rfl, hO⟩
  · refine ao_r (rig_move rfl rfl) rfl (ao_r (rig_extract rfl rfl rfl) rfl (ao_r (rig_extract rfl rfl rfl) rfl ?_))
    refine ao_var Try.zeroValue22 rfl rfl (fun t h => by cases h; rfl) Try.sizeOf22 rfl (by simp [Value.cells, Value.oneCell']) fun b6 m6 hl6 hc6 => ?_
    refine ao_r (rig_assign rfl rfl) rfl (ao_nil ?_)
    refine awp_sk fun K13 hK13 => awp_rs (ao_r (rig_move rfl rfl) rfl (ao_r (rig_not rfl rfl) rfl (ao_nil ?_)))
    refine awp_true rfl (awp_rs (ao_r (rig_assign rfl rfl) rfl (ao_r (rig_assign rfl rfl) rfl (ao_nil ?_))))
    exact awp_ret ⟨_, res2 Try.results33 rfl rfl, by rw [findI, findO, hno], hle2.trans hl6⟩
  · obtain ⟨At, ct, rfl⟩ := hO.len encS_len (by decide)
    refine ao_r (rig_move rfl rfl) rfl (ao_r (rig_extract rfl rfl rfl) rfl (ao_r (rig_extract rfl rfl rfl) rfl ?_))
    refine ao_var Try.zeroValue22 rfl rfl (fun t h => by cases h; rfl) Try.sizeOf22 rfl (by simp [Value.cells, Value.oneCell']) fun b6 m6 hl6 hc6 => ?_
    obtain ⟨h60, _⟩ := id hc6
    have hle6 := hle2.trans hl6
    refine ao_r (rig_assign rfl rfl) rfl (ao_nil ?_)
    refine awp_sk fun K13 hK13 => awp_rs (ao_r (rig_move rfl rfl) rfl (ao_r (rig_not rfl rfl) rfl (ao_nil ?_)))
    refine awp_false rfl (awp_skip (hK13 _ _ (awp_rs ?_)))
    refine ao_r (rig_makeFunc (fs := []) (cs := [_]) rfl rfl rfl) rfl (ao_r (rig_assign rfl rfl) rfl (ao_nil ?_))
    have h64 := F64 m6 va 61 #[.pointer (some ⟨b6, 0, none⟩)] l (fitP ts) (RdSl.le ha (hm.trans hle6)) hl e61 (fun x hx => by
      have := F61 m6 x b6 _ ts ((hok x hx).le (hm.trans hle6)) h60 (RdSl.le hO.rd ((le_at 0 hD rfl).trans hl6)) (htl x hx)
      simpa [fitP] using this)
    refine awp_sk fun K14 hK14 => awp_rs ?_
    refine ao_r (rig_move rfl rfl) rfl (ao_r (rig_move rfl rfl) rfl (ao_r (rig_call rfl rfl e64 h64) rfl (ao_r (rig_assign rfl rfl) rfl (ao_nil ?_))))
    refine awp_rs (ao_r (rig_move rfl rfl) rfl (ao_r (rig_geq rfl rfl rfl) rfl (ao_nil ?_)))
    unfold idxT
    cases hany : l.any (fitP ts) with
    | true =>
      rw [if_pos rfl]
      refine awp_if rfl (fun h => ?_) (fun h => absurd (Int.natCast_nonneg _) h)
      refine awp_rs (ao_r (rig_move rfl rfl) rfl (ao_r (rig_assign rfl rfl) rfl (ao_r (rig_assign rfl rfl) rfl (ao_nil ?_))))
      refine awp_ret ⟨_, res2 Try.results33 rfl rfl, ?_, hle6⟩
      rw [findI, findO, hts]
      simp only [hany, if_true]
    | false =>
      rw [if_neg (by decide)]
      refine awp_if rfl (fun h => absurd h (by decide)) (fun h => ?_)
      refine awp_skip (hK14 _ _ (awp_rs (ao_r (rig_assign rfl rfl) rfl (ao_r (rig_assign rfl rfl) rfl (ao_nil ?_)))))
      refine awp_ret ⟨_, res2 Try.results33 rfl rfl, ?_, hle6⟩
      rw [findI, findO, hts]
      simp only [hany, Bool.false_eq_true, if_false]
/-- On keys. -/
theorem findO_keys (l : List Tm) (s : ByteArray) : findO l s = match toksOf s with | none => false | some ts => (keys l).any fun a => fitsB a.1 ts := by
  unfold findO
  cases toksOf s with
  | none => rfl
  | some ts => show l.any (fitP ts) = (keys l).any _; rw [keys, List.any_map]; rfl
theorem findI_keys (l : List Tm) (s : ByteArray) : findI l s = match toksOf s with | none => 0 | some ts => if (keys l).any fun a => fitsB a.1 ts then ((keys l).findIdx fun a => fitsB a.1 ts : Nat) else 0 := by
  unfold findI
  cases toksOf s with
  | none => rfl
  | some ts =>
    have e1 : (keys l).any (fun a => fitsB a.1 ts) = l.any (fitP ts) := by rw [keys, List.any_map]; rfl
    have e2 : (keys l).findIdx (fun a => fitsB a.1 ts) = l.findIdx (fitP ts) := by rw [keys, List.findIdx_map]; rfl
    show (if l.any (fitP ts) = true then ((l.findIdx (fitP ts) : Nat) : Int) else 0) = (if (keys l).any (fun a => fitsB a.1 ts) = true then (((keys l).findIdx fun a => fitsB a.1 ts : Nat) : Int) else 0)
    rw [e1, e2]
end Go.Proofs.Ytmofaabndjnhjaa
/- Plain: each line with tokens fits exactly one of the templates, and the counts are those of the lines that fit. -/
set_option linter.unusedVariables false
namespace Go.Proofs.Ytmofaabndjnhjaa
open Go Go.Aw Go.Pl Go.RowKit
theorem fitsB_iff {ps ts : List ByteArray} : fitsB ps ts = true ↔ ps.length = ts.length ∧ ∀ p, p < ts.length → ps.getD p em = em ∨ ps.getD p em = ts.getD p em := by
  unfold fitsB
  rw [Bool.and_eq_true, decide_eq_true_eq, List.all_eq_true]
  constructor
  · rintro ⟨h1, h2⟩
    refine ⟨h1, fun p hp => ?_⟩
    have hp1 : p < ps.length := by omega
    have := h2 (ps[p], ts[p]) (by rw [List.mem_iff_getElem]; exact ⟨p, by rw [List.length_zip]; omega, by simp⟩)
    simp only [fit1, Bool.or_eq_true, decide_eq_true_eq] at this
    rw [List.getD_eq_getElem?_getD, List.getD_eq_getElem?_getD, List.getElem?_eq_getElem hp1, List.getElem?_eq_getElem hp]
    exact this
  · rintro ⟨h1, h2⟩
    refine ⟨h1, fun x hx => ?_⟩
    obtain ⟨p, hp, rfl⟩ := List.mem_iff_getElem.1 hx
    rw [List.length_zip] at hp
    have := h2 p (by omega)
    rw [List.getD_eq_getElem?_getD, List.getD_eq_getElem?_getD, List.getElem?_eq_getElem (by omega), List.getElem?_eq_getElem (by omega)] at this
    simp only [List.getElem_zip, fit1, Bool.or_eq_true, decide_eq_true_eq]
    exact this
theorem walkQ_at {q : List El} : ∀ {n p : Nat} {acc r : List ByteArray}, walkQ q n p acc = .inl r → acc.length = p → (∀ i, i < p → r.getD i em = acc.getD i em) ∧ ∀ i, p ≤ i → i < p + n → r.getD i em = tokQ (atQ q i)
  | 0, p, acc, r, h, _ => by
    simp [walkQ] at h
    subst h
    exact ⟨fun i _ => rfl, fun i h1 h2 => by omega⟩
  | n + 1, p, acc, r, h, hl => by
    unfold walkQ at h
    split at h
    · cases h
    · obtain ⟨h1, h2⟩ := walkQ_at h (by simp [hl])
      refine ⟨fun i hi => ?_, fun i hi1 hi2 => ?_⟩
      · rw [h1 i (by omega), List.getD_eq_getElem?_getD, List.getD_eq_getElem?_getD, List.getElem?_append_left (by omega)]
      · by_cases e : i = p
        · subst e
          rw [h1 i (by omega), List.getD_eq_getElem?_getD, List.getElem?_append_right (by omega), hl]
          simp
        · exact h2 i (by omega) (by omega)
theorem tokQ_fits {q : List El} {t : El} (ht : t ∈ q) (p : Nat) : tokQ (atQ q p) = em ∨ tokQ (atQ q p) = t.1.getD p em := by
  obtain ⟨a, ha, e⟩ := atQ_keys.2 ⟨t, ht, rfl⟩
  unfold tokQ
  by_cases h : 1 < (atQ q p).length
  · exact .inl (if_pos h)
  · rw [if_neg h]
    right
    match hq : atQ q p, ha, h with
    | [b], ha, _ => rw [List.mem_singleton.1 ha] at e; exact e
    | b :: c :: r, _, h => exact absurd (by simp) h
theorem tokQ_const {q : List El} {p : Nat} {k : ByteArray} (hne : q ≠ []) (h : ∀ t ∈ q, t.1.getD p em = k) : tokQ (atQ q p) = k := by
  have hk : ∀ a ∈ atQ q p, a.1 = k := fun a ha => by
    obtain ⟨t, ht, e⟩ := atQ_keys.1 ⟨a, ha, rfl⟩
    rw [← e]; exact h t ht
  have hA := atQ_asc q p
  have hn := atQ_ne (p := p) hne
  match hq : atQ q p, hk, hA, hn with
  | [], _, _, hn => exact absurd rfl hn
  | [b], hk, _, _ => unfold tokQ; rw [if_neg (by simp)]; exact hk b (List.mem_singleton.2 rfl)
  | b :: c :: r, hk, hA, _ =>
    have h1 := List.rel_of_pairwise_cons hA (List.mem_cons_self ..)
    have e1 := hk b (List.mem_cons_self ..)
    have e2 := hk c (List.mem_cons_of_mem _ (List.mem_cons_self ..))
    rw [e1, e2] at h1
    exact absurd h1 (cmpS_self k)
theorem part_ne {q : List El} {p : Nat} {a : ByteArray × Int} (ha : a ∈ atQ q p) : q.filter (fun t => decide (t.1.getD p em = a.1)) ≠ [] := by
  obtain ⟨t, ht, e⟩ := atQ_keys.1 ⟨a, ha, rfl⟩
  exact List.ne_nil_of_mem (List.mem_filter.2 ⟨ht, decide_eq_true e⟩)
theorem mineQ_tok {w p : Nat} {k : ByteArray} (hp : p < w) : ∀ (f : Nat) {q : List El}, (∀ t ∈ q, t.1.length = w) → q ≠ [] → (∀ t ∈ q, t.1.getD p em = k) → ∀ a ∈ mineQ f q, a.1.getD p em = k
  | 0, q, _, _, _, a, ha => by simp [mineQ] at ha
  | f + 1, q, hq, hne, hk, a, ha => by
    unfold mineQ at ha
    split at ha
    · rename_i acc h
      rw [List.mem_singleton] at ha
      rw [widQ_of hq hne] at h
      rw [ha, (walkQ_at h rfl).2 p (by omega) (by omega)]
      exact tokQ_const hne hk
    · obtain ⟨b, hb, ha⟩ := List.mem_flatMap.1 ha
      exact mineQ_tok hp f (fun t ht => hq t (List.mem_filter.1 ht).1) (part_ne hb) (fun t ht => hk t (List.mem_filter.1 ht).1) a ha
theorem countP_flatMap_one {α β : Type} (pr : β → Bool) (f : α → List β) : ∀ (l : List α) (a : α), l.Nodup → a ∈ l → (f a).countP pr = 1 → (∀ b ∈ l, b ≠ a → (f b).countP pr = 0) → (l.flatMap f).countP pr = 1
  | [], a, _, h, _, _ => by cases h
  | b :: l, a, hn, ha, h1, h0 => by
    rw [List.flatMap_cons, List.countP_append]
    have hb := List.nodup_cons.1 hn
    have hz : ∀ (l : List α), (∀ b ∈ l, (f b).countP pr = 0) → (l.flatMap f).countP pr = 0 := by
      intro l
      induction l with
      | nil => intro _; rfl
      | cons c l ih =>
        intro h
        rw [List.flatMap_cons, List.countP_append, h c (List.mem_cons_self ..), ih fun b hb => h b (List.mem_cons_of_mem _ hb)]
    rcases List.mem_cons.1 ha with rfl | ha'
    · rw [h1, hz l fun c hc => h0 c (List.mem_cons_of_mem _ hc) (fun e => hb.1 (e ▸ hc))]
    · have hba : b ≠ a := fun e => hb.1 (e ▸ ha')
      rw [h0 b (List.mem_cons_self ..) hba, countP_flatMap_one pr f l a hb.2 ha' h1 fun c hc hca => h0 c (List.mem_cons_of_mem _ hc) hca]
theorem asc_nodup {L : KV} (h : Asc L) : L.Nodup := by
  unfold List.Nodup
  exact List.Pairwise.imp (R := fun a b : ByteArray × Int => cmpS a.1 b.1 < 0) (fun {a b} hab e => by subst e; exact cmpS_self _ hab) h
theorem mineQ_one {w : Nat} : ∀ (f : Nat) {q : List El}, (∀ t ∈ q, t.1.length = w) → q.length ≤ f → ∀ t ∈ q, (mineQ f q).countP (fun a => fitsB a.1 t.1) = 1
  | 0, q, _, hf, t, ht => by
    have := List.eq_nil_of_length_eq_zero (Nat.le_zero.1 hf)
    rw [this] at ht; cases ht
  | f + 1, q, hq, hf, t, ht => by
    have hne : q ≠ [] := List.ne_nil_of_mem ht
    unfold mineQ
    split
    · rename_i acc h
      rw [widQ_of hq hne] at h
      have h2 := walkQ_inl h
      have hfit : fitsB acc t.1 = true := by
        rw [fitsB_iff]
        refine ⟨by rw [h2, hq t ht]; simp, fun p hp => ?_⟩
        rw [(walkQ_at h rfl).2 p (by omega) (by rw [hq t ht] at hp; omega)]
        exact tokQ_fits ht p
      rw [List.countP_cons, List.countP_nil, hfit]; rfl
    · rename_i p h
      have hsp := walkQ_inr h
      have h2 := splQ_two hsp
      obtain ⟨a0, ha0, e0⟩ := atQ_keys.2 ⟨t, ht, rfl⟩
      have hnoem : ∀ a ∈ atQ q p, a.1 ≠ em := fun a ha e => by
        simp only [splQ, Bool.and_eq_true, Bool.not_eq_true', List.any_eq_false] at hsp
        have := hsp.2 a ha
        simp [e] at this
      refine countP_flatMap_one _ _ _ a0 (asc_nodup (atQ_asc q p)) ha0 ?_ fun a ha hne2 => ?_
      · exact mineQ_one f (fun x hx => hq x (List.mem_filter.1 hx).1) (by have := part_short ha0 h2; omega) t (List.mem_filter.2 ⟨ht, decide_eq_true e0.symm⟩)
      · rw [List.countP_eq_zero]
        intro b hb
        rw [fitsB_iff]
        rintro ⟨_, h4⟩
        have hpw : p < w := by
          rcases Nat.lt_or_ge p w with h5 | h5
          · exact h5
          · have hall : ∀ x ∈ q, x.1.getD p em = em := fun x hx => by
              rw [List.getD_eq_getElem?_getD, List.getElem?_eq_none (by rw [hq x hx]; exact h5)]; rfl
            obtain ⟨x, hx, ex⟩ := atQ_keys.1 ⟨a, ha, rfl⟩
            exact absurd (ex.symm.trans (hall x hx)) (hnoem a ha)
        have hbt := mineQ_tok (k := a.1) hpw f (fun x hx => hq x (List.mem_filter.1 hx).1) (part_ne ha) (fun x hx => of_decide_eq_true (List.mem_filter.1 hx).2) b hb
        rcases h4 p (by rw [hq t ht]; exact hpw) with h6 | h6
        · exact hnoem a ha (hbt.symm.trans h6)
        · have e7 : a.1 = a0.1 := by rw [e0, ← h6]; exact hbt.symm
          have hA := atQ_asc q p
          obtain ⟨i, hi⟩ := List.mem_iff_getElem?.1 ha
          obtain ⟨j, hj⟩ := List.mem_iff_getElem?.1 ha0
          rcases Nat.lt_trichotomy i j with hlt | rfl | hlt
          · exact asc_take hA hj (List.mem_iff_getElem?.2 ⟨i, by rw [List.getElem?_take_of_lt hlt, hi]⟩) e7
          · rw [hi] at hj; exact hne2 (Option.some.inj hj)
          · exact asc_take hA hi (List.mem_iff_getElem?.2 ⟨j, by rw [List.getElem?_take_of_lt hlt, hj]⟩) e7.symm
theorem mineQ_cnt {w : Nat} : ∀ (f : Nat) {q : List El}, (∀ t ∈ q, t.1.length = w) → q ≠ [] → ∀ a ∈ mineQ f q, a.2 = totQ (q.filter fun t => fitsB a.1 t.1) ∧ ∃ t ∈ q, fitsB a.1 t.1 = true
  | 0, q, _, _, a, ha => by simp [mineQ] at ha
  | f + 1, q, hq, hne, a, ha => by
    unfold mineQ at ha
    split at ha
    · rename_i acc h
      rw [List.mem_singleton] at ha
      subst ha
      rw [widQ_of hq hne] at h
      have h2 := walkQ_inl h
      have hfit : ∀ t ∈ q, fitsB acc t.1 = true := fun t ht => by
        rw [fitsB_iff]
        refine ⟨by rw [h2, hq t ht]; simp, fun p hp => ?_⟩
        rw [(walkQ_at h rfl).2 p (by omega) (by rw [hq t ht] at hp; omega)]
        exact tokQ_fits ht p
      refine ⟨by rw [List.filter_eq_self.2 hfit], ?_⟩
      obtain ⟨t, ht⟩ := List.exists_mem_of_ne_nil _ hne
      exact ⟨t, ht, hfit t ht⟩
    · rename_i p h
      obtain ⟨b, hb, ha⟩ := List.mem_flatMap.1 ha
      have hsp := walkQ_inr h
      have hnoem : b.1 ≠ em := fun e => by
        simp only [splQ, Bool.and_eq_true, Bool.not_eq_true', List.any_eq_false] at hsp
        have := hsp.2 b hb
        simp [e] at this
      have hpw : p < w := by
        rcases Nat.lt_or_ge p w with h5 | h5
        · exact h5
        · have hall : ∀ x ∈ q, x.1.getD p em = em := fun x hx => by
            rw [List.getD_eq_getElem?_getD, List.getElem?_eq_none (by rw [hq x hx]; exact h5)]; rfl
          obtain ⟨x, hx, ex⟩ := atQ_keys.1 ⟨b, hb, rfl⟩
          exact absurd (ex.symm.trans (hall x hx)) hnoem
      have hlen : ∀ x ∈ q.filter (fun t => decide (t.1.getD p em = b.1)), x.1.length = w := fun x hx => hq x (List.mem_filter.1 hx).1
      have hbt := mineQ_tok (k := b.1) hpw f hlen (part_ne hb) (fun x hx => of_decide_eq_true (List.mem_filter.1 hx).2) a ha
      obtain ⟨h1, t, ht, h2⟩ := mineQ_cnt f hlen (part_ne hb) a ha
      refine ⟨?_, t, (List.mem_filter.1 ht).1, h2⟩
      rw [h1, List.filter_filter]
      congr 1
      refine List.filter_congr fun x hx => ?_
      cases hf : fitsB a.1 x.1 with
      | false => rfl
      | true =>
        rw [Bool.true_and]
        refine decide_eq_true ?_
        rcases (fitsB_iff.1 hf).2 p (by rw [hq x hx]; exact hpw) with h6 | h6
        · exact absurd (hbt.symm.trans h6) hnoem
        · exact h6.symm.trans hbt
theorem allQ_one {q : List El} {t : El} (ht : t ∈ q) (hv : vE t = true) : (allQ q).countP (fun a => fitsB a.1 t.1) = 1 := by
  have h3 := vE_iff.1 hv
  have hg : t ∈ grpQ t.1.length q := grpQ_mem.2 ⟨ht, hv, rfl⟩
  refine countP_flatMap_one _ _ _ t.1.length List.nodup_range (List.mem_range.2 (by omega)) ?_ fun n hn hne => ?_
  · have hne : grpQ t.1.length q ≠ [] := List.ne_nil_of_mem hg
    rw [mineG, if_neg hne]
    exact mineQ_one _ (fun x hx => (grpQ_mem.1 hx).2.2) (Nat.le_refl _) t hg
  · rw [List.countP_eq_zero]
    intro a ha
    unfold mineG at ha
    split at ha
    · cases ha
    · rename_i hgn
      have := mineQ_len (w := n) _ (fun x hx => (grpQ_mem.1 hx).2.2) hgn a ha
      rw [fitsB_iff]
      rintro ⟨h, _⟩
      exact hne (this.symm.trans h)
theorem allQ_cnt {q : List El} (hv : ∀ t ∈ q, vE t = true) {a : El} (ha : a ∈ allQ q) : a.2 = totQ (q.filter fun t => fitsB a.1 t.1) ∧ ∃ t ∈ q, fitsB a.1 t.1 = true := by
  obtain ⟨n, _, ha⟩ := List.mem_flatMap.1 ha
  unfold mineG at ha
  split at ha
  · cases ha
  · rename_i hgn
    have hl := mineQ_len (w := n) _ (fun x hx => (grpQ_mem.1 hx).2.2) hgn a ha
    obtain ⟨h1, t, ht, h2⟩ := mineQ_cnt (w := n) _ (fun x hx => (grpQ_mem.1 hx).2.2) hgn a ha
    refine ⟨?_, t, (grpQ_mem.1 ht).1, h2⟩
    rw [h1, grpQ, List.filter_filter]
    congr 1
    refine List.filter_congr fun x hx => ?_
    cases hf : fitsB a.1 x.1 with
    | false => rfl
    | true =>
      rw [Bool.true_and, hv x hx, Bool.true_and]
      exact decide_eq_true ((fitsB_iff.1 hf).1.symm.trans hl)
/-- The templates of lines. -/
theorem toks_vE {s : ByteArray} {ts : List ByteArray} (h : toksOf s = some ts) : vE (ts, 1) = true := by
  unfold toksOf at h
  split at h
  · cases h
  · rename_i h2
    cases h
    rw [vE_iff]
    simp only [List.length_map]
    omega
theorem lineE_v (ls : List ByteArray) : ∀ t ∈ lineE ls, vE t = true ∧ t.2 = 1 := fun t ht => by
  obtain ⟨s, _, h2⟩ := List.mem_filterMap.1 ht
  obtain ⟨ts, h4, h3⟩ := Option.map_eq_some_iff.1 h2
  rw [← h3]
  exact ⟨toks_vE h4, rfl⟩
theorem tot_ones : ∀ (q : List El) (n : Int), (∀ t ∈ q, t.2 = 1) → 0 ≤ n → n + q.length ≤ 9223372036854775807 → q.foldl (fun n t => sumK n t.2) n = n + q.length
  | [], n, _, _, _ => by simp
  | t :: q, n, h, h0, h1 => by
    have h2 := h t (List.mem_cons_self ..)
    simp only [List.length_cons] at h1
    have h3 : sumK n t.2 = n + 1 := by rw [h2, sumK, if_neg (by omega)]
    rw [List.foldl_cons, h3, tot_ones q (n + 1) (fun x hx => h x (List.mem_cons_of_mem _ hx)) (by omega) (by omega), List.length_cons]; omega
def cntF (q : List El) (a : El) : Int := ((q.filter fun t => fitsB a.1 t.1).length : Nat)
theorem mineL_cnt {ls : List ByteArray} (hl : ls.length ≤ 1048576) {a : El} (ha : a ∈ mineL ls) : a.2 = cntF (lineE ls) a ∧ ∃ t ∈ lineE ls, fitsB a.1 t.1 = true := by
  have h1 := (srtE_perm _).mem_iff.1 ha
  obtain ⟨h2, h3⟩ := allQ_cnt (fun t ht => (lineE_v ls t ht).1) h1
  refine ⟨?_, h3⟩
  have hle := lineE_len ls
  have hf := List.length_filter_le (fun t : El => fitsB a.1 t.1) (lineE ls)
  rw [h2, totQ, tot_ones _ 0 (fun t ht => (lineE_v ls t (List.mem_filter.1 ht).1).2) (by omega) (by omega), cntF]; omega
theorem mineL_one {ls : List ByteArray} {s : ByteArray} {ts : List ByteArray} (hs : s ∈ ls) (ht : toksOf s = some ts) : (mineL ls).countP (fun a => fitsB a.1 ts) = 1 := by
  have hm : (ts, (1 : Int)) ∈ lineE ls := List.mem_filterMap.2 ⟨s, hs, by rw [ht]; rfl⟩
  rw [mineL, ofQ, (srtE_perm _).countP_eq]
  exact allQ_one hm (toks_vE ht)
theorem mineL_strict {ls : List ByteArray} (hl : ls.length ≤ 1048576) : (mineL ls).Pairwise fun a b => cmpE a b < 0 := by
  have hs : Srt (mineL ls) := srtE_srt _
  rw [List.pairwise_iff_getElem]
  intro i j hi hj hij
  have h1 := List.pairwise_iff_getElem.1 hs i j hi hj hij
  rcases cmpE_tri (mineL ls)[i] (mineL ls)[j] with h | h | h
  · exact h
  · obtain ⟨_, t, ht, hf⟩ := mineL_cnt hl (List.getElem_mem hi)
    obtain ⟨s, hs2, h5⟩ := List.mem_filterMap.1 ht
    obtain ⟨ts, h6, h7⟩ := Option.map_eq_some_iff.1 h5
    have h8 := mineL_one hs2 h6
    have hf1 : fitsB (mineL ls)[i].1 ts = true := by rw [← h7] at hf; exact hf
    have hf2 : fitsB (mineL ls)[j].1 ts = true := by rw [← h]; exact hf1
    have : 2 ≤ (mineL ls).countP (fun a => fitsB a.1 ts) := by
      have e1 : (mineL ls) = (mineL ls).take j ++ (mineL ls)[j] :: (mineL ls).drop (j + 1) := by rw [← List.drop_eq_getElem_cons hj, List.take_append_drop]
      rw [e1, List.countP_append, List.countP_cons, hf2, if_pos rfl]
      have : 0 < ((mineL ls).take j).countP (fun a => fitsB a.1 ts) := List.countP_pos_iff.2 ⟨(mineL ls)[i], List.mem_iff_getElem?.2 ⟨i, by rw [List.getElem?_take_of_lt hij, List.getElem?_eq_getElem hi]⟩, hf1⟩
      omega
    omega
  · exact absurd h h1
/-- One more line: only its template counts one more. -/
theorem one_index {α : Type} {pr : α → Bool} {l : List α} (h : l.countP pr = 1) : ∃ k, l.findIdx pr = k ∧ k < l.length ∧ ∀ j x, l[j]? = some x → (pr x = true ↔ j = k) := by
  have hpos : 0 < l.countP pr := by omega
  obtain ⟨x, hx, hpx⟩ := List.countP_pos_iff.1 hpos
  have hlt : l.findIdx pr < l.length := List.findIdx_lt_length_of_exists ⟨x, hx, hpx⟩
  refine ⟨_, rfl, hlt, fun j y hy => ⟨fun hp => ?_, fun e => ?_⟩⟩
  · obtain ⟨hj, e⟩ := List.getElem?_eq_some_iff.1 hy
    rcases Nat.lt_trichotomy j (l.findIdx pr) with hlt2 | h2 | hgt
    · have := List.not_of_lt_findIdx hlt2
      rw [e, hp] at this; cases this
    · exact h2
    · have h3 : pr l[l.findIdx pr] = true := List.findIdx_getElem (w := hlt)
      have e1 : l = l.take j ++ l[j] :: l.drop (j + 1) := by rw [← List.drop_eq_getElem_cons hj, List.take_append_drop]
      have : 2 ≤ l.countP pr := by
        rw [e1, List.countP_append, List.countP_cons, e, hp, if_pos rfl]
        have : 0 < (l.take j).countP pr := List.countP_pos_iff.2 ⟨l[l.findIdx pr], List.mem_iff_getElem?.2 ⟨l.findIdx pr, by rw [List.getElem?_take_of_lt hgt, List.getElem?_eq_getElem hlt]⟩, h3⟩
        omega
      omega
  · subst e
    obtain ⟨hj, e⟩ := List.getElem?_eq_some_iff.1 hy
    rw [← e]; exact List.findIdx_getElem (w := hj)
end Go.Proofs.Ytmofaabndjnhjaa
/- The law TemplatePartition: its walk. -/
set_option linter.unusedVariables false
namespace Go.Proofs.Ytmofaabndjnhjaa
open Go Go.Aw Go.Pl Go.RowKit
theorem rc_as {P : Program} {f : FuncId} {args : Array Value} {m : Hp} {v : Value} (h : Go.As.RC P f args m v) : RC P f args m v := fun sg w hs =>
  (h w w ⟨rfl, rfl, rfl, Nat.le_refl _, hs.h⟩).mono fun e w' ⟨he, hb⟩ => ⟨he, .of hb.toBelow⟩
theorem F45a (m : Hp) (a b : Tm) (ha : a.Ok m) (hb : b.Ok m) (hl : a.toks.length ≤ 1099511627776) : RC Try.prog 45 #[a.val, b.val] m (.int .i64 (cmpE a.key b.key)) :=
  rc_as (Go.Proofs.Ytmofaabndjnhjaa.Q.F45 m (toAs a) (toAs b) (ok_as ha) (ok_as hb) hl)
theorem e30 : Enters Try.prog 30 := enters_of Try.func30 (by kernel_rfl) rfl
set_option maxRecDepth 100000 in
theorem F30 (m : Hp) (a b : Tm) (ha : a.Ok m) (hb : b.Ok m) (hl : a.toks.length ≤ 1099511627776) : RC Try.prog 30 #[a.val, b.val] m (.bool (decide (cmpE a.key b.key < 0))) := by
  refine rc_of_gc fun m1 hm => gc_intro (vs := [_, _]) Try.func30 rfl Try.ntmps30 (by simp) ?_
  refine awp_rs ?_
  refine ao_x (ex_boxR rfl rfl) rfl fun v m2 ⟨p2, hv, hl2, hc2⟩ => ?_
  subst hv
  refine ao_x (ex_boxR rfl rfl) rfl fun v m3 ⟨p3, hv, hl3, hc3⟩ => ?_
  subst hv
  have hc2' := hc2.le hl3
  have hle := hl2.trans hl3
  refine ao_r (rig_assign rfl rfl) rfl (ao_nil ?_)
  refine awp_rs ?_
  refine ao_r (rig_loadN (vs := encT a) rfl rfl Try.isAgg33 Try.sizeOf33 hc2') rfl (ao_r (rig_loadN (vs := encT b) rfl rfl Try.isAgg33 Try.sizeOf33 hc3) rfl (ao_r (rig_call rfl rfl e45 (F45a m3 a b (ha.le (hm.trans hle)) (hb.le (hm.trans hle)) hl)) rfl (ao_r (rig_lss rfl rfl rfl) rfl (ao_r (rig_assign rfl rfl) rfl (ao_nil ?_)))))
  exact awp_ret ⟨_, res1 Try.results30 rfl, rfl, hle⟩
theorem ex_make {P : Program} {o : Oper} {r : Env} {L : List Hp} {T E : TypeId} {x y : Operand} {n by_ : Nat} {k k2 : IntKind} {z : Value} (h : o.op = .makeSlice T x y) (hD : Dj L) (ex : ev r x = some (.int k n)) (ey : ev r y = some (.int k2 n)) (hT : P.underlying T = some (.slice E)) (inf : Inf P E z 1 by_) (hz : z.cells = #[z]) (hby : by_ ≤ 64) (hn : n ≤ 1099511627776) :
    Ex P o r (U L) (fun u m' => ∃ b, u = .slice (some ⟨b, 0, none⟩) n n ∧ m' = U (Go.Aw.one b (.cells (List.replicate n z).toArray E (0, 0)) :: L) ∧ Dj (Go.Aw.one b (.cells (List.replicate n z).toArray E (0, 0)) :: L)) := ex_val fun n' sg a w hf hs => by
  obtain ⟨i, hi, hz0, hs1, hb⟩ := inf
  have hr := run_make (P := P) (w := w) T E i z hT hi hz0 k k2 n n (by omega) (Int.le_refl _) (by
    rw [hb]
    have : by_ * n ≤ 64 * 1099511627776 := Nat.mul_le_mul hby hn
    have h2 : ((by_ * n : Nat) : Int) = (by_ : Int) * n := by simp
    omega) (by omega)
  have hc : madeCells z.cells ((n : Int).toNat * i.size) = (List.replicate n z).toArray := by
    rw [hs1, hz]
    apply Array.ext
    · simp [madeCells]
    · intro j h1 h2
      simp [madeCells, Nat.mod_one]
  rw [hc] at hr
  have := new_block hs hD (.cells (List.replicate n z).toArray E (0, 0))
  exact ⟨_, _, _, by simp [execOp, h, hf.eval ex, hf.eval ey, hr], this.1, _, rfl, rfl, this.2⟩
def encI (i : Int) : List Value := [.int .i64 i]
theorem encI_len (i : Int) : (encI i).length = 1 := rfl
theorem rows_encI (l : List Int) : rows encI l = l.map (Value.int .i64) := by
  induction l with
  | nil => rfl
  | cons x l ih => rw [rows_cons, ih]; rfl
theorem inf3 : Inf Try.prog 3 (.int .i64 0) 1 8 := inf_of (by kernel_rfl)
set_option maxHeartbeats 2000000 in
set_option maxRecDepth 100000 in
theorem L8_4 (m : Hp) (y : Tm) (b14 : Nat) (v8 : Value) (x : List ByteArray) (hy : y.Ok m) (hc : CellsAt m b14 0 (encT y)) (hx : Strs m v8 x) (hl : x.length ≤ 1048576) (V4 V5 V10 V12 V28 V29 V30 V50 V51 V52 : Value) :
    AWp Try.prog 141 (blkOf Try.f8 4) (fun e r mm => e = .normal ∧ EnvLe [(4, V4), (5, V5), (8, v8), (10, V10), (12, V12), (15, .bool (fitsB y.toks x)), (28, V28), (29, V29), (30, V30), (50, V50), (51, V51), (52, V52)] r ∧ mm = m)
      [(4, V4), (5, V5), (8, v8), (10, V10), (12, V12), (14, .pointer (some ⟨b14, 0, none⟩)), (15, .bool (decide (y.toks.length = x.length))), (16, .int .i64 (0 : Nat)), (28, V28), (29, V29), (30, V30), (50, V50), (51, V51), (52, V52)] m := by
  obtain ⟨A8, c8, rfl, _⟩ := RdSl.form encS_len (by decide) hx
  refine awp_block ?_
  refine awp_loop (fun kk r mm => ∃ (i : Nat) (b : Bool), i ≤ x.length ∧ kk = x.length - i ∧ r = [(4, V4), (5, V5), (8, .slice A8 x.length c8), (10, V10), (12, V12), (14, .pointer (some ⟨b14, 0, none⟩)), (15, .bool b), (16, .int .i64 i), (28, V28), (29, V29), (30, V30), (50, V50), (51, V51), (52, V52)] ∧ mm = m ∧ b = (decide (y.toks.length = x.length) && ((y.toks.zip x).take i).all fun z => fit1 z.1 z.2)) _
    ⟨0, _, by omega, rfl, rfl, rfl, by simp⟩ ?_
  rintro kk r mm ⟨i, b, hi, rfl, rfl, rfl, hb⟩
  refine awp_sk fun K11 hK11 => awp_rs ?_
  refine ao_r (rig_move rfl rfl) rfl (ao_r (rig_move rfl rfl) rfl ?_)
  cases b with
  | false =>
    refine ao_no rfl rfl rfl rfl (ao_no rfl rfl rfl rfl (ao_no rfl rfl rfl rfl (ao_no rfl rfl rfl rfl (ao_r (rig_pickF rfl rfl rfl) rfl (ao_nil ?_)))))
    refine awp_false rfl (awp_exit ⟨rfl, ?_, rfl⟩)
    have : fitsB y.toks x = false := by
      unfold fitsB
      by_cases h : y.toks.length = x.length
      · rw [decide_eq_true h, Bool.true_and] at hb
        rw [decide_eq_true h, Bool.true_and, all_take_false hb.symm]
      · rw [decide_eq_false h, Bool.false_and]
    rw [this]
    exact ⟨rfl, rfl, rfl, rfl, rfl, rfl, rfl, rfl, rfl, rfl, rfl, rfl, trivial⟩
  | true =>
    refine ao_on rfl rfl (ao_r (rig_move rfl rfl) rfl (ao_on rfl rfl (ao_r (rig_move rfl rfl) rfl (ao_on rfl rfl (ao_r (rig_lenSl rfl rfl Try.underlying22) rfl (ao_on rfl rfl (ao_r (rig_lss rfl rfl rfl) rfl (ao_r (rig_pickT rfl rfl rfl) rfl (ao_nil ?_)))))))))
    have hb2 := hb.symm
    rw [Bool.and_eq_true, decide_eq_true_eq] at hb2
    refine awp_if rfl (fun h => ?_) (fun h => ?_)
    · refine awp_skip (hK11 _ _ (awp_sk fun K12 hK12 => awp_block ?_))
      obtain ⟨p, hp⟩ := get_lt (l := y.toks) (i := i) (by omega)
      obtain ⟨q, hq⟩ := get_lt (l := x) (i := i) (by omega)
      obtain ⟨y0, y1, _⟩ := id hc
      have hyn := hy.len
      obtain ⟨bp, op, hAp, hcp⟩ := hy.get hp
      obtain ⟨bq, oq1, cq, eq, hcq⟩ := Strs.get hx hq
      simp only [Value.slice.injEq] at eq
      obtain ⟨rfl, _, rfl⟩ := eq
      have hstep : ∀ (b' : Bool), b' = fit1 p q → ∀ r', EnvLe [(4, V4), (5, V5), (8, .slice (some ⟨bq, oq1, none⟩) x.length c8), (10, V10), (12, V12), (14, .pointer (some ⟨b14, 0, none⟩)), (15, .bool b'), (16, .int .i64 i), (28, V28), (29, V29), (30, V30), (50, V50), (51, V51), (52, V52)] r' → K12 r' mm := fun b' hb' r' hr => by
        refine hK12 _ _ (awp_le _ hr (awp_region ?_))
        refine ao_r (rig_move rfl rfl) rfl (ao_r (rig_add (c := ((i + 1 : Nat) : Int)) rfl rfl rfl (w64 _ (by omega) (by omega))) rfl (ao_r (rig_assign rfl rfl) rfl (ao_nil ?_)))
        exact ⟨[(4, V4), (5, V5), (8, .slice (some ⟨bq, oq1, none⟩) x.length c8), (10, V10), (12, V12), (14, .pointer (some ⟨b14, 0, none⟩)), (15, .bool b'), (16, .int .i64 (i + 1 : Nat)), (28, V28), (29, V29), (30, V30), (50, V50), (51, V51), (52, V52)], _, ⟨rfl, rfl, rfl, rfl, rfl, rfl, rfl, rfl, rfl, rfl, rfl, rfl, rfl, rfl, trivial⟩, by omega, i + 1, b', by omega, rfl, rfl, rfl, by
          rw [zip_take_all hp hq, hb2.2, decide_eq_true hb2.1, hb']; rfl⟩
      refine awp_draw (.q 0 (.q 1 (.q 2 (.q 3 (.q 4 (.q 5 (.q 6 (.q 7 (.q 8 (.q 9 (.q 10 (.q 11 (.q 12 (.q 13 (.q 14 (.q 15 (.q 16 (.q 17 (.q 18 .fin))))))))))))))))))) [] (by kernel_rfl) (by kernel_rfl) ?_
      refine oq rfl (rig_fieldAddr rfl rfl Try.underlying33 rfl Try.sizeOf22 rfl) rfl (oq rfl (rig_load1 rfl rfl Try.isAgg22 y0) rfl (oq rfl (rig_move rfl rfl) rfl (oq rfl (rig_ix i rfl rfl rfl Try.underlying22 Try.sizeOf9 hAp rfl (by omega)) rfl (oq rfl (rig_load1 rfl rfl Try.isAgg9 hcp) rfl (oq rfl (rig_seql rfl rfl rfl) rfl (oq rfl (rig_move rfl rfl) rfl ?_))))))
      by_cases he : p = ⟨#[]⟩
      · rw [decide_eq_true he]
        refine oqno rfl rfl rfl rfl rfl (oqno rfl rfl rfl rfl rfl (oqno rfl rfl rfl rfl rfl (oqno rfl rfl rfl rfl rfl (oqno rfl rfl rfl rfl rfl (oqno rfl rfl rfl rfl rfl (oqno rfl rfl rfl rfl rfl (oqno rfl rfl rfl rfl rfl (oqno rfl rfl rfl rfl rfl (oqno rfl rfl rfl rfl rfl ?_)))))))))
        refine oq rfl (rig_pickT rfl rfl rfl) rfl (oq rfl (rig_assign rfl rfl) rfl (od_fin ?_))
        exact hstep true (by rw [fit1, decide_eq_true (show p = em from he)]; rfl) _ ⟨rfl, rfl, rfl, rfl, rfl, rfl, rfl, rfl, rfl, rfl, rfl, rfl, rfl, rfl, trivial⟩
      · rw [decide_eq_false he]
        refine oqon rfl rfl rfl (rig_fieldAddr rfl rfl Try.underlying33 rfl Try.sizeOf22 rfl) rfl (oqon rfl rfl rfl (rig_load1 rfl rfl Try.isAgg22 y0) rfl (oqon rfl rfl rfl (rig_move rfl rfl) rfl (oqon rfl rfl rfl (rig_ix i rfl rfl rfl Try.underlying22 Try.sizeOf9 hAp rfl (by omega)) rfl (oqon rfl rfl rfl (rig_load1 rfl rfl Try.isAgg9 hcp) rfl (oqon rfl rfl rfl (rig_move rfl rfl) rfl (oqon rfl rfl rfl (rig_move rfl rfl) rfl (oqon rfl rfl rfl (rig_ix i rfl rfl rfl Try.underlying22 Try.sizeOf9 rfl rfl (by omega)) rfl (oqon rfl rfl rfl (rig_load1 rfl rfl Try.isAgg9 hcq) rfl (oqon rfl rfl rfl (rig_seql rfl rfl rfl) rfl ?_)))))))))
        refine oq rfl (rig_pickF rfl rfl rfl) rfl (oq rfl (rig_assign rfl rfl) rfl (od_fin ?_))
        exact hstep (decide (p = q)) (by rw [fit1, decide_eq_false (show ¬ p = em from he)]; rfl) _ ⟨rfl, rfl, rfl, rfl, rfl, rfl, rfl, rfl, rfl, rfl, rfl, rfl, rfl, rfl, trivial⟩
    · refine awp_exit ⟨rfl, ?_, rfl⟩
      have : fitsB y.toks x = true := by
        unfold fitsB
        rw [List.take_of_length_le (by rw [List.length_zip]; omega)] at hb2
        rw [decide_eq_true hb2.1, hb2.2]; rfl
      rw [this]
      exact ⟨rfl, rfl, rfl, rfl, rfl, rfl, rfl, rfl, rfl, rfl, rfl, rfl, trivial⟩
set_option maxHeartbeats 2000000 in
set_option maxRecDepth 100000 in
theorem L8_2 (m : Hp) (A4 : Option Addr) (c4 : Nat) (out : List Tm) (v8 : Value) (x : List ByteArray) (ho : Tms m (.slice A4 out.length c4) out) (hok : ∀ t ∈ out, t.Ok m) (hx : Strs m v8 x) (hl : x.length ≤ 1048576) (hol : out.length ≤ 1099511627776) (V5 V10 V28 V29 V30 : Value) :
    AWp Try.prog 141 (blkOf Try.f8 2) (fun e r mm => e = .normal ∧ EnvLe [(4, .slice A4 out.length c4), (5, V5), (10, V10), (12, .int .i64 ((out.countP fun t => fitsB t.toks x : Nat) : Int)), (28, V28), (29, V29), (30, V30)] r ∧ HpLe m mm)
      [(4, .slice A4 out.length c4), (5, V5), (8, v8), (10, V10), (12, .int .i64 (0 : Nat)), (28, V28), (29, V29), (30, V30), (50, .slice A4 out.length c4), (51, .int .i64 out.length), (52, .int .i64 (0 : Nat))] m := by
  refine awp_block ?_
  refine awp_loop (fun kk r mm => ∃ (i : Nat), i ≤ out.length ∧ kk = out.length - i ∧ r = [(4, .slice A4 out.length c4), (5, V5), (8, v8), (10, V10), (12, .int .i64 (((out.take i).countP fun t => fitsB t.toks x : Nat) : Int)), (28, V28), (29, V29), (30, V30), (50, .slice A4 out.length c4), (51, .int .i64 out.length), (52, .int .i64 i)] ∧ HpLe m mm) _
    ⟨0, by omega, rfl, rfl, HpLe.refl _⟩ ?_
  rintro kk r mm ⟨i, hi, rfl, rfl, hle⟩
  refine awp_rs (ao_r (rig_lss rfl rfl rfl) rfl (ao_nil ?_))
  refine awp_sk fun K8 hK8 => ?_
  refine awp_if rfl (fun h => ?_) (fun h => ?_)
  · refine awp_skip (hK8 _ _ (awp_sk fun K9 hK9 => awp_block (awp_rs ?_)))
    obtain ⟨y, hy⟩ := get_lt (l := out) (i := i) (by omega)
    obtain ⟨b, off, cap', e, hyc⟩ := Tms.get (RdSl.le ho hle) hy
    simp only [Value.slice.injEq] at e
    obtain ⟨rfl, _, rfl⟩ := e
    refine ao_r (rig_ix i rfl rfl rfl Try.underlying29 Try.sizeOf33 rfl rfl (by omega)) rfl (ao_r (rig_loadN (vs := encT y) rfl rfl Try.isAgg33 Try.sizeOf33 hyc) rfl ?_)
    refine ao_var Try.zeroValue33 rfl rfl (fun t h => by cases h; rfl) Try.sizeOf33 rfl (encT_one y) fun b14 m14 hl14 hc14 => ao_nil ?_
    have hle2 := hle.trans hl14
    have hyok := (hok y (List.mem_of_getElem? hy)).le hle2
    have hyn := hyok.len
    obtain ⟨y0, y1, _⟩ := id hc14
    obtain ⟨A8, c8, rfl, _⟩ := RdSl.form encS_len (by decide) hx
    refine awp_rs ?_
    refine ao_r (rig_fieldAddr rfl rfl Try.underlying33 rfl Try.sizeOf22 rfl) rfl (ao_r (rig_load1 rfl rfl Try.isAgg22 y0) rfl (ao_r (rig_lenSl rfl rfl Try.underlying22) rfl (ao_r (rig_move rfl rfl) rfl (ao_r (rig_lenSl rfl rfl Try.underlying22) rfl (ao_r (rig_eql rfl rfl rfl) rfl (ao_r (rig_assign rfl rfl) rfl (ao_nil ?_)))))))
    rw [show decide ((y.n : Int) = (x.length : Int)) = decide (y.toks.length = x.length) by rw [decide_eq_decide, hyn]; omega]
    refine awp_sk fun K10 hK10 => awp_rs (ao_r (rig_assign rfl rfl) rfl (ao_nil ?_))
    refine awp_lemma (s := [(4, .slice (some ⟨b, off, none⟩) out.length c4), (5, V5), (8, .slice A8 x.length c8), (10, V10), (12, .int .i64 (((out.take i).countP fun t => fitsB t.toks x : Nat) : Int)), (14, .pointer (some ⟨b14, 0, none⟩)), (15, .bool (decide (y.toks.length = x.length))), (16, .int .i64 (0 : Nat)), (28, V28), (29, V29), (30, V30), (50, .slice (some ⟨b, off, none⟩) out.length c4), (51, .int .i64 out.length), (52, .int .i64 i)]) ⟨rfl, rfl, rfl, rfl, rfl, rfl, rfl, rfl, rfl, rfl, rfl, rfl, rfl, rfl, trivial⟩
      (L8_4 m14 y b14 (.slice A8 x.length c8) x hyok hc14 (RdSl.le hx hle2) hl _ _ _ _ _ _ _ _ _ _) fun r mm ⟨hE, hmm⟩ => ?_
    subst hmm
    have hcl : (out.take i).countP (fun t => fitsB t.toks x) ≤ out.length := Nat.le_trans List.countP_le_length (by rw [List.length_take]; omega)
    have htk : (out.take (i + 1)).countP (fun t => fitsB t.toks x) = (out.take i).countP (fun t => fitsB t.toks x) + if fitsB y.toks x = true then 1 else 0 := by
      rw [take_succ_get hy, List.countP_append, List.countP_cons, List.countP_nil, Nat.zero_add]
    refine hK10 _ _ (awp_le _ hE (awp_rs (ao_r (rig_move rfl rfl) rfl (ao_nil ?_))))
    refine awp_cond rfl (fun h2 => ?_) (fun h2 => ?_)
    · refine awp_region ?_
      rw [h2, if_pos rfl] at htk
      refine ao_r (rig_move rfl rfl) rfl (ao_r (rig_add (c := (((out.take (i + 1)).countP fun t => fitsB t.toks x : Nat) : Int)) rfl rfl rfl (by rw [htk, w64 _ (by omega) (by omega)]; omega)) rfl (ao_r (rig_assign rfl rfl) rfl (ao_nil ?_)))
      refine hK9 _ _ (awp_region ?_)
      refine ao_r (rig_add (c := ((i + 1 : Nat) : Int)) rfl rfl rfl (w64 _ (by omega) (by omega))) rfl (ao_r (rig_move rfl rfl) rfl (ao_nil ?_))
      exact ⟨[(4, .slice (some ⟨b, off, none⟩) out.length c4), (5, V5), (8, .slice A8 x.length c8), (10, V10), (12, .int .i64 (((out.take (i + 1)).countP fun t => fitsB t.toks x : Nat) : Int)), (28, V28), (29, V29), (30, V30), (50, .slice (some ⟨b, off, none⟩) out.length c4), (51, .int .i64 out.length), (52, .int .i64 (i + 1 : Nat))], _, ⟨rfl, rfl, rfl, rfl, rfl, rfl, rfl, rfl, rfl, rfl, rfl, trivial⟩, by omega, i + 1, by omega, rfl, rfl, hle2⟩
    · rw [h2, if_neg (by decide), Nat.add_zero] at htk
      refine awp_skip (hK9 _ _ (awp_region ?_))
      refine ao_r (rig_add (c := ((i + 1 : Nat) : Int)) rfl rfl rfl (w64 _ (by omega) (by omega))) rfl (ao_r (rig_move rfl rfl) rfl (ao_nil ?_))
      exact ⟨[(4, .slice (some ⟨b, off, none⟩) out.length c4), (5, V5), (8, .slice A8 x.length c8), (10, V10), (12, .int .i64 (((out.take (i + 1)).countP fun t => fitsB t.toks x : Nat) : Int)), (28, V28), (29, V29), (30, V30), (50, .slice (some ⟨b, off, none⟩) out.length c4), (51, .int .i64 out.length), (52, .int .i64 (i + 1 : Nat))], _, ⟨rfl, rfl, rfl, rfl, by rw [htk]; rfl, rfl, rfl, rfl, rfl, rfl, rfl, trivial⟩, by omega, i + 1, by omega, rfl, rfl, hle2⟩
  · obtain rfl : i = out.length := by omega
    rw [List.take_length]
    exact awp_exit ⟨rfl, ⟨rfl, rfl, rfl, rfl, rfl, rfl, rfl, trivial⟩, hle⟩
end Go.Proofs.Ytmofaabndjnhjaa
/- The law TemplatePartition: the whole walk. -/
set_option linter.unusedVariables false
set_option linter.unusedSimpArgs false
namespace Go.Proofs.Ytmofaabndjnhjaa
open Go Go.Aw Go.Pl Go.RowKit
theorem cntF_snoc (q : List El) (t a : El) : cntF (q ++ [t]) a = cntF q a + if fitsB a.1 t.1 = true then 1 else 0 := by
  unfold cntF
  rw [List.filter_append, List.length_append]
  cases h : fitsB a.1 t.1 with
  | true => rw [if_pos rfl, List.filter_cons, if_pos h]; simp
  | false => rw [if_neg (by decide), List.filter_cons, if_neg (by rw [h]; decide)]; simp
theorem cnt_step {mined : List El} {q : List El} {ts : List ByteArray} {k : Nat} (hk : ∀ j x, mined[j]? = some x → (fitsB x.1 ts = true ↔ j = k)) {c : Int} (hc : (mined.map (cntF q))[k]? = some c) : (mined.map (cntF q)).set k (c + 1) = mined.map (cntF (q ++ [(ts, 1)])) := by
  apply List.ext_getElem?
  intro j
  rw [List.getElem?_set, List.getElem?_map, List.getElem?_map]
  cases hj : mined[j]? with
  | none =>
    have h1 := List.getElem?_eq_none_iff.1 hj
    have h2 := (List.getElem?_eq_some_iff.1 hc).1
    rw [List.length_map] at h2
    rw [if_neg (by omega)]; rfl
  | some x =>
    have h := hk j x hj
    simp only [Option.map_some, cntF_snoc]
    by_cases e : k = j
    · subst e
      rw [if_pos rfl, if_pos (by have := (List.getElem?_eq_some_iff.1 hc).1; exact this), if_pos (h.2 rfl)]
      rw [List.getElem?_map, hj] at hc
      simp only [Option.map_some, Option.some.injEq] at hc
      rw [hc]
    · rw [if_neg e, if_neg (fun hf => e (h.1 hf).symm), Int.add_zero]
theorem e8 : Enters Try.prog 8 := enters_of Try.func8 (by kernel_rfl) rfl
set_option maxHeartbeats 8000000 in
set_option maxRecDepth 100000 in
theorem F8 (m : Hp) (A0 : Option Addr) (c0 : Nat) (l0 : List UInt8) (h0 : RdSl m encB 1 (.slice A0 l0.length c0) l0) (hc0 : l0.length ≤ c0) (hl0 : l0.length ≤ 1048576) :
    RC Try.prog 8 #[.slice A0 l0.length c0] m (.bool true) := by
  refine rc_of_gc fun m1 hm => gc_intro (vs := [_]) Try.func8 rfl Try.ntmps8 (by simp) ?_
  refine awp_rs (ao_r (rig_assign rfl rfl) rfl (ao_nil ?_))
  refine awp_sk fun K1 hK1 => awp_rs ?_
  refine ao_r (rig_call (vs := []) rfl rfl e9 (F9 m1)) rfl (ao_r (rig_not rfl rfl) rfl (ao_nil ?_))
  refine awp_false rfl (awp_skip (hK1 _ _ (awp_rs ?_)))
  refine ao_r (rig_move rfl rfl) rfl ?_
  refine ao_x (ex_call (vs := [_, _]) rfl rfl e10 (F10 m1 A0 c0 l0 200 (RdSl.le h0 hm) hc0 (by omega) (by decide))) rfl fun u m2 ⟨p, hu, hC2⟩ => ?_
  subst hu
  refine ao_x (ex_call (vs := [_, _]) rfl rfl e11 (F11 m1 p m1 m2 24 (by decide) hC2)) rfl fun vl m3 ⟨ls, x, F', hll, hsz, hOx, hDx, hFx, hC3⟩ => ?_
  refine ao_r (rig_assign rfl rfl) rfl (ao_nil ?_)
  have hx3 : HpLe x m3 := (le_at 0 hDx rfl).trans hC3.le
  have h13 : HpLe m1 m3 := hFx.trans ((le_at 1 hDx rfl).trans hC3.le)
  have hst3 : Strs m3 vl ls := RdSl.le hOx.rd hx3
  obtain ⟨Al, cl, rfl⟩ := hOx.len encS_len (by decide)
  refine awp_rs (ao_r (rig_move rfl rfl) rfl ?_)
  refine ao_x (ex_call rfl rfl e12 (F12 m3 _ ls hst3 (fun s hs => Nat.le_trans (hsz s hs) (by decide)) (by omega))) rfl fun v4 m4 ⟨out, co, G1, hOo, hm4, hD4, hG1, hTo, hko, hno⟩ => ao_r (rig_assign rfl rfl) rfl (ao_nil ?_)
  subst hm4
  obtain ⟨A4, c4, rfl⟩ := hOo.len encT_len (by decide)
  have hlo : (mineL ls).length = out.length := by rw [← hko]; simp [keys]
  refine awp_rs (ao_r (rig_move rfl rfl) rfl (ao_r (rig_lenSl rfl rfl Try.underlying29) rfl ?_))
  refine ao_x (ex_make rfl hD4 rfl rfl Try.underlying49 inf3 rfl (by decide) (by omega)) rfl fun u m5 ⟨g, hu, hm5, hD5⟩ => ao_r (rig_assign rfl rfl) rfl (ao_nil ?_)
  subst hu hm5
  have hcs0 : (List.replicate out.length (Value.int .i64 0)).toArray = (rows encI ((mineL ls).map (cntF []))).toArray := by
    rw [rows_encI, List.map_map]
    congr 1
    apply List.ext_getElem?
    intro j
    by_cases hj : j < out.length
    · simp [List.getElem?_replicate, hj, hlo, cntF]
    · simp [List.getElem?_replicate, hj, hlo]
  rw [hcs0] at hD5 ⊢
  refine awp_L (U_flat [Go.Aw.one g (.cells (rows encI ((mineL ls).map (cntF []))).toArray 3 (0, 0))] [co, G1]).symm ?_
  have hD6 : Dj [Go.Aw.one g (.cells (rows encI ((mineL ls).map (cntF []))).toArray 3 (0, 0)), U [co, G1]] := Dj_unflat (A := [Go.Aw.one g (.cells (rows encI ((mineL ls).map (cntF []))).toArray 3 (0, 0))]) hD5
  have hF03 : HpLe m3 (U [co, G1]) := hG1.trans (le_at 1 hD4 rfl)
  have hot : Tms (U [co, G1]) (.slice A4 out.length c4) out := RdSl.le hOo.rd (le_at 0 hD4 rfl)
  have hook : ∀ t ∈ out, t.Ok (U [co, G1]) := fun t ht => (hTo t ht).le (le_at 1 hD4 rfl)
  generalize U [co, G1] = F0 at hD6 hF03 hot hook
  clear hD5 hcs0
  refine awp_sk fun K2 hK2 => awp_rs ?_
  refine ao_r (rig_move rfl rfl) rfl (ao_r (rig_lenSl rfl rfl Try.underlying22) rfl (ao_r (rig_move rfl rfl) rfl (ao_nil ?_)))
  refine awp_block ?_
  refine awp_le [(4, .slice A4 out.length c4), (5, .slice (some ⟨g, 0, none⟩) out.length out.length), (28, .slice Al ls.length cl), (29, .int .i64 ls.length), (30, .int .i64 (0 : Nat))] ⟨rfl, rfl, rfl, rfl, rfl, trivial⟩ ?_
  refine awp_loop (fun kk r mm => ∃ (i : Nat) (F : Hp), i ≤ ls.length ∧ kk = ls.length - i ∧ r = [(4, .slice A4 out.length c4), (5, .slice (some ⟨g, 0, none⟩) out.length out.length), (28, .slice Al ls.length cl), (29, .int .i64 ls.length), (30, .int .i64 i)] ∧
      mm = U [Go.Aw.one g (.cells (rows encI ((mineL ls).map (cntF (lineE (ls.take i))))).toArray 3 (0, 0)), F] ∧ Dj [Go.Aw.one g (.cells (rows encI ((mineL ls).map (cntF (lineE (ls.take i))))).toArray 3 (0, 0)), F] ∧ HpLe F0 F) _
    ⟨0, F0, by omega, rfl, rfl, rfl, hD6, HpLe.refl _⟩ ?_
  clear hD6
  rintro kk r mm ⟨i, F, hi, rfl, rfl, rfl, hD, hF⟩
  refine awp_rs (ao_r (rig_lss rfl rfl rfl) rfl (ao_nil ?_))
  refine awp_sk fun K3 hK3 => ?_
  refine awp_if rfl (fun h => ?_) (fun h => ?_)
  · refine awp_skip (hK3 _ _ (awp_sk fun K4 hK4 => awp_block (awp_rs ?_)))
    obtain ⟨s, hs⟩ := get_lt (l := ls) (i := i) (by omega)
    have hsm := List.mem_of_getElem? hs
    have hF1 : HpLe F (U [Go.Aw.one g (.cells (rows encI ((mineL ls).map (cntF (lineE (ls.take i))))).toArray 3 (0, 0)), F]) := le_at 1 hD rfl
    obtain ⟨b, off, cap', e, hsc⟩ := Strs.get (RdSl.le hst3 (hF03.trans (hF.trans hF1))) hs
    simp only [Value.slice.injEq] at e
    obtain ⟨rfl, _, rfl⟩ := e
    refine ao_r (rig_ix i rfl rfl rfl Try.underlying22 Try.sizeOf9 rfl rfl (by omega)) rfl (ao_r (rig_load1 rfl rfl Try.isAgg9 hsc) rfl (ao_r (rig_assign rfl rfl) rfl (ao_nil ?_)))
    have htk := take_succ_get hs
    generalize hcs : (mineL ls).map (cntF (lineE (ls.take i))) = cs at hD
    have hcl : cs.length = out.length := by rw [← hcs, List.length_map]; exact hlo
    have hfin : ∀ (cs' : List Int) (F' : Hp), cs' = (mineL ls).map (cntF (lineE (ls.take (i + 1)))) → Dj [Go.Aw.one g (.cells (rows encI cs').toArray 3 (0, 0)), F'] → HpLe F F' → ∀ r', EnvLe [(4, .slice A4 out.length c4), (5, .slice (some ⟨g, 0, none⟩) out.length out.length), (28, .slice (some ⟨b, off, none⟩) ls.length cl), (29, .int .i64 ls.length), (30, .int .i64 i)] r' → K4 r' (U [Go.Aw.one g (.cells (rows encI cs').toArray 3 (0, 0)), F']) := fun cs' F' hc' hD' hF' r' hr => by
      refine hK4 _ _ (awp_le _ hr (awp_region ?_))
      refine ao_r (rig_add (c := ((i + 1 : Nat) : Int)) rfl rfl rfl (w64 _ (by omega) (by omega))) rfl (ao_r (rig_move rfl rfl) rfl (ao_nil ?_))
      exact ⟨[(4, .slice A4 out.length c4), (5, .slice (some ⟨g, 0, none⟩) out.length out.length), (28, .slice (some ⟨b, off, none⟩) ls.length cl), (29, .int .i64 ls.length), (30, .int .i64 (i + 1 : Nat))], _, ⟨rfl, rfl, rfl, rfl, rfl, trivial⟩, by omega, i + 1, F', by omega, rfl, rfl, by rw [hc'], by rw [← hc']; exact hD', hF.trans hF'⟩
    refine awp_rs (ao_r (rig_move rfl rfl) rfl ?_)
    refine ao_x (ex_call rfl rfl e17 (F17 _ s (Nat.le_trans (hsz s hsm) (by decide)))) rfl fun u m2 hfr => ?_
    obtain ⟨c2, F2, hD2, rfl, hR⟩ := Fresh.at hD hfr
    have hpm : U [c2, F2, Go.Aw.one g (.cells (rows encI cs).toArray 3 (0, 0)), F] = U [Go.Aw.one g (.cells (rows encI cs).toArray 3 (0, 0)), c2, F2, F] ∧ Dj [Go.Aw.one g (.cells (rows encI cs).toArray 3 (0, 0)), c2, F2, F] := U_pm [2, 0, 1, 3] rfl hD2
    obtain ⟨G, hUG, hDG, hFG, hcG⟩ : ∃ G, U [c2, F2, Go.Aw.one g (.cells (rows encI cs).toArray 3 (0, 0)), F] = U [Go.Aw.one g (.cells (rows encI cs).toArray 3 (0, 0)), G] ∧ Dj [Go.Aw.one g (.cells (rows encI cs).toArray 3 (0, 0)), G] ∧ HpLe F G ∧ HpLe c2 G :=
      ⟨U [c2, F2, F], hpm.1.trans (U_flat [Go.Aw.one g (.cells (rows encI cs).toArray 3 (0, 0))] _).symm, Dj_unflat (A := [Go.Aw.one g (.cells (rows encI cs).toArray 3 (0, 0))]) hpm.2, le_at 2 hpm.2.2 rfl, U_le_head⟩
    have hGm : HpLe G (U [Go.Aw.one g (.cells (rows encI cs).toArray 3 (0, 0)), G]) := le_at 1 hDG rfl
    have hleF0 : HpLe F0 (U [Go.Aw.one g (.cells (rows encI cs).toArray 3 (0, 0)), G]) := hF.trans (hFG.trans hGm)
    have h33 := F33 (U [Go.Aw.one g (.cells (rows encI cs).toArray 3 (0, 0)), G]) (.slice A4 out.length c4) out s (RdSl.le hot hleF0) (fun t ht => (hook t ht).le hleF0) (by omega) (fun t ht => Nat.le_trans (keys_len60 hko t ht) (by decide)) (Nat.le_trans (hsz s hsm) (by decide))
    rw [findI_keys, findO_keys, hko] at h33
    rcases hR with ⟨hno2, rfl⟩ | ⟨ts, v, hts, rfl, hOt⟩
    · rw [hno2] at h33
      refine ao_r (rig_move rfl rfl) rfl (ao_r (rig_extract rfl rfl rfl) rfl (ao_r (rig_extract rfl rfl rfl) rfl (ao_r (rig_assign rfl rfl) rfl (ao_r (rig_assign rfl rfl) rfl (ao_nil ?_)))))
      rw [hUG]
      refine awp_rs (ao_r (rig_move rfl rfl) rfl (ao_r (rig_move rfl rfl) rfl (ao_r (rig_call rfl rfl e33 h33) rfl (ao_r (rig_move rfl rfl) rfl (ao_r (rig_extract rfl rfl rfl) rfl (ao_r (rig_extract rfl rfl rfl) rfl (ao_r (rig_assign rfl rfl) rfl (ao_r (rig_assign rfl rfl) rfl (ao_nil ?_)))))))))
      refine awp_sk fun K5 hK5 => awp_rs (ao_r (rig_move rfl rfl) rfl (ao_r (rig_move rfl rfl) rfl (ao_r (rig_bneq rfl Try.underlying4 rfl rfl) rfl (ao_nil ?_))))
      refine awp_false rfl (awp_skip (hK5 _ _ (awp_sk fun K6 hK6 => awp_rs (ao_r (rig_move rfl rfl) rfl (ao_r (rig_not rfl rfl) rfl (ao_nil ?_))))))
      refine awp_true rfl (awp_exit ?_)
      exact hfin cs G (by rw [htk, lineE_snoc, hno2, ← hcs]; simp) hDG hFG _ ⟨rfl, rfl, rfl, rfl, rfl, trivial⟩
    · have h1 := mineL_one hsm hts
      obtain ⟨k, hk1, hk2, hk3⟩ := one_index h1
      have hany : (mineL ls).any (fun a => fitsB a.1 ts) = true := List.any_eq_true.2 ⟨(mineL ls)[k], List.getElem_mem hk2, (hk3 k _ (List.getElem?_eq_getElem hk2)).2 rfl⟩
      rw [hts] at h33
      simp only [hany, if_true, hk1] at h33
      obtain ⟨At, ct, rfl⟩ := hOt.len encS_len (by decide)
      have htl : ts.length ≤ 60 := by
        have := (vE_iff.1 (toks_vE hts)).2.2
        exact this
      refine ao_r (rig_move rfl rfl) rfl (ao_r (rig_extract rfl rfl rfl) rfl (ao_r (rig_extract rfl rfl rfl) rfl (ao_r (rig_assign rfl rfl) rfl (ao_r (rig_assign rfl rfl) rfl (ao_nil ?_)))))
      rw [hUG]
      refine awp_rs (ao_r (rig_move rfl rfl) rfl (ao_r (rig_move rfl rfl) rfl (ao_r (rig_call rfl rfl e33 h33) rfl (ao_r (rig_move rfl rfl) rfl (ao_r (rig_extract rfl rfl rfl) rfl (ao_r (rig_extract rfl rfl rfl) rfl (ao_r (rig_assign rfl rfl) rfl (ao_r (rig_assign rfl rfl) rfl (ao_nil ?_)))))))))
      refine awp_sk fun K5 hK5 => awp_rs (ao_r (rig_move rfl rfl) rfl (ao_r (rig_move rfl rfl) rfl (ao_r (rig_bneq rfl Try.underlying4 rfl rfl) rfl (ao_nil ?_))))
      refine awp_false rfl (awp_skip (hK5 _ _ (awp_sk fun K6 hK6 => awp_rs (ao_r (rig_move rfl rfl) rfl (ao_r (rig_not rfl rfl) rfl (ao_nil ?_))))))
      refine awp_false rfl (awp_skip (hK6 _ _ (awp_rs (ao_r (rig_assign rfl rfl) rfl (ao_nil ?_)))))
      refine awp_sk fun K7 hK7 => awp_rs (ao_r (rig_move rfl rfl) rfl (ao_r (rig_lenSl rfl rfl Try.underlying29) rfl (ao_r (rig_move rfl rfl) rfl (ao_nil ?_))))
      refine awp_lemma (s := [(4, .slice A4 out.length c4), (5, .slice (some ⟨g, 0, none⟩) out.length out.length), (8, .slice At ts.length ct), (10, .int .i64 (k : Nat)), (12, .int .i64 (0 : Nat)), (28, .slice (some ⟨b, off, none⟩) ls.length cl), (29, .int .i64 ls.length), (30, .int .i64 i), (50, .slice A4 out.length c4), (51, .int .i64 out.length), (52, .int .i64 (0 : Nat))]) ⟨rfl, rfl, rfl, rfl, rfl, rfl, rfl, rfl, rfl, rfl, rfl, trivial⟩
        (L8_2 _ A4 c4 out (.slice At ts.length ct) ts (RdSl.le hot hleF0) (fun t ht => (hook t ht).le hleF0) (RdSl.le hOt.rd (hcG.trans hGm)) (by omega) (by omega) _ _ _ _ _) fun r mm ⟨hE, hle⟩ => ?_
      obtain ⟨G2, hGG2, hDG2, rfl⟩ := grow_to (cs := [Go.Aw.one g (.cells (rows encI cs).toArray 3 (0, 0))]) hDG hle
      have hcount : out.countP (fun t => fitsB t.toks ts) = 1 := by
        rw [← hko, keys, List.countP_map] at h1; exact h1
      rw [hcount] at hE
      have hko2 : k < out.length := by omega
      refine hK7 _ _ (awp_le _ hE (awp_sk fun K13 hK13 => awp_rs ?_))
      refine ao_r (rig_move rfl rfl) rfl (ao_r (rig_neq rfl rfl rfl) rfl (ao_r (rig_move rfl rfl) rfl ?_))
      refine ao_on rfl rfl (ao_r (rig_move rfl rfl) rfl (ao_on rfl rfl (ao_r (rig_move rfl rfl) rfl (ao_on rfl rfl (ao_r (rig_lenSl rfl rfl Try.underlying29) rfl (ao_on rfl rfl (ao_r (rig_geq rfl rfl rfl) rfl ?_)))))))
      rw [decide_eq_false (show ¬ ((out.length : Int) ≤ (k : Int)) by omega)]
      refine ao_r (rig_pickF rfl rfl rfl) rfl (ao_nil ?_)
      refine awp_false rfl (awp_skip (hK13 _ _ (awp_region ?_)))
      obtain ⟨c, hc⟩ := get_lt (l := cs) (i := k) (by omega)
      have hcell : cell (U ([Go.Aw.one g (.cells (rows encI cs).toArray 3 (0, 0))] ++ [G2])) g (0 + k * 1) = some (.int .i64 c) := by
        refine cell_at 0 hDG2 rfl ?_
        have := rows_get encI_len cs k c hc 0 (.int .i64 c) rfl
        simp only [List.getElem?_toArray]
        simpa using this
      have hcb : 0 ≤ c ∧ c ≤ 1048576 := by
        rw [← hcs, List.getElem?_map] at hc
        obtain ⟨a, ha, rfl⟩ := Option.map_eq_some_iff.1 hc
        unfold cntF
        have h5 := List.length_filter_le (fun t : El => fitsB a.1 t.1) (lineE (ls.take i))
        have h6 := lineE_len (ls.take i)
        rw [List.length_take] at h6
        omega
      refine ao_r (rig_move rfl rfl) rfl (ao_r (rig_move rfl rfl) rfl (ao_r (rig_ix k rfl rfl rfl Try.underlying49 Try.sizeOf3 rfl rfl hko2) rfl (ao_r (rig_load1 rfl rfl Try.isAgg3 hcell) rfl (ao_r (rig_add (c := c + 1) rfl rfl rfl (w64 _ (by omega) (by omega))) rfl (ao_r (rig_ix k rfl rfl rfl Try.underlying49 Try.sizeOf3 rfl rfl hko2) rfl ?_)))))
      refine ao_x0 (ex_store (i := 0) rfl hDG2 rfl rfl Try.sizeOf3 (by simp [Value.cells, Value.oneCell']) rfl (by simp [Value.cells, rows_length encI_len]; omega)) fun u m8 ⟨_, hm8, hD8⟩ => ao_nil ?_
      have er : putR (rows encI cs).toArray (0 + k * 1) (Value.int .i64 (c + 1)).cells.toList = (rows encI (cs.set k (c + 1))).toArray := by
        have := putR_rows encI_len cs k (c + 1) [] (by omega)
        rw [List.append_nil, List.append_nil] at this
        rw [Nat.zero_add]; exact this
      have hm9 : m8 = U [Go.Aw.one g (.cells (rows encI (cs.set k (c + 1))).toArray 3 (0, 0)), G2] := by rw [hm8, ← er]; rfl
      have hD9 : Dj [Go.Aw.one g (.cells (rows encI (cs.set k (c + 1))).toArray 3 (0, 0)), G2] := by rw [← er]; exact hD8
      clear hm8 hD8
      subst hm9
      refine hfin (cs.set k (c + 1)) G2 ?_ hD9 (hFG.trans hGG2) _ ⟨rfl, rfl, rfl, rfl, rfl, trivial⟩
      rw [htk, lineE_snoc, hts, ← hcs]
      rw [← hcs] at hc
      exact cnt_step hk3 hc
  · obtain rfl : i = ls.length := by omega
    rw [List.take_length] at hD ⊢
    refine awp_exit (hK2 _ _ (awp_sk fun K14 hK14 => awp_rs ?_))
    refine ao_r (rig_move rfl rfl) rfl (ao_r (rig_lenSl rfl rfl Try.underlying29) rfl (ao_r (rig_move rfl rfl) rfl (ao_nil ?_)))
    have hleF : HpLe F (U [Go.Aw.one g (.cells (rows encI ((mineL ls).map (cntF (lineE ls)))).toArray 3 (0, 0)), F]) := le_at 1 hD rfl
    have hmm1 : HpLe m1 (U [Go.Aw.one g (.cells (rows encI ((mineL ls).map (cntF (lineE ls)))).toArray 3 (0, 0)), F]) := h13.trans (hF03.trans (hF.trans hleF))
    have hgc : ∀ (j : Nat) (c : Int), ((mineL ls).map (cntF (lineE ls)))[j]? = some c → cell (U [Go.Aw.one g (.cells (rows encI ((mineL ls).map (cntF (lineE ls)))).toArray 3 (0, 0)), F]) g (0 + j * 1) = some (.int .i64 c) := fun j c hc => by
      refine cell_at 0 hD rfl ?_
      have := rows_get encI_len _ j c hc 0 (.int .i64 c) rfl
      simp only [List.getElem?_toArray]
      simpa using this
    generalize U [Go.Aw.one g (.cells (rows encI ((mineL ls).map (cntF (lineE ls)))).toArray 3 (0, 0)), F] = mf at hleF hmm1 hgc
    have hleF0 := hF.trans hleF
    refine awp_block ?_
    refine awp_le [(4, .slice A4 out.length c4), (5, .slice (some ⟨g, 0, none⟩) out.length out.length), (108, .slice A4 out.length c4), (109, .int .i64 out.length), (110, .int .i64 (0 : Nat))] ⟨rfl, rfl, rfl, rfl, rfl, trivial⟩ ?_
    refine awp_loop (fun kk r mm => ∃ (j : Nat), j ≤ out.length ∧ kk = out.length - j ∧ r = [(4, .slice A4 out.length c4), (5, .slice (some ⟨g, 0, none⟩) out.length out.length), (108, .slice A4 out.length c4), (109, .int .i64 out.length), (110, .int .i64 j)] ∧ mm = mf) _
      ⟨0, by omega, rfl, rfl, rfl⟩ ?_
    rintro kk r mm ⟨j, hj, rfl, rfl, rfl⟩
    refine awp_rs (ao_r (rig_lss rfl rfl rfl) rfl (ao_nil ?_))
    refine awp_sk fun K15 hK15 => ?_
    refine awp_if rfl (fun h2 => ?_) (fun h2 => ?_)
    · refine awp_skip (hK15 _ _ (awp_sk fun K16 hK16 => awp_block (awp_rs (ao_r (rig_move rfl rfl) rfl (ao_r (rig_assign rfl rfl) rfl (ao_nil ?_))))))
      obtain ⟨y, hy⟩ := get_lt (l := out) (i := j) (by omega)
      have hym : (mineL ls)[j]? = some y.key := by rw [← hko, keys, List.getElem?_map, hy]; rfl
      have hcy : ((mineL ls).map (cntF (lineE ls)))[j]? = some y.cnt := by
        rw [List.getElem?_map, hym]
        have := (mineL_cnt (ls := ls) (by omega) (List.mem_of_getElem? hym)).1
        show some (cntF (lineE ls) y.key) = some y.cnt
        rw [← this]; rfl
      have hcj := hgc j _ hcy
      have hrow := RdSl.le hot hleF0
      obtain ⟨b4, o4, cap4, e4, hyc⟩ := Tms.get hrow hy
      simp only [Value.slice.injEq] at e4
      obtain ⟨rfl, _, rfl⟩ := e4
      obtain ⟨y0, y1, _⟩ := id hyc
      have hnext : ∀ r', EnvLe [(4, .slice (some ⟨b4, o4, none⟩) out.length c4), (5, .slice (some ⟨g, 0, none⟩) out.length out.length), (108, .slice (some ⟨b4, o4, none⟩) out.length c4), (109, .int .i64 out.length), (110, .int .i64 j)] r' → K16 r' mm := fun r' hr => by
        refine hK16 _ _ (awp_le _ hr (awp_region ?_))
        refine ao_r (rig_add (c := ((j + 1 : Nat) : Int)) rfl rfl rfl (w64 _ (by omega) (by omega))) rfl (ao_r (rig_move rfl rfl) rfl (ao_nil ?_))
        exact ⟨[(4, .slice (some ⟨b4, o4, none⟩) out.length c4), (5, .slice (some ⟨g, 0, none⟩) out.length out.length), (108, .slice (some ⟨b4, o4, none⟩) out.length c4), (109, .int .i64 out.length), (110, .int .i64 (j + 1 : Nat))], _, ⟨rfl, rfl, rfl, rfl, rfl, trivial⟩, by omega, j + 1, by omega, rfl, rfl, rfl⟩
      refine awp_ds (.q 0 (.q 1 (.q 2 (.q 3 (.q 4 (.q 5 (.q 6 (.q 7 (.q 8 (.q 9 (.q 10 (.q 11 (.q 12 (.q 13 (.q 14 (.q 15 (.q 16 (.q 17 (.q 18 (.q 19 (.q 20 (.q 21 (.q 22 (.q 23 (.q 24 (.q 25 (.q 26 .fin))))))))))))))))))))))))))) [] (by kernel_rfl) (by kernel_rfl) ?_
      refine oq rfl (rig_move rfl rfl) rfl (oq rfl (rig_move rfl rfl) rfl (oq rfl (rig_ix j rfl rfl rfl Try.underlying49 Try.sizeOf3 rfl rfl (by omega)) rfl (oq rfl (rig_load1 rfl rfl Try.isAgg3 hcj) rfl (oq rfl (rig_move rfl rfl) rfl (oq rfl (rig_move rfl rfl) rfl (oq rfl (rig_ix j rfl rfl rfl Try.underlying29 Try.sizeOf33 rfl rfl (by omega)) rfl (oq rfl (rig_fieldAddr rfl rfl Try.underlying33 rfl Try.sizeOf3 rfl) rfl (oq rfl (rig_load1 rfl rfl Try.isAgg3 y1) rfl (oq rfl (rig_neq rfl rfl rfl) rfl (oq rfl (rig_move rfl rfl) rfl ?_))))))))))
      rw [decide_eq_true (rfl : y.cnt = y.cnt)]
      refine oqon rfl rfl rfl (rig_move rfl rfl) rfl (oqon rfl rfl rfl (rig_gtr rfl rfl rfl) rfl (oqon rfl rfl rfl (rig_move rfl rfl) rfl ?_))
      by_cases hj0 : j = 0
      · subst hj0
        refine oqno rfl rfl rfl rfl rfl (oqno rfl rfl rfl rfl rfl (oqno rfl rfl rfl rfl rfl (oqno rfl rfl rfl rfl rfl (oqno rfl rfl rfl rfl rfl (oqno rfl rfl rfl rfl rfl (oqno rfl rfl rfl rfl rfl (oqno rfl rfl rfl rfl rfl (oqno rfl rfl rfl rfl rfl (oqno rfl rfl rfl rfl rfl (oqno rfl rfl rfl rfl rfl ?_))))))))))
        refine oqon rfl rfl rfl (rig_pickF rfl rfl rfl) rfl (oq rfl (rig_pickF rfl rfl rfl) rfl (od_fin ?_))
        exact awp_false rfl (awp_skip (hnext _ ⟨rfl, rfl, rfl, rfl, rfl, trivial⟩))
      · rw [decide_eq_true (show (0 : Int) < (j : Int) by omega)]
        obtain ⟨z, hz⟩ := get_lt (l := out) (i := j - 1) (by omega)
        have hzm : (mineL ls)[j - 1]? = some z.key := by rw [← hko, keys, List.getElem?_map, hz]; rfl
        have hzc : CellsAt mm b4 (o4 + (j - 1) * 2) (encT z) := by
          obtain ⟨b5, o5, cap5, e5, hzc⟩ := Tms.get hrow hz
          simp only [Value.slice.injEq, Option.some.injEq, Addr.mk.injEq] at e5
          obtain ⟨⟨rfl, rfl, _⟩, _, _⟩ := e5
          exact hzc
        have hless : cmpE z.key y.key < 0 := by
          have h5 := List.pairwise_iff_getElem.1 (mineL_strict (ls := ls) (by omega))
          obtain ⟨q1, w1⟩ := List.getElem?_eq_some_iff.1 hzm
          obtain ⟨q2, w2⟩ := List.getElem?_eq_some_iff.1 hym
          have := h5 (j - 1) j q1 q2 (by omega)
          rw [w1, w2] at this; exact this
        have h30 := F30 mm z y ((hook z (List.mem_of_getElem? hz)).le hleF0) ((hook y (List.mem_of_getElem? hy)).le hleF0) (Nat.le_trans (keys_len60 hko z (List.mem_of_getElem? hz)) (by decide))
        rw [decide_eq_true hless] at h30
        refine oqon rfl rfl rfl (rig_move rfl rfl) rfl (oqon rfl rfl rfl (rig_move rfl rfl) rfl (oqon rfl rfl rfl (rig_sub (c := ((j - 1 : Nat) : Int)) rfl rfl rfl (by rw [w64 _ (by omega) (by omega)]; omega)) rfl (oqon rfl rfl rfl (rig_ix (j - 1) rfl rfl rfl Try.underlying29 Try.sizeOf33 rfl rfl (by omega)) rfl (oqon rfl rfl rfl (rig_loadN (vs := encT z) rfl rfl Try.isAgg33 Try.sizeOf33 hzc) rfl ?_))))
        refine oqon rfl rfl rfl (rig_move rfl rfl) rfl (oqon rfl rfl rfl (rig_move rfl rfl) rfl (oqon rfl rfl rfl (rig_ix j rfl rfl rfl Try.underlying29 Try.sizeOf33 rfl rfl (by omega)) rfl (oqon rfl rfl rfl (rig_loadN (vs := encT y) rfl rfl Try.isAgg33 Try.sizeOf33 hyc) rfl ?_)))
        refine oqon rfl rfl rfl (rig_call rfl rfl e30 h30) rfl (oqon rfl rfl rfl (rig_not rfl rfl) rfl ?_)
        refine oqon rfl rfl rfl (rig_pickT rfl rfl rfl) rfl (oq rfl (rig_pickF rfl rfl rfl) rfl (od_fin ?_))
        exact awp_false rfl (awp_skip (hnext _ ⟨rfl, rfl, rfl, rfl, rfl, trivial⟩))
    · refine awp_exit (hK14 _ _ (awp_rs (ao_r (rig_assign rfl rfl) rfl (ao_nil ?_))))
      exact awp_ret ⟨_, res1 Try.results8 rfl, rfl, hmm1⟩
end Go.Proofs.Ytmofaabndjnhjaa
/- The law TemplatePartition holds: 'TemplatePartitionUptoSaid'; no condition but the row's own: what the arguments hold together is of bulk at most 1048576. -/
set_option linter.unusedVariables false
namespace Go.Proofs.Ytmofaabndjnhjaa.templatePartition
open Go.ChangeShapes Go.WideShapes Go.ChangeAt Go.RowKit
set_option maxRecDepth 100000 in
theorem contract (H : Type) (enc : TypeId × Value → H) (W : World) (base : Nat) (args : Array Value) (ds gs : List (DataW H)) (before : List MemPlace)
    (hval : ∀ (j : Nat) t v, Try.f8.params[j]? = some t → args[j]? = some v → Value.okWide Try.prog W .any base t v)
    (hW : DataW.Whole enc Try.prog Try.f8.params.toList Rows.templatePartitionSpec.vars false W args.toList ds gs before) (hk : Rows.uptoSmall H (ds ++ gs) = true) :
    Calls Try.prog 8 args W fun e W' => ∃ v, e = .returned v ∧ Rows.templatePartitionSpec.post enc Try.prog Try.f8 false true false false W args v W' := by
  have hW' := hW
  obtain ⟨p, q, hA0, hV, rfl, hfz, hnd⟩ := hW
  have hA : DataW.TrodAll enc Try.prog W 0 (fun _ => true) true Try.f8.params.toList args.toList ds p := hA0
  obtain ⟨rfl, rfl⟩ := trodVars_none hV
  have hb := bulk_bound hk
  rw [List.append_nil] at hb
  rw [Try.params8] at hA hval
  obtain ⟨v0, vs0, d0, ds0, p0, q0, hargs, rfl, rfl, h0, r0⟩ := trodAll_cons hA
  obtain ⟨rfl, rfl, rfl⟩ := trodAll_nil r0
  obtain rfl : args = #[v0] := by cases args; simp_all
  obtain ⟨A0, c0, l0, rfl, hr0, hc0, hl0⟩ := open_bytes (hval 0 23 v0 rfl rfl) h0 (Nat.le_trans (bulk_mem (List.mem_cons_self ..)) hb)
  refine (F8 (Go.Aw.all W) A0 c0 l0 hr0 hc0 hl0 W W (Go.Aw.sat_all W)).mono fun e W' ⟨he, hbel⟩ => ⟨_, he, law_post rfl (by kernel_rfl) rfl ?_ hW' hbel.toBelow⟩
  rw [Try.params8]
  intro t ht
  simp at ht
  subst ht
  exact ⟨by kernel_rfl, of_decide_eq_true (by kernel_rfl)⟩
set_option maxRecDepth 100000 in
theorem lifted (os : Os) (started : os.Started) (H : Type) (enc : TypeId × Value → H) (F : Stop.Interp) :
    ReturnsInHanded {} Try.checked os 8 .any ((Rows.OpenSpec.upto Rows.templatePartitionSpec).pre6 enc Try.prog Try.f8 Rows.templatePartitionUptoRow.domain false) (((Rows.OpenSpec.upto Rows.templatePartitionSpec).at F).post enc Try.prog Try.f8 false true false false) := by
  refine returnsInHanded_of_cond (C := Try.checked) (s := Rows.OpenSpec.upto Rows.templatePartitionSpec) (k := Rows.uptoSmall) rfl ownK started (by kernel_rfl) Try.func8
    (OpenSpec.witness (enc := enc) (C := Try.checked) (s := Rows.OpenSpec.upto Rows.templatePartitionSpec) (k := Rows.uptoSmall) rfl false ⟨#[], #[.slice none 0 0], []⟩ 8 (by kernel_rfl) (by kernel_rfl) (by kernel_rfl)
      (x := ([.nil], [], [])) (by kernel_rfl) rfl (by kernel_rfl)) ?_
  intro W base args ds gs before hval hW _ hk _
  exact contract H enc W base args ds gs before hval hW hk
theorem over : Rows.templatePartitionUptoRow.holds Try.pinned (Rows.OpenSpec.upto Rows.templatePartitionSpec) :=
  OpenClaim.holds_of_cond 8 Try.f8 rfl rfl rfl rfl rfl rfl rfl ⟨rfl, rfl, rfl, rfl, rfl⟩ rfl rfl rfl rfl rfl (by kernel_rfl) Try.func8 (by kernel_rfl)
    (of_decide_eq_true (by kernel_rfl)) (by unfold Func.isWrapper; first | (rw [if_pos (by decide +kernel)]; kernel_rfl) | (rw [if_neg (by decide +kernel)]; exact ⟨rfl, rfl⟩))
    (fun os started H enc _ F => lifted os started H enc F)
theorem proved : Rows.TemplatePartitionUptoSaid :=
  over
end Go.Proofs.Ytmofaabndjnhjaa.templatePartition
namespace Go.Proofs.Ytmofaabndjnhjaa
theorem templatePartition_holds : Rows.TemplatePartitionUptoSaid := templatePartition.proved
end Go.Proofs.Ytmofaabndjnhjaa
