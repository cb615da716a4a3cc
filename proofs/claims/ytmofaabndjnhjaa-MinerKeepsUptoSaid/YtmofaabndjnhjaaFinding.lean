/- Plain: where the tokens of a template come from. -/
import Derived.Test.YtmofaabndjnhjaaPlain
import Derived.Test.YtmofaabndjnhjaaAnswers
import Derived.Test.YtmofaabndjnhjaaSplit
set_option linter.unusedVariables false
namespace Go.Pl
open Go
theorem getD_mem (l : List ByteArray) (p : Nat) : l.getD p em = em ∨ l.getD p em ∈ l := by
  rw [List.getD_eq_getElem?_getD]
  cases h : l[p]? with
  | none => exact .inl rfl
  | some x => exact .inr (List.mem_of_getElem? h)
theorem tokQ_from {q : List El} {p : Nat} : tokQ (atQ q p) = em ∨ ∃ t ∈ q, tokQ (atQ q p) ∈ t.1 := by
  unfold tokQ
  split
  · exact .inl rfl
  · cases hl : atQ q p with
    | nil => exact .inl rfl
    | cons a r =>
      obtain ⟨t, ht, e⟩ := atQ_keys.1 ⟨a, by rw [hl]; exact List.mem_cons_self .., rfl⟩
      rcases getD_mem t.1 p with h | h
      · exact .inl (by show a.1 = em; rw [← e, h])
      · exact .inr ⟨t, ht, by show a.1 ∈ t.1; rw [← e]; exact h⟩
theorem walkQ_from {q : List El} : ∀ {n p : Nat} {acc r : List ByteArray}, walkQ q n p acc = .inl r → ∀ s ∈ r, s ∈ acc ∨ s = em ∨ ∃ t ∈ q, s ∈ t.1
  | 0, p, acc, r, h, s, hs => by simp [walkQ] at h; exact .inl (by rw [h]; exact hs)
  | n + 1, p, acc, r, h, s, hs => by
    unfold walkQ at h
    split at h
    · cases h
    · rcases walkQ_from h s hs with h1 | h1
      · rcases List.mem_append.1 h1 with h2 | h2
        · exact .inl h2
        · rw [List.mem_singleton.1 h2]; exact .inr tokQ_from
      · exact .inr h1
theorem mineQ_from : ∀ (f : Nat) {q : List El} {a : El}, a ∈ mineQ f q → ∀ s ∈ a.1, s = em ∨ ∃ t ∈ q, s ∈ t.1
  | 0, q, a, h, s, hs => by simp [mineQ] at h
  | f + 1, q, a, h, s, hs => by
    unfold mineQ at h
    split at h
    · rename_i acc hw
      rw [List.mem_singleton] at h
      rw [h] at hs
      rcases walkQ_from hw s hs with h1 | h1
      · cases h1
      · exact h1
    · obtain ⟨b, hb, ha⟩ := List.mem_flatMap.1 h
      rcases mineQ_from f ha s hs with h1 | ⟨t, ht, h1⟩
      · exact .inl h1
      · exact .inr ⟨t, (List.mem_filter.1 ht).1, h1⟩
theorem ofQ_from {q : List El} {a : El} (h : a ∈ ofQ q) : ∀ s ∈ a.1, s = em ∨ ∃ t ∈ q, s ∈ t.1 := fun s hs => by
  obtain ⟨n, hn, ha⟩ := List.mem_flatMap.1 ((srtE_perm _).mem_iff.1 h)
  unfold mineG at ha
  split at ha
  · cases ha
  · rcases mineQ_from _ ha s hs with h1 | ⟨t, ht, h1⟩
    · exact .inl h1
    · exact .inr ⟨t, (grpQ_mem.1 ht).1, h1⟩
end Go.Pl
/- The program's side: Find. -/
set_option linter.unusedVariables false
namespace Go.Proofs.Ytmofaabndjnhjaa
open Go Go.Aw Go.Pl Go.RowKit
def fit1 (a b : ByteArray) : Bool := decide (a = em) || decide (a = b)
def fitsB (ps ts : List ByteArray) : Bool := decide (ps.length = ts.length) && (ps.zip ts).all fun x => fit1 x.1 x.2
theorem zip_take_all {a b : List ByteArray} {i : Nat} {x y : ByteArray} (hx : a[i]? = some x) (hy : b[i]? = some y) : ((a.zip b).take (i + 1)).all (fun x => fit1 x.1 x.2) = (((a.zip b).take i).all (fun x => fit1 x.1 x.2) && fit1 x y) := by
  have h : (a.zip b)[i]? = some (x, y) := by rw [List.getElem?_zip_eq_some]; exact ⟨hx, hy⟩
  rw [take_succ_get h, List.all_append]; simp
theorem all_take_false {α : Type} {p : α → Bool} {l : List α} {i : Nat} (h : (l.take i).all p = false) : l.all p = false := by
  rw [Bool.eq_false_iff] at *
  intro h2
  exact h (List.all_eq_true.2 fun x hx => List.all_eq_true.1 h2 x (List.mem_of_mem_take hx))
theorem e63 : Enters Try.prog 63 := enters_of Try.func63 (by kernel_rfl) rfl
set_option maxRecDepth 100000 in
theorem F63 (m : Hp) (a b : ByteArray) : RC Try.prog 63 #[.string a, .string b] m (.bool (fit1 a b)) := by
  refine rc_of_gc fun m1 hm => gc_intro (vs := [_, _]) Try.func63 rfl Try.ntmps63 (by simp) ?_
  refine awp_rs (ao_r (rig_assign rfl rfl) rfl (ao_nil ?_))
  refine awp_rs (ao_r (rig_move rfl rfl) rfl (ao_r (rig_seql rfl rfl rfl) rfl (ao_r (rig_move rfl rfl) rfl ?_)))
  by_cases h : a = ⟨#[]⟩
  · rw [decide_eq_true h]
    refine ao_no rfl rfl rfl rfl (ao_no rfl rfl rfl rfl (ao_no rfl rfl rfl rfl (ao_r (rig_pickT rfl rfl rfl) rfl (ao_r (rig_assign rfl rfl) rfl (ao_nil ?_)))))
    refine awp_ret ⟨_, res1 Try.results63 rfl, ?_, HpLe.refl _⟩
    rw [fit1, decide_eq_true (show a = em from h)]; rfl
  · rw [decide_eq_false h]
    refine ao_on rfl rfl (ao_r (rig_move rfl rfl) rfl (ao_on rfl rfl (ao_r (rig_move rfl rfl) rfl (ao_on rfl rfl (ao_r (rig_seql rfl rfl rfl) rfl (ao_r (rig_pickF rfl rfl rfl) rfl (ao_r (rig_assign rfl rfl) rfl (ao_nil ?_))))))))
    refine awp_ret ⟨_, res1 Try.results63 rfl, ?_, HpLe.refl _⟩
    rw [fit1, decide_eq_false (show ¬ a = em from h)]; rfl
theorem e62 : Enters Try.prog 62 := enters_of Try.func62 (by kernel_rfl) rfl
set_option maxRecDepth 100000 in
theorem F62 (m : Hp) (va vb : Value) (a b : List ByteArray) (ha : Strs m va a) (hb : Strs m vb b) (hl : a.length ≤ 1099511627776) : RC Try.prog 62 #[va, vb, .func (.func 63) #[] #[]] m (.bool (fitsB a b)) := by
  obtain ⟨A, ca, rfl, _⟩ := RdSl.form encS_len (by decide) ha
  obtain ⟨A2, cb, rfl, _⟩ := RdSl.form encS_len (by decide) hb
  refine rc_of_gc fun m1 hm => gc_intro (vs := [_, _, _]) Try.func62 rfl Try.ntmps62 (by simp) ?_
  have ha' := RdSl.le ha hm
  have hb' := RdSl.le hb hm
  refine awp_rs (ao_r (rig_assign rfl rfl) rfl (ao_nil ?_))
  refine awp_sk fun K15 hK15 => awp_rs ?_
  refine ao_r (rig_move rfl rfl) rfl (ao_r (rig_lenSl rfl rfl Try.underlying22) rfl (ao_r (rig_move rfl rfl) rfl (ao_r (rig_lenSl rfl rfl Try.underlying22) rfl (ao_r (rig_neq rfl rfl rfl) rfl (ao_nil ?_)))))
  refine awp_ifn rfl (fun h => ?_) (fun h => ?_)
  · refine awp_rs (ao_r (rig_assign rfl rfl) rfl (ao_nil ?_))
    refine awp_ret ⟨_, res1 Try.results62 rfl, ?_, HpLe.refl _⟩
    rw [fitsB, decide_eq_false (by omega)]; rfl
  · have hlen : a.length = b.length := by omega
    refine awp_skip (hK15 _ _ (awp_sk fun K16 hK16 => awp_rs ?_))
    refine ao_r (rig_move rfl rfl) rfl (ao_r (rig_lenSl rfl rfl Try.underlying22) rfl (ao_r (rig_move rfl rfl) rfl (ao_nil ?_)))
    refine awp_block ?_
    refine awp_le [(1, .slice A2 b.length cb), (2, .func (.func 63) #[] #[]), (15, .slice A a.length ca), (16, .int .i64 a.length), (17, .int .i64 (0 : Nat))] ⟨rfl, rfl, rfl, rfl, rfl, trivial⟩ ?_
    refine awp_loop (fun k r mm => ∃ i : Nat, i ≤ a.length ∧ k = a.length - i ∧ r = [(1, .slice A2 b.length cb), (2, .func (.func 63) #[] #[]), (15, .slice A a.length ca), (16, .int .i64 a.length), (17, .int .i64 i)] ∧ mm = m1 ∧ ((a.zip b).take i).all (fun x => fit1 x.1 x.2) = true) _ ⟨0, by omega, rfl, rfl, rfl, rfl⟩ ?_
    rintro k r mm ⟨i, hi, rfl, rfl, rfl, hj⟩
    refine awp_rs (ao_r (rig_lss rfl rfl rfl) rfl (ao_nil ?_))
    refine awp_sk fun K17 hK17 => ?_
    refine awp_if rfl (fun h1 => ?_) (fun h1 => ?_)
    · refine awp_skip (hK17 _ _ (awp_sk fun K18 hK18 => awp_block (awp_rs ?_)))
      obtain ⟨x, hx⟩ := get_lt (l := a) (i := i) (by omega)
      obtain ⟨y, hy⟩ := get_lt (l := b) (i := i) (by omega)
      obtain ⟨xb, xo, xc, hxA, hxc⟩ := Strs.get ha' hx
      simp only [Value.slice.injEq] at hxA
      obtain ⟨rfl, _, rfl⟩ := hxA
      obtain ⟨yb, yo, yc, hyA, hyc⟩ := Strs.get hb' hy
      simp only [Value.slice.injEq] at hyA
      obtain ⟨rfl, _, rfl⟩ := hyA
      refine ao_r (rig_move rfl rfl) rfl (ao_r (rig_ix i rfl rfl rfl Try.underlying22 Try.sizeOf9 rfl rfl (by omega)) rfl (ao_r (rig_load1 rfl rfl Try.isAgg9 hxc) rfl (ao_r (rig_assign rfl rfl) rfl (ao_r (rig_assign rfl rfl) rfl (ao_nil ?_)))))
      refine awp_rs ?_
      refine ao_r (rig_move rfl rfl) rfl (ao_r (rig_move rfl rfl) rfl (ao_r (rig_ix i rfl rfl rfl Try.underlying22 Try.sizeOf9 rfl rfl (by omega)) rfl (ao_r (rig_load1 rfl rfl Try.isAgg9 hyc) rfl (ao_r (rig_assign rfl rfl) rfl (ao_nil ?_)))))
      refine awp_rs ?_
      refine ao_r (rig_move rfl rfl) rfl (ao_r (rig_move rfl rfl) rfl (ao_r (rig_move rfl rfl) rfl (ao_r (rig_callv (vs := [_, _]) rfl rfl rfl e63 (by simpa using F63 mm x y)) rfl (ao_r (rig_not rfl rfl) rfl (ao_nil ?_)))))
      have hz := zip_take_all hx hy
      rw [hj, Bool.true_and] at hz
      cases hf : fit1 x y with
      | false =>
        refine awp_true rfl (awp_rs (ao_r (rig_assign rfl rfl) rfl (ao_nil ?_)))
        refine awp_ret ⟨_, res1 Try.results62 rfl, ?_, HpLe.refl _⟩
        rw [hf] at hz
        rw [fitsB, all_take_false hz, Bool.and_false]
      | true =>
        refine awp_false rfl (awp_skip (hK18 _ _ (awp_region ?_)))
        refine ao_r (rig_add (c := ((i + 1 : Nat) : Int)) rfl rfl rfl (w64 _ (by omega) (by omega))) rfl (ao_r (rig_move rfl rfl) rfl (ao_nil ?_))
        exact ⟨[(1, .slice _ b.length _), (2, .func (.func 63) #[] #[]), (15, .slice _ a.length _), (16, .int .i64 a.length), (17, .int .i64 (i + 1 : Nat))], _, ⟨rfl, rfl, rfl, rfl, rfl, trivial⟩, by omega, i + 1, by omega, rfl, rfl, rfl, by rw [hz, hf]⟩
    · refine awp_exit (hK16 _ _ (awp_rs (ao_r (rig_assign rfl rfl) rfl (ao_nil ?_))))
      refine awp_ret ⟨_, res1 Try.results62 rfl, ?_, HpLe.refl _⟩
      rw [List.take_of_length_le (by rw [List.length_zip]; omega)] at hj
      rw [fitsB, hj, decide_eq_true hlen]; rfl
theorem e61 : Enters Try.prog 61 := enters_of Try.func61 (by kernel_rfl) rfl
set_option maxRecDepth 100000 in
theorem F61 (m : Hp) (x : Tm) (b : Nat) (vt : Value) (ts : List ByteArray) (hx : x.Ok m) (hb : cell m b 0 = some vt) (ht : Strs m vt ts) (hl : x.toks.length ≤ 1099511627776) : RC Try.prog 61 #[x.val, .pointer (some ⟨b, 0, none⟩)] m (.bool (fitsB x.toks ts)) := by
  refine rc_of_gc fun m1 hm => gc_intro (vs := [_, _]) Try.func61 rfl Try.ntmps61 (by simp) ?_
  refine awp_rs ?_
  refine ao_x (ex_boxR rfl rfl) rfl fun v m2 ⟨p2, hv, hl2, hc2⟩ => ?_
  subst hv
  obtain ⟨a0, a1, _⟩ := hc2
  have hle := hm.trans hl2
  refine ao_r (rig_assign rfl rfl) rfl (ao_nil ?_)
  refine awp_rs ?_
  refine ao_r (rig_fieldAddr rfl rfl Try.underlying33 rfl Try.sizeOf22 rfl) rfl (ao_r (rig_load1 rfl rfl Try.isAgg22 a0) rfl (ao_r (rig_load1 rfl rfl Try.isAgg22 (cell_le hle hb)) rfl (ao_r (rig_call rfl rfl e62 (F62 m2 _ vt x.toks ts (hx.le hle) (RdSl.le ht hle) hl)) rfl (ao_r (rig_assign rfl rfl) rfl (ao_nil ?_)))))
  exact awp_ret ⟨_, res1 Try.results61 rfl, rfl, hl2⟩
def fitP (ts : List ByteArray) (t : Tm) : Bool := fitsB t.toks ts
/-- What Find answers: the place of the first template that fits, and whether there is one. -/
def findI (l : List Tm) (s : ByteArray) : Int := match toksOf s with | none => 0 | some ts => if l.any (fitP ts) then (l.findIdx (fitP ts) : Nat) else 0
def findO (l : List Tm) (s : ByteArray) : Bool := match toksOf s with | none => false | some ts => l.any (fitP ts)
theorem e33 : Enters Try.prog 33 := enters_of Try.func33 (by kernel_rfl) rfl
set_option maxRecDepth 100000 in
theorem F33 (m : Hp) (va : Value) (l : List Tm) (s : ByteArray) (ha : Tms m va l) (hok : ∀ t ∈ l, t.Ok m) (hl : l.length ≤ 1099511627776) (htl : ∀ t ∈ l, t.toks.length ≤ 1099511627776) (hs : s.size ≤ 16777216) : RC Try.prog 33 #[va, .string s] m (.tuple #[.int .i64 (findI l s), .bool (findO l s)]) := by
  refine rc_of_gc fun m1 hm => gc_intro (vs := [_, _]) Try.func33 rfl Try.ntmps33 (by simp) ?_
  refine awp_rs (ao_r (rig_assign rfl rfl) rfl (ao_r (rig_assign rfl rfl) rfl (ao_nil ?_)))
  refine awp_rs (ao_r (rig_move rfl rfl) rfl ?_)
  refine ao_x (ex_call rfl rfl e17 (F17 m1 s hs)) rfl fun u m2 ⟨c, F, hD, hm2, hR⟩ => ?_
  subst hm2
  have hle2 : HpLe m1 (U [c, F, m1]) := le_at 2 hD rfl
  rcases hR with ⟨hno, rfl⟩ | ⟨ts, v, hts, rfl, hO⟩
  · refine ao_r (rig_move rfl rfl) rfl (ao_r (rig_extract rfl rfl rfl) rfl (ao_r (rig_extract rfl rfl rfl) rfl ?_))
    refine ao_var Try.zeroValue22 rfl rfl (fun t h => by cases h; rfl) Try.sizeOf22 rfl (by simp [Value.cells, Value.oneCell']) fun b6 m6 hl6 hc6 => ?_
    refine ao_r (rig_assign rfl rfl) rfl (ao_nil ?_)
    refine awp_sk fun K13 hK13 => awp_rs (ao_r (rig_move rfl rfl) rfl (ao_r (rig_not rfl rfl) rfl (ao_nil ?_)))
    refine awp_true rfl (awp_rs (ao_r (rig_assign rfl rfl) rfl (ao_r (rig_assign rfl rfl) rfl (ao_nil ?_))))
    exact awp_ret ⟨_, res2 Try.results33 rfl rfl, by rw [findI, findO, hno], hle2.trans hl6⟩
  · obtain ⟨At, ct, rfl⟩ := hO.len encS_len (by decide)
    refine ao_r (rig_move rfl rfl) rfl (ao_r (rig_extract rfl rfl rfl) rfl (ao_r (rig_extract rfl rfl rfl) rfl ?_))
    refine ao_var Try.zeroValue22 rfl rfl (fun t h => by cases h; rfl) Try.sizeOf22 rfl (by simp [Value.cells, Value.oneCell']) fun b6 m6 hl6 hc6 => ?_
    obtain ⟨h60, _⟩ := id hc6
    have hle6 := hle2.trans hl6
    refine ao_r (rig_assign rfl rfl) rfl (ao_nil ?_)
    refine awp_sk fun K13 hK13 => awp_rs (ao_r (rig_move rfl rfl) rfl (ao_r (rig_not rfl rfl) rfl (ao_nil ?_)))
    refine awp_false rfl (awp_skip (hK13 _ _ (awp_rs ?_)))
    refine ao_r (rig_makeFunc (fs := []) (cs := [_]) rfl rfl rfl) rfl (ao_r (rig_assign rfl rfl) rfl (ao_nil ?_))
    have h64 := F64 m6 va 61 #[.pointer (some ⟨b6, 0, none⟩)] l (fitP ts) (RdSl.le ha (hm.trans hle6)) hl e61 (fun x hx => by
      have := F61 m6 x b6 _ ts ((hok x hx).le (hm.trans hle6)) h60 (RdSl.le hO.rd ((le_at 0 hD rfl).trans hl6)) (htl x hx)
      simpa [fitP] using this)
    refine awp_sk fun K14 hK14 => awp_rs ?_
    refine ao_r (rig_move rfl rfl) rfl (ao_r (rig_move rfl rfl) rfl (ao_r (rig_call rfl rfl e64 h64) rfl (ao_r (rig_assign rfl rfl) rfl (ao_nil ?_))))
    refine awp_rs (ao_r (rig_move rfl rfl) rfl (ao_r (rig_geq rfl rfl rfl) rfl (ao_nil ?_)))
    unfold idxT
    cases hany : l.any (fitP ts) with
    | true =>
      rw [if_pos rfl]
      refine awp_if rfl (fun h => ?_) (fun h => absurd (Int.natCast_nonneg _) h)
      refine awp_rs (ao_r (rig_move rfl rfl) rfl (ao_r (rig_assign rfl rfl) rfl (ao_r (rig_assign rfl rfl) rfl (ao_nil ?_))))
      refine awp_ret ⟨_, res2 Try.results33 rfl rfl, ?_, hle6⟩
      rw [findI, findO, hts]
      simp only [hany, if_true]
    | false =>
      rw [if_neg (by decide)]
      refine awp_if rfl (fun h => absurd h (by decide)) (fun h => ?_)
      refine awp_skip (hK14 _ _ (awp_rs (ao_r (rig_assign rfl rfl) rfl (ao_r (rig_assign rfl rfl) rfl (ao_nil ?_)))))
      refine awp_ret ⟨_, res2 Try.results33 rfl rfl, ?_, hle6⟩
      rw [findI, findO, hts]
      simp only [hany, Bool.false_eq_true, if_false]
/-- On keys. -/
theorem findO_keys (l : List Tm) (s : ByteArray) : findO l s = match toksOf s with | none => false | some ts => (keys l).any fun a => fitsB a.1 ts := by
  unfold findO
  cases toksOf s with
  | none => rfl
  | some ts => show l.any (fitP ts) = (keys l).any _; rw [keys, List.any_map]; rfl
theorem findI_keys (l : List Tm) (s : ByteArray) : findI l s = match toksOf s with | none => 0 | some ts => if (keys l).any fun a => fitsB a.1 ts then ((keys l).findIdx fun a => fitsB a.1 ts : Nat) else 0 := by
  unfold findI
  cases toksOf s with
  | none => rfl
  | some ts =>
    have e1 : (keys l).any (fun a => fitsB a.1 ts) = l.any (fitP ts) := by rw [keys, List.any_map]; rfl
    have e2 : (keys l).findIdx (fun a => fitsB a.1 ts) = l.findIdx (fitP ts) := by rw [keys, List.findIdx_map]; rfl
    show (if l.any (fitP ts) = true then ((l.findIdx (fitP ts) : Nat) : Int) else 0) = (if (keys l).any (fun a => fitsB a.1 ts) = true then (((keys l).findIdx fun a => fitsB a.1 ts : Nat) : Int) else 0)
    rw [e1, e2]
end Go.Proofs.Ytmofaabndjnhjaa
/- The walks of the reference's Text and Find. -/
set_option linter.unusedVariables false
namespace Go.Proofs.Ytmofaabndjnhjaa
open Go Go.Aw Go.Pl Go.RowKit
theorem joinTail_snoc (sep : List UInt8) (r : List (List UInt8)) (y : List UInt8) : Lib.joinTail sep (r ++ [y]) = Lib.joinTail sep r ++ (sep ++ y) := by simp [Lib.joinTail]
theorem join_snoc (sep : List UInt8) {r : List (List UInt8)} (y : List UInt8) (h : r ≠ []) : Lib.join (r ++ [y]) sep = Lib.join r sep ++ (sep ++ y) := by
  cases r with
  | nil => exact absurd rfl h
  | cons x r => rw [List.cons_append, Lib.join_cons, Lib.join_cons, joinTail_snoc, List.append_assoc]
theorem B_app (a b : List UInt8) : B a ++ B b = B (a ++ b) := by
  apply ba_inj
  simp [ba_toList, B, ByteArray.data_append]
theorem B_data (s : ByteArray) : B s.data.toList = s := by cases s; simp [B]
theorem textB_snoc (l : List ByteArray) (y : ByteArray) : textB (l ++ [y]) = (if l = [] then textB l else textB l ++ B [32]) ++ starB y := by
  by_cases h : l = []
  · subst h
    rw [if_pos rfl]
    show B (Lib.join [(starB y).data.toList] [32]) = B [] ++ starB y
    rw [Lib.join_one, ← B_data (starB y), B_app, B_data]; rfl
  · rw [if_neg h]
    show B (Lib.join (((l ++ [y]).map starB).map (·.data.toList)) [32]) = B (Lib.join ((l.map starB).map (·.data.toList)) [32]) ++ B [32] ++ starB y
    rw [List.map_append, List.map_append, List.map_singleton, List.map_singleton, join_snoc _ _ (by simpa using h), B_app]
    conv => rhs; rw [← B_data (starB y)]
    rw [B_app, List.append_assoc]
theorem textB_size (l : List ByteArray) (hs : ∀ s ∈ l, s.size ≤ 16777216) : (textB l).size ≤ l.length * 16777217 := by
  have h5 := join_len ((l.map starB).map (·.data.toList)) 16777216 (fun z hz => by
    obtain ⟨t, ht, rfl⟩ := List.mem_map.1 hz
    obtain ⟨s, hs2, rfl⟩ := List.mem_map.1 ht
    have h6 := hs s hs2
    rw [size_len] at h6
    unfold starB
    split
    · decide
    · exact h6)
  simp only [List.length_map] at h5
  rw [size_len]
  show (Lib.join ((l.map starB).map (·.data.toList)) [32]).toArray.toList.length ≤ _
  exact h5
theorem e16 : Enters Try.prog 16 := enters_of Try.func16 (by kernel_rfl) rfl
theorem B_size (l : List UInt8) : (B l).size = l.length := by rw [size_len]; rfl
theorem app_size (a b : ByteArray) : (a ++ b).size = a.size + b.size := ByteArray.size_append
set_option maxHeartbeats 1000000 in
set_option maxRecDepth 100000 in
theorem F16 (m : Hp) (x : Tm) (hx : x.Ok m) (hl : x.toks.length ≤ 1048576) (hs : ∀ s ∈ x.toks, s.size ≤ 16777216) : RC Try.prog 16 #[x.val] m (.string (textB x.toks)) := by
  refine rc_of_gc fun m1 hm => gc_intro (vs := [_]) Try.func16 rfl Try.ntmps16 (by simp) ?_
  refine awp_rs ?_
  refine ao_x (ex_boxR rfl rfl) rfl fun v m2 ⟨p2, hv, hl2, hc2⟩ => ao_r (rig_assign rfl rfl) rfl (ao_nil ?_)
  subst hv
  obtain ⟨a0, a1, _⟩ := hc2
  have hx2 := hx.le (hm.trans hl2)
  have hn := hx.len
  refine awp_rs (ao_r (rig_assign rfl rfl) rfl (ao_nil ?_))
  refine awp_sk fun K36 hK36 => awp_rs (ao_r (rig_assign rfl rfl) rfl (ao_nil ?_))
  refine awp_block ?_
  refine awp_le [(1, .pointer (some ⟨p2, 0, none⟩)), (3, .string (textB (x.toks.take 0))), (4, .int .i64 (0 : Nat))] ⟨rfl, rfl, rfl, trivial⟩ ?_
  refine awp_loop (fun k r mm => ∃ i : Nat, i ≤ x.toks.length ∧ k = x.toks.length - i ∧ r = [(1, .pointer (some ⟨p2, 0, none⟩)), (3, .string (textB (x.toks.take i))), (4, .int .i64 i)] ∧ mm = m2) _ ⟨0, by omega, rfl, rfl, rfl⟩ ?_
  rintro k r mm ⟨i, hi, rfl, rfl, rfl⟩
  refine awp_sk fun K37 hK37 => awp_rs ?_
  refine ao_r (rig_move rfl rfl) rfl (ao_r (rig_fieldAddr rfl rfl Try.underlying33 rfl Try.sizeOf22 rfl) rfl (ao_r (rig_load1 rfl rfl Try.isAgg22 a0) rfl (ao_r (rig_lenSl rfl rfl Try.underlying22) rfl (ao_r (rig_lss rfl rfl rfl) rfl (ao_nil ?_)))))
  refine awp_if rfl (fun h => ?_) (fun h => ?_)
  · have hil : i < x.toks.length := by omega
    obtain ⟨y, hy⟩ := get_lt hil
    obtain ⟨bt, ot, hAt, hct⟩ := hx2.get hy
    have hys := hs y (List.mem_of_getElem? hy)
    have hsz := textB_size (x.toks.take i) fun s h => hs s (List.mem_of_mem_take h)
    rw [List.length_take, Nat.min_eq_left hi] at hsz
    have hsz2 : (textB (x.toks.take i)).size ≤ 17592187092992 := (by omega)
    have hstep := textB_snoc (x.toks.take i) y
    rw [← take_succ_get hy] at hstep
    refine awp_skip (hK37 _ _ (awp_sk fun K38 hK38 => awp_block ?_))
    have hfin : ∀ r', EnvLe [(1, .pointer (some ⟨p2, 0, none⟩)), (3, .string (textB (x.toks.take (i + 1)))), (4, .int .i64 i)] r' → K38 r' mm := fun r' hr => by
      refine hK38 _ _ (awp_le _ hr (awp_region ?_))
      refine ao_r (rig_move rfl rfl) rfl (ao_r (rig_add (c := ((i + 1 : Nat) : Int)) rfl rfl rfl (w64 _ (by omega) (by omega))) rfl (ao_r (rig_assign rfl rfl) rfl (ao_nil ?_)))
      exact ⟨[(1, .pointer (some ⟨p2, 0, none⟩)), (3, .string (textB (x.toks.take (i + 1)))), (4, .int .i64 (i + 1 : Nat))], _, ⟨rfl, rfl, rfl, trivial⟩, by omega, i + 1, by omega, rfl, rfl, rfl⟩
    refine awp_mid (fun r m' => m' = mm ∧ ∃ s : ByteArray, s = (if x.toks.take i = [] then textB (x.toks.take i) else textB (x.toks.take i) ++ B [32]) ∧ r = [(1, .pointer (some ⟨p2, 0, none⟩)), (3, .string s), (4, .int .i64 i)]) (awp_rs ?_) ?_
    · refine ao_r (rig_move rfl rfl) rfl (ao_r (rig_gtr rfl rfl rfl) rfl (ao_nil ?_))
      refine awp_if rfl (fun h2 => ?_) (fun h2 => ?_)
      · refine awp_region ?_
        refine ao_r (rig_move rfl rfl) rfl (ao_r (rig_sadd rfl rfl rfl ?_) rfl (ao_r (rig_assign rfl rfl) rfl (ao_nil ?_)))
        · have h1 : (B [32]).size = 1 := rfl
          exact Nat.le_trans (Nat.add_le_add_right hsz2 _) (by rw [show (⟨#[32]⟩ : ByteArray) = B [32] from rfl, h1]; omega)
        · refine ⟨[(1, .pointer (some ⟨p2, 0, none⟩)), (3, .string (textB (x.toks.take i) ++ B [32])), (4, .int .i64 i)], ⟨rfl, rfl, rfl, trivial⟩, rfl, _, ?_, rfl⟩
          rw [if_neg (fun e => by have := congrArg List.length e; rw [List.length_take] at this; simp only [List.length_nil] at this; omega)]
      · refine awp_skip ⟨[(1, .pointer (some ⟨p2, 0, none⟩)), (3, .string (textB (x.toks.take i))), (4, .int .i64 i)], ⟨rfl, rfl, rfl, trivial⟩, rfl, _, ?_, rfl⟩
        rw [if_pos (List.eq_nil_of_length_eq_zero (by rw [List.length_take]; omega))]
    rintro r m' ⟨rfl, s, hse, rfl⟩
    have hss : s.size ≤ 17592187092992 + 1 := by
      rw [hse]
      split
      · omega
      · rw [app_size, B_size]; simp only [List.length_singleton]; omega
    rw [← hse] at hstep
    refine awp_mid (fun r m'' => m'' = m' ∧ ∃ s2 : ByteArray, s2 ++ y = s ++ starB y ∧ s2.size ≤ 17592187092992 + 4 ∧ r = [(1, .pointer (some ⟨p2, 0, none⟩)), (3, .string s2), (4, .int .i64 i)]) (awp_rs ?_) ?_
    · refine ao_r (rig_fieldAddr rfl rfl Try.underlying33 rfl Try.sizeOf22 rfl) rfl (ao_r (rig_load1 rfl rfl Try.isAgg22 a0) rfl (ao_r (rig_move rfl rfl) rfl (ao_r (rig_ix i rfl rfl rfl Try.underlying22 Try.sizeOf9 hAt rfl (by omega)) rfl (ao_r (rig_load1 rfl rfl Try.isAgg9 hct) rfl (ao_r (rig_seql rfl rfl rfl) rfl (ao_nil ?_))))))
      refine awp_if rfl (fun h2 => ?_) (fun h2 => ?_)
      · refine awp_region ?_
        refine ao_r (rig_move rfl rfl) rfl (ao_r (rig_sadd rfl rfl rfl ?_) rfl (ao_r (rig_assign rfl rfl) rfl (ao_nil ?_)))
        · have h1 : (B [60, 42, 62]).size = 3 := rfl
          exact Nat.le_trans (Nat.add_le_add_right hss _) (by rw [show (⟨#[60, 42, 62]⟩ : ByteArray) = B [60, 42, 62] from rfl, h1]; omega)
        · refine ⟨[(1, .pointer (some ⟨p2, 0, none⟩)), (3, .string (s ++ B [60, 42, 62])), (4, .int .i64 i)], ⟨rfl, rfl, rfl, trivial⟩, rfl, _, ?_, ?_, rfl⟩
          · have h2e : y = em := h2
            rw [starB, if_pos h2e, h2e, ← em_B, ← B_data s, B_app, B_app, List.append_nil]
          · rw [app_size, B_size]; simp only [List.length_cons, List.length_nil]; omega
      · exact awp_skip ⟨[(1, .pointer (some ⟨p2, 0, none⟩)), (3, .string s), (4, .int .i64 i)], ⟨rfl, rfl, rfl, trivial⟩, rfl, s, by rw [starB, if_neg (show ¬ y = em from h2)], by omega, rfl⟩
    · rintro r m'' ⟨rfl, s2, hs2, hs3, rfl⟩
      refine awp_region ?_
      refine ao_r (rig_move rfl rfl) rfl (ao_r (rig_fieldAddr rfl rfl Try.underlying33 rfl Try.sizeOf22 rfl) rfl (ao_r (rig_load1 rfl rfl Try.isAgg22 a0) rfl (ao_r (rig_move rfl rfl) rfl (ao_r (rig_ix i rfl rfl rfl Try.underlying22 Try.sizeOf9 hAt rfl (by omega)) rfl (ao_r (rig_load1 rfl rfl Try.isAgg9 hct) rfl (ao_r (rig_sadd rfl rfl rfl (by omega)) rfl (ao_r (rig_assign rfl rfl) rfl (ao_nil ?_))))))))
      rw [hs2, ← hstep]
      exact hfin _ ⟨rfl, rfl, rfl, trivial⟩
  · obtain rfl : i = x.toks.length := by omega
    rw [List.take_length]
    refine awp_exit (hK36 _ _ (awp_rs (ao_r (rig_move rfl rfl) rfl (ao_r (rig_assign rfl rfl) rfl (ao_nil ?_)))))
    exact awp_ret ⟨_, res1 Try.results16 rfl, rfl, hl2⟩
theorem toksOf_len {s : ByteArray} {ts : List ByteArray} (h : toksOf s = some ts) : 1 ≤ ts.length ∧ ts.length ≤ 60 := by
  unfold toksOf at h
  split at h
  · cases h
  · rename_i h2
    rw [← Option.some.inj h, List.length_map]; omega
theorem e34 : Enters Try.prog 34 := enters_of Try.func34 (by kernel_rfl) rfl
set_option maxHeartbeats 2000000 in
set_option maxRecDepth 100000 in
theorem F34 (m : Hp) (va : Value) (l : List Tm) (s : ByteArray) (ha : Tms m va l) (hok : ∀ t ∈ l, t.Ok m) (hl : l.length ≤ 1099511627776) (htl : ∀ t ∈ l, t.toks.length ≤ 1099511627776) (hs : s.size ≤ 16777216) : RC Try.prog 34 #[va, .string s] m (.tuple #[.int .i64 (findI l s), .bool (findO l s)]) := by
  obtain ⟨A, ca, rfl, _⟩ := RdSl.form encT_len (by decide) ha
  refine rc_of_gc fun m1 hm => gc_intro (vs := [_, _]) Try.func34 rfl Try.ntmps34 (by simp) ?_
  refine awp_rs (ao_r (rig_assign rfl rfl) rfl (ao_r (rig_assign rfl rfl) rfl (ao_nil ?_)))
  refine awp_rs (ao_r (rig_move rfl rfl) rfl ?_)
  refine ao_x (ex_call rfl rfl e18 (F18 m1 s hs)) rfl fun u m2 ⟨c, F, hD, hm2, hR⟩ => ?_
  have hle2 : HpLe m1 m2 := by rw [hm2]; exact le_at 2 hD rfl
  rcases hR with ⟨hno, rfl⟩ | ⟨ts, v, hts, rfl, hO⟩
  · refine ao_r (rig_move rfl rfl) rfl (ao_r (rig_extract rfl rfl rfl) rfl (ao_r (rig_extract rfl rfl rfl) rfl (ao_r (rig_assign rfl rfl) rfl (ao_r (rig_assign rfl rfl) rfl (ao_nil ?_)))))
    refine awp_sk fun K29 hK29 => awp_rs (ao_r (rig_move rfl rfl) rfl (ao_r (rig_not rfl rfl) rfl (ao_nil ?_)))
    refine awp_true rfl (awp_rs (ao_r (rig_assign rfl rfl) rfl (ao_r (rig_assign rfl rfl) rfl (ao_nil ?_))))
    exact awp_ret ⟨_, res2 Try.results34 rfl rfl, by rw [findI, findO, hno], hle2⟩
  · obtain ⟨At, ct, rfl⟩ := hO.len encS_len (by decide)
    have hrd : Strs m2 (.slice At ts.length ct) ts := by rw [hm2]; exact RdSl.le hO.rd (le_at 0 hD rfl)
    have htl2 : ts.length ≤ 60 := (toksOf_len hts).2
    have ha' := RdSl.le ha (hm.trans hle2)
    refine ao_r (rig_move rfl rfl) rfl (ao_r (rig_extract rfl rfl rfl) rfl (ao_r (rig_extract rfl rfl rfl) rfl (ao_r (rig_assign rfl rfl) rfl (ao_r (rig_assign rfl rfl) rfl (ao_nil ?_)))))
    refine awp_sk fun K29 hK29 => awp_rs (ao_r (rig_move rfl rfl) rfl (ao_r (rig_not rfl rfl) rfl (ao_nil ?_)))
    refine awp_false rfl (awp_skip (hK29 _ _ (awp_sk fun K30 hK30 => awp_rs (ao_r (rig_assign rfl rfl) rfl (ao_nil ?_)))))
    refine awp_block ?_
    refine awp_le [(0, .slice A l.length ca), (6, .slice At ts.length ct), (8, .int .i64 (0 : Nat))] ⟨rfl, rfl, rfl, trivial⟩ ?_
    refine awp_loop (fun k r mm => ∃ i : Nat, i ≤ l.length ∧ k = l.length - i ∧ r = [(0, .slice A l.length ca), (6, .slice At ts.length ct), (8, .int .i64 i)] ∧ mm = m2 ∧ ∀ t ∈ l.take i, fitP ts t = false) _ ⟨0, by omega, rfl, rfl, rfl, by simp⟩ ?_
    rintro k r mm ⟨i, hi, rfl, rfl, rfl, hbef⟩
    refine awp_sk fun K31 hK31 => awp_rs ?_
    refine ao_r (rig_move rfl rfl) rfl (ao_r (rig_move rfl rfl) rfl (ao_r (rig_lenSl rfl rfl Try.underlying29) rfl (ao_r (rig_lss rfl rfl rfl) rfl (ao_nil ?_))))
    refine awp_if rfl (fun h => ?_) (fun h => ?_)
    · have hil : i < l.length := by omega
      obtain ⟨y, hy⟩ := get_lt hil
      have hym := List.mem_of_getElem? hy
      obtain ⟨b, off, cap', e, hyc⟩ := Tms.get ha' hy
      simp only [Value.slice.injEq] at e
      obtain ⟨rfl, _, rfl⟩ := e
      have hyok := (hok y hym).le (hm.trans hle2)
      have hyn := hyok.len
      have hyl := htl y hym
      obtain ⟨y0, y1, _⟩ := id hyc
      refine awp_skip (hK31 _ _ (awp_sk fun K32 hK32 => awp_block (awp_rs ?_)))
      refine ao_r (rig_move rfl rfl) rfl (ao_r (rig_move rfl rfl) rfl (ao_r (rig_ix i rfl rfl rfl Try.underlying29 Try.sizeOf33 rfl rfl hil) rfl (ao_r (rig_fieldAddr rfl rfl Try.underlying33 rfl Try.sizeOf22 rfl) rfl (ao_r (rig_load1 rfl rfl Try.isAgg22 y0) rfl (ao_r (rig_lenSl rfl rfl Try.underlying22) rfl (ao_r (rig_move rfl rfl) rfl (ao_r (rig_lenSl rfl rfl Try.underlying22) rfl (ao_r (rig_eql rfl rfl rfl) rfl (ao_r (rig_assign rfl rfl) rfl (ao_nil ?_))))))))))
      rw [show decide ((y.n : Int) = (ts.length : Int)) = decide (y.toks.length = ts.length) by rw [decide_eq_decide, hyn]; omega]
      refine awp_mid (fun r m' => m' = mm ∧ r = [(0, .slice (some ⟨b, off, none⟩) l.length ca), (6, .slice At ts.length ct), (8, .int .i64 i), (9, .bool (fitP ts y))]) (awp_rs (ao_r (rig_assign rfl rfl) rfl (ao_nil (awp_block ?_)))) ?_
      · refine awp_le [(0, .slice (some ⟨b, off, none⟩) l.length ca), (6, .slice At ts.length ct), (8, .int .i64 i), (9, .bool (decide (y.toks.length = ts.length))), (10, .int .i64 (0 : Nat))] ⟨rfl, rfl, rfl, rfl, rfl, trivial⟩ ?_
        refine awp_loop (fun kk r m' => ∃ (k : Nat) (fi : Bool), k ≤ ts.length ∧ kk = ts.length - k ∧ r = [(0, .slice (some ⟨b, off, none⟩) l.length ca), (6, .slice At ts.length ct), (8, .int .i64 i), (9, .bool fi), (10, .int .i64 k)] ∧ m' = mm ∧ (fi = false → fitP ts y = false) ∧ (fi = true → y.toks.length = ts.length ∧ ((y.toks.zip ts).take k).all (fun x => fit1 x.1 x.2) = true)) _
          ⟨0, _, by omega, rfl, rfl, rfl, fun h => by rw [fitP, fitsB, h]; rfl, fun h => ⟨of_decide_eq_true h, rfl⟩⟩ ?_
        rintro kk r m' ⟨k, fi, hk, rfl, rfl, rfl, hf0, hf1⟩
        refine awp_sk fun K34 hK34 => awp_rs ?_
        refine ao_r (rig_move rfl rfl) rfl (ao_r (rig_move rfl rfl) rfl ?_)
        cases fi with
        | false =>
          refine ao_no rfl rfl rfl rfl (ao_no rfl rfl rfl rfl (ao_no rfl rfl rfl rfl (ao_no rfl rfl rfl rfl (ao_r (rig_pickF rfl rfl rfl) rfl (ao_nil ?_)))))
          refine awp_false rfl (awp_exit ⟨[(0, .slice (some ⟨b, off, none⟩) l.length ca), (6, .slice At ts.length ct), (8, .int .i64 i), (9, .bool (fitP ts y))], ?_, rfl, rfl⟩)
          rw [hf0 rfl]
          exact ⟨rfl, rfl, rfl, rfl, trivial⟩
        | true =>
          obtain ⟨hle, hall⟩ := hf1 rfl
          refine ao_on rfl rfl (ao_r (rig_move rfl rfl) rfl ?_)
          refine ao_on rfl rfl (ao_r (rig_move rfl rfl) rfl ?_)
          refine ao_on rfl rfl (ao_r (rig_lenSl rfl rfl Try.underlying22) rfl ?_)
          refine ao_on rfl rfl (ao_r (rig_lss rfl rfl rfl) rfl ?_)
          refine ao_r (rig_pickT rfl rfl rfl) rfl (ao_nil ?_)
          refine awp_if rfl (fun h2 => ?_) (fun h2 => ?_)
          · obtain ⟨p, hp⟩ := get_lt (l := y.toks) (i := k) (by omega)
            obtain ⟨q, hq⟩ := get_lt (l := ts) (i := k) (by omega)
            obtain ⟨bp, op, hAp, hcp⟩ := hyok.get hp
            obtain ⟨bq, oq1, cq, eq, hcq⟩ := Strs.get hrd hq
            simp only [Value.slice.injEq] at eq
            obtain ⟨rfl, _, rfl⟩ := eq
            have hz := zip_take_all hp hq
            rw [hall, Bool.true_and] at hz
            refine awp_skip (hK34 _ _ (awp_sk fun K35 hK35 => awp_block ?_))
            have hstep : ∀ (b' : Bool), b' = fit1 p q → ∀ r', EnvLe [(0, .slice (some ⟨b, off, none⟩) l.length ca), (6, .slice (some ⟨bq, oq1, none⟩) ts.length ct), (8, .int .i64 i), (9, .bool b'), (10, .int .i64 k)] r' → K35 r' m' := fun b' hb' r' hr => by
              refine hK35 _ _ (awp_le _ hr (awp_region ?_))
              refine ao_r (rig_move rfl rfl) rfl (ao_r (rig_add (c := ((k + 1 : Nat) : Int)) rfl rfl rfl (w64 _ (by omega) (by omega))) rfl (ao_r (rig_assign rfl rfl) rfl (ao_nil ?_)))
              refine ⟨[(0, .slice (some ⟨b, off, none⟩) l.length ca), (6, .slice (some ⟨bq, oq1, none⟩) ts.length ct), (8, .int .i64 i), (9, .bool b'), (10, .int .i64 (k + 1 : Nat))], _, ⟨rfl, rfl, rfl, rfl, rfl, trivial⟩, by omega, k + 1, b', by omega, rfl, rfl, rfl, fun hf => ?_, fun ht => ⟨hle, by rw [hz, ← hb', ht]⟩⟩
              rw [← hb', hf] at hz
              rw [fitP, fitsB, all_take_false hz, Bool.and_false]
            refine awp_draw (.q 0 (.q 1 (.q 2 (.q 3 (.q 4 (.q 5 (.q 6 (.q 7 (.q 8 (.q 9 (.q 10 (.q 11 (.q 12 (.q 13 (.q 14 (.q 15 (.q 16 (.q 17 (.q 18 (.q 19 (.q 20 (.q 21 (.q 22 (.q 23 (.q 24 .fin))))))))))))))))))))))))) [] (by kernel_rfl) (by kernel_rfl) ?_
            refine oq rfl (rig_move rfl rfl) rfl (oq rfl (rig_move rfl rfl) rfl (oq rfl (rig_ix i rfl rfl rfl Try.underlying29 Try.sizeOf33 rfl rfl hil) rfl (oq rfl (rig_fieldAddr rfl rfl Try.underlying33 rfl Try.sizeOf22 rfl) rfl (oq rfl (rig_load1 rfl rfl Try.isAgg22 y0) rfl (oq rfl (rig_move rfl rfl) rfl (oq rfl (rig_ix k rfl rfl rfl Try.underlying22 Try.sizeOf9 hAp rfl (by omega)) rfl (oq rfl (rig_load1 rfl rfl Try.isAgg9 hcp) rfl (oq rfl (rig_seql rfl rfl rfl) rfl (oq rfl (rig_move rfl rfl) rfl (?_))))))))))
            by_cases he : p = ⟨#[]⟩
            · rw [decide_eq_true he]
              refine oqno rfl rfl rfl rfl rfl (oqno rfl rfl rfl rfl rfl (oqno rfl rfl rfl rfl rfl (oqno rfl rfl rfl rfl rfl (oqno rfl rfl rfl rfl rfl (oqno rfl rfl rfl rfl rfl (oqno rfl rfl rfl rfl rfl (oqno rfl rfl rfl rfl rfl (oqno rfl rfl rfl rfl rfl (oqno rfl rfl rfl rfl rfl (oqno rfl rfl rfl rfl rfl (oqno rfl rfl rfl rfl rfl (oqno rfl rfl rfl rfl rfl ?_))))))))))))
              refine oq rfl (rig_pickT rfl rfl rfl) rfl (oq rfl (rig_assign rfl rfl) rfl (od_fin ?_))
              exact hstep true (by rw [fit1, decide_eq_true (show p = em from he)]; rfl) _ ⟨rfl, rfl, rfl, rfl, rfl, trivial⟩
            · rw [decide_eq_false he]
              refine oqon rfl rfl rfl (rig_move rfl rfl) rfl ?_
              refine oqon rfl rfl rfl (rig_move rfl rfl) rfl ?_
              refine oqon rfl rfl rfl (rig_ix i rfl rfl rfl Try.underlying29 Try.sizeOf33 rfl rfl hil) rfl ?_
              refine oqon rfl rfl rfl (rig_fieldAddr rfl rfl Try.underlying33 rfl Try.sizeOf22 rfl) rfl ?_
              refine oqon rfl rfl rfl (rig_load1 rfl rfl Try.isAgg22 y0) rfl ?_
              refine oqon rfl rfl rfl (rig_move rfl rfl) rfl ?_
              refine oqon rfl rfl rfl (rig_ix k rfl rfl rfl Try.underlying22 Try.sizeOf9 hAp rfl (by omega)) rfl ?_
              refine oqon rfl rfl rfl (rig_load1 rfl rfl Try.isAgg9 hcp) rfl ?_
              refine oqon rfl rfl rfl (rig_move rfl rfl) rfl ?_
              refine oqon rfl rfl rfl (rig_move rfl rfl) rfl ?_
              refine oqon rfl rfl rfl (rig_ix k rfl rfl rfl Try.underlying22 Try.sizeOf9 rfl rfl (by omega)) rfl ?_
              refine oqon rfl rfl rfl (rig_load1 rfl rfl Try.isAgg9 hcq) rfl ?_
              refine oqon rfl rfl rfl (rig_seql rfl rfl rfl) rfl ?_
              refine oq rfl (rig_pickF rfl rfl rfl) rfl (oq rfl (rig_assign rfl rfl) rfl (od_fin ?_))
              exact hstep (decide (p = q)) (by rw [fit1, decide_eq_false (show ¬ p = em from he)]; rfl) _ ⟨rfl, rfl, rfl, rfl, rfl, trivial⟩
          · refine awp_exit ⟨[(0, .slice (some ⟨b, off, none⟩) l.length ca), (6, .slice At ts.length ct), (8, .int .i64 i), (9, .bool (fitP ts y))], ?_, rfl, rfl⟩
            have : fitP ts y = true := by
              rw [List.take_of_length_le (by rw [List.length_zip]; omega)] at hall
              rw [fitP, fitsB, decide_eq_true hle, hall]; rfl
            rw [this]
            exact ⟨rfl, rfl, rfl, rfl, trivial⟩
      · rintro r m' ⟨rfl, rfl⟩
        refine awp_rs (ao_r (rig_move rfl rfl) rfl (ao_nil ?_))
        refine awp_cond rfl (fun h2 => ?_) (fun h2 => ?_)
        · refine awp_rs (ao_r (rig_move rfl rfl) rfl (ao_r (rig_assign rfl rfl) rfl (ao_r (rig_assign rfl rfl) rfl (ao_nil ?_))))
          have hany : l.any (fitP ts) = true := List.any_eq_true.2 ⟨y, hym, h2⟩
          have hidx : l.findIdx (fitP ts) = i := by
            refine (List.findIdx_eq hil).2 ⟨by rw [(List.getElem?_eq_some_iff.1 hy).2]; exact h2, fun j hji => ?_⟩
            exact hbef _ (List.mem_iff_getElem?.2 ⟨j, by rw [List.getElem?_take_of_lt hji, List.getElem?_eq_getElem]⟩)
          refine awp_ret ⟨_, res2 Try.results34 rfl rfl, ?_, hle2⟩
          rw [findI, findO, hts]
          simp only [hany, if_true, hidx]
        · refine awp_skip (hK32 _ _ (awp_region ?_))
          refine ao_r (rig_move rfl rfl) rfl (ao_r (rig_add (c := ((i + 1 : Nat) : Int)) rfl rfl rfl (w64 _ (by omega) (by omega))) rfl (ao_r (rig_assign rfl rfl) rfl (ao_nil ?_)))
          refine ⟨[(0, .slice (some ⟨b, off, none⟩) l.length ca), (6, .slice At ts.length ct), (8, .int .i64 (i + 1 : Nat))], _, ⟨rfl, rfl, rfl, trivial⟩, by omega, i + 1, by omega, rfl, rfl, rfl, fun t ht => ?_⟩
          rw [take_succ_get hy] at ht
          rcases List.mem_append.1 ht with h3 | h3
          · exact hbef t h3
          · rw [List.mem_singleton.1 h3]; exact h2
    · obtain rfl : i = l.length := by omega
      rw [List.take_length] at hbef
      have hany : l.any (fitP ts) = false := List.any_eq_false.2 fun t ht => by rw [hbef t ht]; decide
      refine awp_exit (hK30 _ _ (awp_rs (ao_r (rig_assign rfl rfl) rfl (ao_r (rig_assign rfl rfl) rfl (ao_nil ?_)))))
      refine awp_ret ⟨_, res2 Try.results34 rfl rfl, ?_, hle2⟩
      rw [findI, findO, hts]
      simp only [hany, Bool.false_eq_true, if_false]
end Go.Proofs.Ytmofaabndjnhjaa
