/- Chapter 7, the reference: directories, and what is only read of them. -/
import Derived.Test.YtbonkkbpjlikjaaHeap
import Derived.Test.YtbonkkbpjlikjaaChoices
set_option linter.unusedVariables false
set_option linter.unusedSimpArgs false
namespace Go.Aw
open Go Go.RowKit
/-! ### 1. Results in cells -/
section
variable {P : Program} {fn : Func} {r : Env} {m : Hp}
theorem resC {t : Tmp} {T : TypeId} {b : Nat} {vs : List Value} (hr : fn.results = #[.cell t T]) (h : r.get t = some (.pointer (some ⟨b, 0, none⟩))) (hT : ∀ w, (isAgg T).run P w = .ok true w) (hz : ∀ w, (sizeOf T).run P w = .ok vs.length w) (hc : CellsAt m b 0 vs) : Res P fn r m (.agg vs.toArray) := fun n sg a w hf hs => by
  have hl : (loadCellsFrom ⟨b, 0, none⟩ 0 vs.length #[]).run P w = .ok vs.toArray w := run_loadCells_Sat hs hc
  simp [results, hr, go_sem, hf.rep t _ h, asAddr, loadVar, hT, hz, hl]
theorem resC2 {t t2 : Tmp} {T : TypeId} {b : Nat} {vs : List Value} {v2 : Value} (hr : fn.results = #[.cell t T, .tmp t2]) (h : r.get t = some (.pointer (some ⟨b, 0, none⟩))) (h2 : r.get t2 = some v2) (hT : ∀ w, (isAgg T).run P w = .ok true w) (hz : ∀ w, (sizeOf T).run P w = .ok vs.length w) (hc : CellsAt m b 0 vs) : Res P fn r m (.tuple #[.agg vs.toArray, v2]) := fun n sg a w hf hs => by
  have hl : (loadCellsFrom ⟨b, 0, none⟩ 0 vs.length #[]).run P w = .ok vs.toArray w := run_loadCells_Sat hs hc
  simp [results, hr, go_sem, hf.rep t _ h, hf.rep t2 _ h2, asAddr, loadVar, hT, hz, hl]
end
/-! ### 2. The first place of a list -/
theorem takeS {α : Type} {l : List α} {i : Nat} {x : α} (hx : l[i]? = some x) : l.take (i + 1) = l.take i ++ [x] := by
  obtain ⟨h1, h2⟩ := List.getElem?_eq_some_iff.1 hx
  rw [List.take_succ_eq_append_getElem h1, h2]
def idxG {α : Type} (p : α → Bool) (l : List α) : Int := if l.any p then (l.findIdx p : Nat) else -1
theorem any_takeG {α : Type} {p : α → Bool} {l : List α} {i : Nat} {x : α} (hx : l[i]? = some x) (h : (l.take i).any p = false) : (l.take (i + 1)).any p = p x := by
  obtain ⟨h1, h2⟩ := List.getElem?_eq_some_iff.1 hx
  rw [List.take_succ_eq_append_getElem h1, h2, List.any_append, h]
  simp
theorem idxG_hit {α : Type} {p : α → Bool} {l : List α} {i : Nat} {x : α} (hx : l[i]? = some x) (h : (l.take i).any p = false) (hp : p x = true) : idxG p l = i := by
  obtain ⟨h1, h2⟩ := List.getElem?_eq_some_iff.1 hx
  have ha : l.any p = true := List.any_eq_true.2 ⟨x, List.mem_of_getElem? hx, hp⟩
  rw [idxG, if_pos ha]
  congr 1
  rw [List.findIdx_eq h1]
  refine ⟨by rw [h2]; exact hp, fun j hj => ?_⟩
  rw [Bool.eq_false_iff]
  intro hq
  rw [List.any_eq_false] at h
  exact h l[j] (by rw [List.mem_take_iff_getElem]; exact ⟨j, by omega, rfl⟩) hq
theorem idxG_none {α : Type} {p : α → Bool} {l : List α} (h : l.any p = false) : idxG p l = -1 := by rw [idxG, if_neg (by simp [h])]
theorem idxG_some {α : Type} {p : α → Bool} {l : List α} (h : 0 ≤ idxG p l) : ∃ (i : Nat) (x : α), idxG p l = i ∧ l[i]? = some x ∧ p x = true := by
  unfold idxG at h ⊢
  split at h
  · rename_i ha
    obtain ⟨x, hx, hp⟩ := List.any_eq_true.1 ha
    have hlt : l.findIdx p < l.length := List.findIdx_lt_length.2 ⟨x, hx, hp⟩
    exact ⟨_, l[l.findIdx p], by rw [if_pos ha], by simp [hlt], List.findIdx_getElem⟩
  · omega
theorem idxG_any {α : Type} {p : α → Bool} {l : List α} : 0 ≤ idxG p l ↔ l.any p = true := by
  unfold idxG; split
  · rename_i h; exact ⟨fun _ => h, fun _ => by omega⟩
  · rename_i h; exact ⟨fun h2 => by omega, fun h2 => absurd h2 h⟩
/-! ### 3. Names, files -/
structure Nm where
  nm : ByteArray
  ino : Int
def encN (n : Nm) : List Value := [.string n.nm, .int .i64 n.ino]
theorem encN_len (n : Nm) : (encN n).length = 2 := rfl
structure Fl where
  ino : Int
  A : Option Addr
  n : Nat
  cap : Nat
  data : List UInt8
  copy : Bool
  whole : Bool
  left : Int
def encF (f : Fl) : List Value := [.int .i64 f.ino, .slice f.A f.n f.cap, .bool f.copy, .bool f.whole, .int .i64 f.left]
theorem encF_len (f : Fl) : (encF f).length = 5 := rfl
def Fl.val (f : Fl) : Value := .agg #[.int .i64 f.ino, .slice f.A f.n f.cap, .bool f.copy, .bool f.whole, .int .i64 f.left]
def Fl.Ok (m : Hp) (f : Fl) : Prop := RdSl m encB 1 (.slice f.A f.n f.cap) f.data ∧ f.data.length ≤ f.cap
theorem Fl.Ok.le {m m' : Hp} {f : Fl} (h : f.Ok m) (hl : HpLe m m') : f.Ok m' := ⟨RdSl.le h.1 hl, h.2⟩
theorem Fl.Ok.len {m : Hp} {f : Fl} (h : f.Ok m) : f.n = f.data.length := by
  obtain ⟨A, cap, e, _⟩ := RdSl.form encB_len (by decide) h.1
  simp at e
  exact e.2.1
def encZ (i : Int) : List Value := [.int .i64 i]
theorem encZ_len (i : Int) : (encZ i).length = 1 := rfl
theorem encN_one (n : Nm) : ∀ q ∈ encN n, q.oneCell' = true := by
  intro q hq; simp [encN] at hq; rcases hq with rfl | rfl <;> rfl
theorem encF_one (f : Fl) : ∀ q ∈ encF f, q.oneCell' = true := by
  intro q hq; simp [encF] at hq; rcases hq with rfl | rfl | rfl | rfl | rfl <;> rfl
theorem encZ_one (i : Int) : ∀ q ∈ encZ i, q.oneCell' = true := by
  intro q hq; simp [encZ] at hq; subst hq; rfl
/-- An element of a row that is read. -/
theorem RdSl.get_ {α : Type} {enc : α → List Value} {k : Nat} (hk : ∀ x, (enc x).length = k) (h0 : 0 < k) {m : Hp} {v : Value} {l : List α} (h : RdSl m enc k v l) {i : Nat} {x : α} (hi : l[i]? = some x) : ∃ b off cap, v = .slice (some ⟨b, off, none⟩) l.length cap ∧ CellsAt m b (off + i * k) (enc x) := by
  obtain ⟨A, cap, rfl, hc⟩ := RdSl.form hk h0 h
  have hlt := (List.getElem?_eq_some_iff.1 hi).1
  obtain ⟨b, off, rfl, hC⟩ := hc.resolve_left (fun e => by simp [e] at hlt)
  exact ⟨b, off, cap, rfl, hC.elem hk hi⟩
/-- A directory's value, as it is read. -/
structure Dir (m : Hp) (vn vf vo : Value) (ns : List Nm) (fs : List Fl) (os : List Int) : Prop where
  n : RdSl m encN 2 vn ns
  f : RdSl m encF 5 vf fs
  o : RdSl m encZ 1 vo os
  d : ∀ x ∈ fs, x.Ok m
theorem Dir.le {m m' : Hp} {vn vf vo : Value} {ns : List Nm} {fs : List Fl} {os : List Int} (h : Dir m vn vf vo ns fs os) (hl : HpLe m m') : Dir m' vn vf vo ns fs os := ⟨RdSl.le h.n hl, RdSl.le h.f hl, RdSl.le h.o hl, fun x hx => (h.d x hx).le hl⟩
end Go.Aw
namespace Go.Proofs.Ytbonkkbpjlikjaa
open Go Go.Aw Go.RowKit
def inoIs (n : Int) (f : Fl) : Bool := decide (f.ino = n)
theorem e21 : Enters Try.prog 21 := enters_of Try.func21 (by kernel_rfl) rfl
set_option maxRecDepth 100000 in
theorem F21 (m : Hp) (vn vf vo : Value) (fs : List Fl) (n : Int) (hf : RdSl m encF 5 vf fs) (hl : fs.length ≤ 1048576) : RC Try.prog 21 #[.agg #[vn, vf, vo], .int .i64 n] m (.int .i64 (idxG (inoIs n) fs)) := by
  obtain ⟨A, ca, rfl, _⟩ := RdSl.form encF_len (by decide) hf
  refine rc_of_gc fun m1 hm => gc_intro (vs := [_, _]) Try.func21 rfl Try.ntmps21 (by simp) ?_
  refine awp_rs ?_
  refine ao_x (ex_boxR rfl rfl) rfl fun v m2 ⟨p2, hv, hl2, hc2⟩ => ao_r (rig_assign rfl rfl) rfl (ao_nil ?_)
  subst hv
  have hm2 := hm.trans hl2
  obtain ⟨d0, d1, d2, _⟩ := id hc2
  refine awp_sk fun K1 hK1 => awp_rs (ao_r (rig_assign rfl rfl) rfl (ao_nil ?_))
  refine awp_block ?_
  refine awp_le [(1, .int .i64 n), (2, .pointer (some ⟨p2, 0, none⟩)), (5, .int .i64 (0 : Nat))] ⟨rfl, rfl, rfl, trivial⟩ ?_
  refine awp_loop (fun k r mm => ∃ i : Nat, i ≤ fs.length ∧ k = fs.length - i ∧ r = [(1, .int .i64 n), (2, .pointer (some ⟨p2, 0, none⟩)), (5, .int .i64 i)] ∧ m2 = mm ∧ (fs.take i).any (inoIs n) = false) _ ⟨0, by omega, rfl, rfl, rfl, rfl⟩ ?_
  rintro k r mm ⟨i, hi, rfl, rfl, rfl, hj⟩
  refine awp_sk fun K2 hK2 => awp_rs ?_
  refine ao_r (rig_move rfl rfl) rfl (ao_r (rig_fieldAddr rfl rfl Try.underlying30 rfl Try.sizeOf27 rfl) rfl (ao_r (rig_load1 rfl rfl Try.isAgg27 d1) rfl (ao_r (rig_lenSl rfl rfl Try.underlying27) rfl (ao_r (rig_lss rfl rfl rfl) rfl (ao_nil ?_)))))
  refine awp_if rfl (fun h => ?_) (fun h => ?_)
  · obtain ⟨x, hx⟩ := get_lt (l := fs) (i := i) (by omega)
    obtain ⟨b, off, cap', e, hxc⟩ := RdSl.get_ encF_len (by decide) (RdSl.le hf hm2) hx
    simp only [Value.slice.injEq] at e
    obtain ⟨rfl, _, rfl⟩ := e
    refine awp_skip (hK2 _ _ (awp_sk fun K3 hK3 => awp_block (awp_rs ?_)))
    refine ao_r (rig_fieldAddr rfl rfl Try.underlying30 rfl Try.sizeOf27 rfl) rfl (ao_r (rig_load1 rfl rfl Try.isAgg27 d1) rfl (ao_r (rig_move rfl rfl) rfl (ao_r (rig_ix i rfl rfl rfl Try.underlying27 Try.sizeOf61 rfl rfl (by omega)) rfl (ao_r (rig_fieldAddr rfl rfl Try.underlying61 rfl Try.sizeOf3 rfl) rfl (ao_r (rig_load1 rfl rfl Try.isAgg3 hxc.1) rfl (ao_r (rig_move rfl rfl) rfl (ao_r (rig_eql rfl rfl rfl) rfl (ao_nil ?_))))))))
    refine awp_cond rfl (fun h2 => ?_) (fun h2 => ?_)
    · refine awp_rs (ao_r (rig_move rfl rfl) rfl (ao_r (rig_assign rfl rfl) rfl (ao_nil ?_)))
      exact awp_ret ⟨_, res1 Try.results21 rfl, by rw [idxG_hit hx hj h2], hl2⟩
    · refine awp_skip (hK3 _ _ (awp_region ?_))
      refine ao_r (rig_move rfl rfl) rfl (ao_r (rig_add (c := ((i + 1 : Nat) : Int)) rfl rfl rfl (w64 _ (by omega) (by omega))) rfl (ao_r (rig_assign rfl rfl) rfl (ao_nil ?_)))
      exact ⟨[(1, .int .i64 n), (2, .pointer (some ⟨p2, 0, none⟩)), (5, .int .i64 (i + 1 : Nat))], _, ⟨rfl, rfl, rfl, trivial⟩, by omega, i + 1, by omega, rfl, rfl, rfl, (any_takeG hx hj).trans h2⟩
  · refine awp_exit (hK1 _ _ (awp_rs (ao_r (rig_assign rfl rfl) rfl (ao_nil ?_))))
    rw [List.take_of_length_le (by omega)] at hj
    exact awp_ret ⟨_, res1 Try.results21 rfl, by rw [idxG_none hj], hl2⟩
def nameIs (s : ByteArray) (n : Nm) : Bool := decide (n.nm = s)
def lkI (ns : List Nm) (s : ByteArray) : Int := match ns.find? (nameIs s) with | some n => n.ino | none => 0
theorem find_take {α : Type} {p : α → Bool} {l : List α} {i : Nat} {x : α} (hx : l[i]? = some x) (h : (l.take i).any p = false) (hp : p x = true) : l.find? p = some x := by
  obtain ⟨h1, h2⟩ := List.getElem?_eq_some_iff.1 hx
  have e : l = l.take i ++ x :: l.drop (i + 1) := by rw [← h2, ← List.drop_eq_getElem_cons h1, List.take_append_drop]
  rw [e, List.find?_append, List.find?_eq_none.2 (fun y hy => by rw [List.any_eq_false] at h; exact h y hy), Option.none_or, List.find?_cons, hp]
theorem e20 : Enters Try.prog 20 := enters_of Try.func20 (by kernel_rfl) rfl
set_option maxRecDepth 100000 in
theorem F20 (m : Hp) (vn vf vo : Value) (ns : List Nm) (s : ByteArray) (hn : RdSl m encN 2 vn ns) (hl : ns.length ≤ 1048576) : RC Try.prog 20 #[.agg #[vn, vf, vo], .string s] m (.tuple #[.int .i64 (lkI ns s), .bool (ns.any (nameIs s))]) := by
  obtain ⟨A, ca, rfl, _⟩ := RdSl.form encN_len (by decide) hn
  refine rc_of_gc fun m1 hm => gc_intro (vs := [_, _]) Try.func20 rfl Try.ntmps20 (by simp) ?_
  refine awp_rs ?_
  refine ao_x (ex_boxR rfl rfl) rfl fun v m2 ⟨p2, hv, hl2, hc2⟩ => ao_r (rig_assign rfl rfl) rfl (ao_r (rig_assign rfl rfl) rfl (ao_nil ?_))
  subst hv
  have hm2 := hm.trans hl2
  obtain ⟨d0, d1, d2, _⟩ := id hc2
  refine awp_sk fun K1 hK1 => awp_rs (ao_r (rig_assign rfl rfl) rfl (ao_nil ?_))
  refine awp_block ?_
  refine awp_le [(1, .string s), (2, .pointer (some ⟨p2, 0, none⟩)), (6, .int .i64 (0 : Nat))] ⟨rfl, rfl, rfl, trivial⟩ ?_
  refine awp_loop (fun k r mm => ∃ i : Nat, i ≤ ns.length ∧ k = ns.length - i ∧ r = [(1, .string s), (2, .pointer (some ⟨p2, 0, none⟩)), (6, .int .i64 i)] ∧ m2 = mm ∧ (ns.take i).any (nameIs s) = false) _ ⟨0, by omega, rfl, rfl, rfl, rfl⟩ ?_
  rintro k r mm ⟨i, hi, rfl, rfl, rfl, hj⟩
  refine awp_sk fun K2 hK2 => awp_rs ?_
  refine ao_r (rig_move rfl rfl) rfl (ao_r (rig_fieldAddr rfl rfl Try.underlying30 rfl Try.sizeOf26 rfl) rfl (ao_r (rig_load1 rfl rfl Try.isAgg26 d0) rfl (ao_r (rig_lenSl rfl rfl Try.underlying26) rfl (ao_r (rig_lss rfl rfl rfl) rfl (ao_nil ?_)))))
  refine awp_if rfl (fun h => ?_) (fun h => ?_)
  · obtain ⟨x, hx⟩ := get_lt (l := ns) (i := i) (by omega)
    obtain ⟨b, off, cap', e, hxc⟩ := RdSl.get_ encN_len (by decide) (RdSl.le hn hm2) hx
    simp only [Value.slice.injEq] at e
    obtain ⟨rfl, _, rfl⟩ := e
    obtain ⟨x0, x1, _⟩ := id hxc
    refine awp_skip (hK2 _ _ (awp_sk fun K3 hK3 => awp_block (awp_rs ?_)))
    refine ao_r (rig_fieldAddr rfl rfl Try.underlying30 rfl Try.sizeOf26 rfl) rfl (ao_r (rig_load1 rfl rfl Try.isAgg26 d0) rfl (ao_r (rig_move rfl rfl) rfl (ao_r (rig_ix i rfl rfl rfl Try.underlying26 Try.sizeOf68 rfl rfl (by omega)) rfl (ao_r (rig_fieldAddr rfl rfl Try.underlying68 rfl Try.sizeOf9 rfl) rfl (ao_r (rig_load1 rfl rfl Try.isAgg9 x0) rfl (ao_r (rig_move rfl rfl) rfl (ao_r (rig_seql rfl rfl rfl) rfl (ao_nil ?_))))))))
    refine awp_cond rfl (fun h2 => ?_) (fun h2 => ?_)
    · refine awp_rs (ao_r (rig_fieldAddr rfl rfl Try.underlying30 rfl Try.sizeOf26 rfl) rfl (ao_r (rig_load1 rfl rfl Try.isAgg26 d0) rfl (ao_r (rig_move rfl rfl) rfl (ao_r (rig_ix i rfl rfl rfl Try.underlying26 Try.sizeOf68 rfl rfl (by omega)) rfl (ao_r (rig_fieldAddr rfl rfl Try.underlying68 rfl Try.sizeOf3 rfl) rfl (ao_r (rig_load1 rfl rfl Try.isAgg3 x1) rfl (ao_r (rig_assign rfl rfl) rfl (ao_r (rig_assign rfl rfl) rfl (ao_nil ?_)))))))))
      have hf : ns.find? (nameIs s) = some x := find_take hx hj h2
      exact awp_ret ⟨_, res2 Try.results20 rfl rfl, by rw [lkI, hf, List.any_eq_true.2 ⟨x, List.mem_of_getElem? hx, h2⟩], hl2⟩
    · refine awp_skip (hK3 _ _ (awp_region ?_))
      refine ao_r (rig_move rfl rfl) rfl (ao_r (rig_add (c := ((i + 1 : Nat) : Int)) rfl rfl rfl (w64 _ (by omega) (by omega))) rfl (ao_r (rig_assign rfl rfl) rfl (ao_nil ?_)))
      exact ⟨[(1, .string s), (2, .pointer (some ⟨p2, 0, none⟩)), (6, .int .i64 (i + 1 : Nat))], _, ⟨rfl, rfl, rfl, trivial⟩, by omega, i + 1, by omega, rfl, rfl, rfl, (any_takeG hx hj).trans h2⟩
  · refine awp_exit (hK1 _ _ (awp_rs (ao_r (rig_assign rfl rfl) rfl (ao_r (rig_assign rfl rfl) rfl (ao_nil ?_)))))
    rw [List.take_of_length_le (by omega)] at hj
    have hf : ns.find? (nameIs s) = none := List.find?_eq_none.2 fun y hy => by rw [List.any_eq_false] at hj; exact hj y hy
    exact awp_ret ⟨_, res2 Try.results20 rfl rfl, by rw [lkI, hf, hj], hl2⟩
def nInoIs (n : Int) (x : Nm) : Bool := decide (x.ino = n)
theorem e43 : Enters Try.prog 43 := enters_of Try.func43 (by kernel_rfl) rfl
set_option maxRecDepth 100000 in
theorem F43 (m : Hp) (vn vf vo : Value) (ns : List Nm) (n : Int) (hn : RdSl m encN 2 vn ns) (hl : ns.length ≤ 1048576) : RC Try.prog 43 #[.agg #[vn, vf, vo], .int .i64 n] m (.bool (ns.any (nInoIs n))) := by
  obtain ⟨A, ca, rfl, _⟩ := RdSl.form encN_len (by decide) hn
  refine rc_of_gc fun m1 hm => gc_intro (vs := [_, _]) Try.func43 rfl Try.ntmps43 (by simp) ?_
  refine awp_rs ?_
  refine ao_x (ex_boxR rfl rfl) rfl fun v m2 ⟨p2, hv, hl2, hc2⟩ => ao_r (rig_assign rfl rfl) rfl (ao_nil ?_)
  subst hv
  have hm2 := hm.trans hl2
  obtain ⟨d0, d1, d2, _⟩ := id hc2
  refine awp_sk fun K1 hK1 => awp_rs (ao_r (rig_assign rfl rfl) rfl (ao_nil ?_))
  refine awp_block ?_
  refine awp_le [(1, .int .i64 n), (2, .pointer (some ⟨p2, 0, none⟩)), (5, .int .i64 (0 : Nat))] ⟨rfl, rfl, rfl, trivial⟩ ?_
  refine awp_loop (fun k r mm => ∃ i : Nat, i ≤ ns.length ∧ k = ns.length - i ∧ r = [(1, .int .i64 n), (2, .pointer (some ⟨p2, 0, none⟩)), (5, .int .i64 i)] ∧ m2 = mm ∧ (ns.take i).any (nInoIs n) = false) _ ⟨0, by omega, rfl, rfl, rfl, rfl⟩ ?_
  rintro k r mm ⟨i, hi, rfl, rfl, rfl, hj⟩
  refine awp_sk fun K2 hK2 => awp_rs ?_
  refine ao_r (rig_move rfl rfl) rfl (ao_r (rig_fieldAddr rfl rfl Try.underlying30 rfl Try.sizeOf26 rfl) rfl (ao_r (rig_load1 rfl rfl Try.isAgg26 d0) rfl (ao_r (rig_lenSl rfl rfl Try.underlying26) rfl (ao_r (rig_lss rfl rfl rfl) rfl (ao_nil ?_)))))
  refine awp_if rfl (fun h => ?_) (fun h => ?_)
  · obtain ⟨x, hx⟩ := get_lt (l := ns) (i := i) (by omega)
    obtain ⟨b, off, cap', e, hxc⟩ := RdSl.get_ encN_len (by decide) (RdSl.le hn hm2) hx
    simp only [Value.slice.injEq] at e
    obtain ⟨rfl, _, rfl⟩ := e
    obtain ⟨x0, x1, _⟩ := id hxc
    refine awp_skip (hK2 _ _ (awp_sk fun K3 hK3 => awp_block (awp_rs ?_)))
    refine ao_r (rig_fieldAddr rfl rfl Try.underlying30 rfl Try.sizeOf26 rfl) rfl (ao_r (rig_load1 rfl rfl Try.isAgg26 d0) rfl (ao_r (rig_move rfl rfl) rfl (ao_r (rig_ix i rfl rfl rfl Try.underlying26 Try.sizeOf68 rfl rfl (by omega)) rfl (ao_r (rig_fieldAddr rfl rfl Try.underlying68 rfl Try.sizeOf3 rfl) rfl (ao_r (rig_load1 rfl rfl Try.isAgg3 x1) rfl (ao_r (rig_move rfl rfl) rfl (ao_r (rig_eql rfl rfl rfl) rfl (ao_nil ?_))))))))
    refine awp_cond rfl (fun h2 => ?_) (fun h2 => ?_)
    · refine awp_rs (ao_r (rig_assign rfl rfl) rfl (ao_nil ?_))
      exact awp_ret ⟨_, res1 Try.results43 rfl, by rw [List.any_eq_true.2 ⟨x, List.mem_of_getElem? hx, h2⟩], hl2⟩
    · refine awp_skip (hK3 _ _ (awp_region ?_))
      refine ao_r (rig_move rfl rfl) rfl (ao_r (rig_add (c := ((i + 1 : Nat) : Int)) rfl rfl rfl (w64 _ (by omega) (by omega))) rfl (ao_r (rig_assign rfl rfl) rfl (ao_nil ?_)))
      exact ⟨[(1, .int .i64 n), (2, .pointer (some ⟨p2, 0, none⟩)), (5, .int .i64 (i + 1 : Nat))], _, ⟨rfl, rfl, rfl, trivial⟩, by omega, i + 1, by omega, rfl, rfl, rfl, (any_takeG hx hj).trans h2⟩
  · refine awp_exit (hK1 _ _ (awp_rs (ao_r (rig_assign rfl rfl) rfl (ao_nil ?_))))
    rw [List.take_of_length_le (by omega)] at hj
    exact awp_ret ⟨_, res1 Try.results43 rfl, by rw [hj], hl2⟩
def zIs (n : Int) (x : Int) : Bool := decide (x = n)
theorem e44 : Enters Try.prog 44 := enters_of Try.func44 (by kernel_rfl) rfl
set_option maxRecDepth 100000 in
theorem F44 (m : Hp) (vn vf vo : Value) (os : List Int) (n : Int) (ho : RdSl m encZ 1 vo os) (hl : os.length ≤ 1048576) : RC Try.prog 44 #[.agg #[vn, vf, vo], .int .i64 n] m (.bool (os.any (zIs n))) := by
  obtain ⟨A, ca, rfl, _⟩ := RdSl.form encZ_len (by decide) ho
  refine rc_of_gc fun m1 hm => gc_intro (vs := [_, _]) Try.func44 rfl Try.ntmps44 (by simp) ?_
  refine awp_rs ?_
  refine ao_x (ex_boxR rfl rfl) rfl fun v m2 ⟨p2, hv, hl2, hc2⟩ => ao_r (rig_assign rfl rfl) rfl (ao_nil ?_)
  subst hv
  have hm2 := hm.trans hl2
  obtain ⟨d0, d1, d2, _⟩ := id hc2
  refine awp_sk fun K1 hK1 => awp_rs (ao_r (rig_assign rfl rfl) rfl (ao_nil ?_))
  refine awp_block ?_
  refine awp_le [(1, .int .i64 n), (2, .pointer (some ⟨p2, 0, none⟩)), (5, .int .i64 (0 : Nat))] ⟨rfl, rfl, rfl, trivial⟩ ?_
  refine awp_loop (fun k r mm => ∃ i : Nat, i ≤ os.length ∧ k = os.length - i ∧ r = [(1, .int .i64 n), (2, .pointer (some ⟨p2, 0, none⟩)), (5, .int .i64 i)] ∧ m2 = mm ∧ (os.take i).any (zIs n) = false) _ ⟨0, by omega, rfl, rfl, rfl, rfl⟩ ?_
  rintro k r mm ⟨i, hi, rfl, rfl, rfl, hj⟩
  refine awp_sk fun K2 hK2 => awp_rs ?_
  refine ao_r (rig_move rfl rfl) rfl (ao_r (rig_fieldAddr rfl rfl Try.underlying30 rfl Try.sizeOf28 rfl) rfl (ao_r (rig_load1 rfl rfl Try.isAgg28 d2) rfl (ao_r (rig_lenSl rfl rfl Try.underlying28) rfl (ao_r (rig_lss rfl rfl rfl) rfl (ao_nil ?_)))))
  refine awp_if rfl (fun h => ?_) (fun h => ?_)
  · obtain ⟨x, hx⟩ := get_lt (l := os) (i := i) (by omega)
    obtain ⟨b, off, cap', e, hxc⟩ := RdSl.get_ encZ_len (by decide) (RdSl.le ho hm2) hx
    simp only [Value.slice.injEq] at e
    obtain ⟨rfl, _, rfl⟩ := e
    refine awp_skip (hK2 _ _ (awp_sk fun K3 hK3 => awp_block (awp_rs ?_)))
    refine ao_r (rig_fieldAddr rfl rfl Try.underlying30 rfl Try.sizeOf28 rfl) rfl (ao_r (rig_load1 rfl rfl Try.isAgg28 d2) rfl (ao_r (rig_move rfl rfl) rfl (ao_r (rig_ix i rfl rfl rfl Try.underlying28 Try.sizeOf3 rfl rfl (by omega)) rfl (ao_r (rig_load1 rfl rfl Try.isAgg3 hxc.1) rfl (ao_r (rig_move rfl rfl) rfl (ao_r (rig_eql rfl rfl rfl) rfl (ao_nil ?_)))))))
    refine awp_cond rfl (fun h2 => ?_) (fun h2 => ?_)
    · refine awp_rs (ao_r (rig_assign rfl rfl) rfl (ao_nil ?_))
      exact awp_ret ⟨_, res1 Try.results44 rfl, by rw [List.any_eq_true.2 ⟨x, List.mem_of_getElem? hx, h2⟩], hl2⟩
    · refine awp_skip (hK3 _ _ (awp_region ?_))
      refine ao_r (rig_move rfl rfl) rfl (ao_r (rig_add (c := ((i + 1 : Nat) : Int)) rfl rfl rfl (w64 _ (by omega) (by omega))) rfl (ao_r (rig_assign rfl rfl) rfl (ao_nil ?_)))
      exact ⟨[(1, .int .i64 n), (2, .pointer (some ⟨p2, 0, none⟩)), (5, .int .i64 (i + 1 : Nat))], _, ⟨rfl, rfl, rfl, trivial⟩, by omega, i + 1, by omega, rfl, rfl, rfl, (any_takeG hx hj).trans h2⟩
  · refine awp_exit (hK1 _ _ (awp_rs (ao_r (rig_assign rfl rfl) rfl (ao_nil ?_))))
    rw [List.take_of_length_le (by omega)] at hj
    exact awp_ret ⟨_, res1 Try.results44 rfl, by rw [hj], hl2⟩
def chB (c : UInt8) : Bool := decide (33 ≤ c.toNat) && decide (c.toNat ≤ 126)
def fileB (s : ByteArray) : Bool := decide (1 ≤ s.size) && (decide (s.size ≤ 32) && s.data.toList.all chB)
theorem e42 : Enters Try.prog 42 := enters_of Try.func42 (by kernel_rfl) rfl
set_option maxRecDepth 100000 in
theorem F42 (m : Hp) (s : ByteArray) (hs : s.size ≤ 1099511627776) : RC Try.prog 42 #[.string s] m (.bool (fileB s)) := by
  refine rc_of_gc fun m1 hm => gc_intro (vs := [_]) Try.func42 rfl Try.ntmps42 (by simp) ?_
  have hsz : s.size = s.data.toList.length := by rw [Array.length_toList]; rfl
  refine awp_rs (ao_r (rig_assign rfl rfl) rfl (ao_nil ?_))
  refine awp_sk fun K0 hK0 => awp_rs ?_
  refine ao_r (rig_move rfl rfl) rfl (ao_r (rig_lenStr rfl rfl Try.underlying9) rfl (ao_r (rig_lss rfl rfl rfl) rfl (ao_r (rig_move rfl rfl) rfl ?_)))
  by_cases h1 : (s.size : Int) < 1
  · rw [decide_eq_true h1]
    refine ao_no rfl rfl rfl rfl (ao_no rfl rfl rfl rfl (ao_no rfl rfl rfl rfl (ao_r (rig_pickT rfl rfl rfl) rfl (ao_nil ?_))))
    refine awp_true rfl (awp_rs (ao_r (rig_assign rfl rfl) rfl (ao_nil ?_)))
    refine awp_ret ⟨_, res1 Try.results42 rfl, ?_, HpLe.refl _⟩
    rw [fileB, decide_eq_false (show ¬ 1 ≤ s.size by omega)]; rfl
  · rw [decide_eq_false h1]
    refine ao_on rfl rfl (ao_r (rig_move rfl rfl) rfl (ao_on rfl rfl (ao_r (rig_lenStr rfl rfl Try.underlying9) rfl (ao_on rfl rfl (ao_r (rig_gtr rfl rfl rfl) rfl (ao_r (rig_pickF rfl rfl rfl) rfl (ao_nil ?_)))))))
    have d1 : decide (1 ≤ s.size) = true := decide_eq_true (by omega)
    refine awp_if rfl (fun h2 => ?_) (fun h2 => ?_)
    · refine awp_rs (ao_r (rig_assign rfl rfl) rfl (ao_nil ?_))
      refine awp_ret ⟨_, res1 Try.results42 rfl, ?_, HpLe.refl _⟩
      rw [fileB, d1, decide_eq_false (show ¬ s.size ≤ 32 by omega)]; rfl
    · have d2 : decide (s.size ≤ 32) = true := decide_eq_true (by omega)
      refine awp_skip (hK0 _ _ (awp_sk fun K1 hK1 => awp_rs (ao_r (rig_assign rfl rfl) rfl (ao_nil ?_))))
      refine awp_block ?_
      refine awp_le [(0, .string s), (3, .int .i64 (0 : Nat))] ⟨rfl, rfl, trivial⟩ ?_
      refine awp_loop (fun k r mm => ∃ i : Nat, i ≤ s.size ∧ k = s.size - i ∧ r = [(0, .string s), (3, .int .i64 i)] ∧ m1 = mm ∧ (s.data.toList.take i).all chB = true) s.size ⟨0, by omega, rfl, rfl, rfl, rfl⟩ ?_
      rintro k r mm ⟨i, hi, rfl, rfl, rfl, hj⟩
      refine awp_sk fun K2 hK2 => awp_rs ?_
      refine ao_r (rig_move rfl rfl) rfl (ao_r (rig_move rfl rfl) rfl (ao_r (rig_lenStr rfl rfl Try.underlying9) rfl (ao_r (rig_lss rfl rfl rfl) rfl (ao_nil ?_))))
      refine awp_if rfl (fun h => ?_) (fun h => ?_)
      · have hil : i < s.data.toList.length := by omega
        have htk : (s.data.toList.take (i + 1)).all chB = chB (s.data.toList.getD i 0) := by
          rw [List.take_succ_eq_append_getElem hil, List.all_append, hj, List.getD_eq_getElem?_getD, List.getElem?_eq_getElem hil]; simp
        have hno : chB (s.data.toList.getD i 0) = false → fileB s = false := fun hc => by
          rw [fileB, d1, d2, ← List.take_append_drop (i + 1) s.data.toList, List.all_append, htk, hc]; rfl
        refine awp_skip (hK2 _ _ (awp_sk fun K3 hK3 => awp_block (awp_mid (fun r mm => r = [(0, .string s), (3, .int .i64 i), (27, .bool (!chB (s.data.toList.getD i 0)))] ∧ m1 = mm) (awp_region ?_) ?_)))
        · refine ao_r (rig_move rfl rfl) rfl (ao_r (rig_move rfl rfl) rfl (ao_r (rig_indexStr i rfl rfl rfl Try.underlying9 rfl (by omega)) rfl (ao_r (rig_lss rfl rfl rfl) rfl (ao_r (rig_move rfl rfl) rfl ?_))))
          by_cases h3 : ((s.data.toList.getD i 0).toNat : Int) < 33
          · rw [decide_eq_true h3]
            refine ao_no rfl rfl rfl rfl (ao_no rfl rfl rfl rfl (ao_no rfl rfl rfl rfl (ao_no rfl rfl rfl rfl (ao_r (rig_pickT rfl rfl rfl) rfl (ao_nil ?_)))))
            exact ⟨[(0, .string s), (3, .int .i64 i), (27, .bool true)], ⟨rfl, rfl, rfl, trivial⟩, by rw [chB, decide_eq_false (show ¬ 33 ≤ (s.data.toList.getD i 0).toNat by omega)]; rfl, rfl⟩
          · rw [decide_eq_false h3]
            refine ao_on rfl rfl (ao_r (rig_move rfl rfl) rfl (ao_on rfl rfl (ao_r (rig_move rfl rfl) rfl (ao_on rfl rfl (ao_r (rig_indexStr i rfl rfl rfl Try.underlying9 rfl (by omega)) rfl (ao_on rfl rfl (ao_r (rig_gtr rfl rfl rfl) rfl (ao_r (rig_pickF rfl rfl rfl) rfl (ao_nil ?_)))))))))
            refine ⟨[(0, .string s), (3, .int .i64 i), (27, .bool (decide ((126 : Int) < ((s.data.toList.getD i 0).toNat : Int))))], ⟨rfl, rfl, rfl, trivial⟩, ?_, rfl⟩
            rw [chB, decide_eq_true (show 33 ≤ (s.data.toList.getD i 0).toNat by omega), Bool.true_and]
            by_cases h4 : (126 : Int) < ((s.data.toList.getD i 0).toNat : Int)
            · rw [decide_eq_true h4, decide_eq_false (show ¬ (s.data.toList.getD i 0).toNat ≤ 126 by omega)]; rfl
            · rw [decide_eq_false h4, decide_eq_true (show (s.data.toList.getD i 0).toNat ≤ 126 by omega)]; rfl
        · rintro r mm ⟨rfl, rfl⟩
          refine awp_cond rfl (fun h5 => ?_) (fun h5 => ?_)
          · refine awp_rs (ao_r (rig_assign rfl rfl) rfl (ao_nil ?_))
            refine awp_ret ⟨_, res1 Try.results42 rfl, ?_, HpLe.refl _⟩
            rw [Bool.not_eq_true'] at h5
            rw [hno h5]
          · refine awp_skip (hK3 _ _ (awp_region ?_))
            refine ao_r (rig_move rfl rfl) rfl (ao_r (rig_add (c := ((i + 1 : Nat) : Int)) rfl rfl rfl (w64 _ (by omega) (by omega))) rfl (ao_r (rig_assign rfl rfl) rfl (ao_nil ?_)))
            rw [Bool.not_eq_false'] at h5
            exact ⟨[(0, .string s), (3, .int .i64 (i + 1 : Nat))], _, ⟨rfl, rfl, trivial⟩, by omega, i + 1, by omega, rfl, rfl, rfl, htk.trans h5⟩
      · refine awp_exit (hK1 _ _ (awp_rs (ao_r (rig_assign rfl rfl) rfl (ao_nil ?_))))
        refine awp_ret ⟨_, res1 Try.results42 rfl, ?_, HpLe.refl _⟩
        rw [List.take_of_length_le (by omega)] at hj
        rw [fileB, d1, d2, hj]; rfl
theorem e22 : Enters Try.prog 22 := enters_of Try.func22 (by kernel_rfl) rfl
set_option maxRecDepth 100000 in
/-- The least inode that is free. -/
theorem F22 (m : Hp) (vn vf vo : Value) (fs : List Fl) (hf : RdSl m encF 5 vf fs) (hl : fs.length ≤ 1048576) (B : Nat) (hB : ∀ f ∈ fs, f.ino ≤ B) (hBm : B ≤ 1099511627776) : GC Try.prog 22 #[.agg #[vn, vf, vo]] m (fun u m' => ∃ n : Nat, u = .int .i64 n ∧ HpLe m m' ∧ 1 ≤ n ∧ n ≤ B + 1 ∧ fs.any (inoIs n) = false) := by
  refine gc_intro (vs := [_]) Try.func22 rfl Try.ntmps22 (by simp) ?_
  refine awp_rs ?_
  refine ao_x (ex_boxR rfl rfl) rfl fun v m2 ⟨p2, hv, hl2, hc2⟩ => ao_r (rig_assign rfl rfl) rfl (ao_nil ?_)
  subst hv
  refine awp_rs (ao_r (rig_assign rfl rfl) rfl (ao_nil ?_))
  refine awp_sk fun K1 hK1 => awp_block ?_
  refine awp_le [(1, .pointer (some ⟨p2, 0, none⟩)), (3, .int .i64 (1 : Nat))] ⟨rfl, rfl, trivial⟩ ?_
  refine awp_loop (fun k r mm => ∃ n : Nat, 1 ≤ n ∧ n ≤ B + 1 ∧ k = B + 1 - n ∧ r = [(1, .pointer (some ⟨p2, 0, none⟩)), (3, .int .i64 n)] ∧ m2 = mm) (B + 1 - 1) ⟨1, by omega, by omega, rfl, rfl, rfl⟩ ?_
  rintro k r mm ⟨n, h1, h2, rfl, rfl, rfl⟩
  refine awp_sk fun K2 hK2 => awp_rs ?_
  refine ao_r (rig_loadN (vs := [vn, vf, vo]) rfl rfl Try.isAgg30 Try.sizeOf30 hc2) rfl (ao_r (rig_move rfl rfl) rfl (ao_r (rig_call rfl rfl e21 (F21 m2 vn vf vo fs n (RdSl.le hf hl2) hl)) rfl (ao_r (rig_geq rfl rfl rfl) rfl (ao_nil ?_))))
  refine awp_if rfl (fun h => ?_) (fun h => ?_)
  · have hlt : n ≤ B := by
      obtain ⟨i, x, _, hx, hp⟩ := idxG_some h
      have e : x.ino = n := of_decide_eq_true hp
      have := hB x (List.mem_of_getElem? hx)
      omega
    refine awp_skip (hK2 _ _ (awp_block (awp_region ?_)))
    refine ao_r (rig_move rfl rfl) rfl (ao_r (rig_add (c := ((n + 1 : Nat) : Int)) rfl rfl rfl (w64 _ (by omega) (by omega))) rfl (ao_r (rig_assign rfl rfl) rfl (ao_nil ?_)))
    exact ⟨[(1, .pointer (some ⟨p2, 0, none⟩)), (3, .int .i64 (n + 1 : Nat))], _, ⟨rfl, rfl, trivial⟩, by omega, n + 1, by omega, by omega, rfl, rfl, rfl⟩
  · refine awp_exit (hK1 _ _ (awp_rs (ao_r (rig_move rfl rfl) rfl (ao_r (rig_assign rfl rfl) rfl (ao_nil ?_)))))
    refine awp_ret ⟨_, res1 Try.results22 rfl, n, rfl, hl2, h1, h2, ?_⟩
    rw [Bool.eq_false_iff]
    exact fun hq => h (idxG_any.2 hq)
end Go.Proofs.Ytbonkkbpjlikjaa
/- Chapter 7, the reference: Copy, unlink, sweep. -/
set_option linter.unusedVariables false
set_option linter.unusedSimpArgs false
namespace Go.Aw
open Go Go.RowKit
theorem RdSl.one_ {α : Type} {enc : α → List Value} {k : Nat} {m : Hp} {v : Value} {l : List α} (h : RdSl m enc k v l) : v.oneCell' = true := by
  obtain ⟨A, n, cap, rfl, _⟩ := h; rfl
theorem Own.one_ {E : TypeId} {k : Nat} {c : Hp} {v : Value} {xs : List Value} (h : Own E k c v xs) : v.oneCell' = true := by
  rcases h with ⟨rfl, _⟩ | ⟨g, n, cap, sp, rfl, _⟩ <;> rfl
theorem three_one {a b c : Value} (ha : a.oneCell' = true) (hb : b.oneCell' = true) (hc : c.oneCell' = true) : ∀ u ∈ (Value.agg #[a, b, c]).cells.toList, u.oneCell' = true := by
  intro u hu
  simp [Value.cells] at hu
  rcases hu with rfl | rfl | rfl <;> assumption
/-- The box of a directory. -/
def dirB (p : Nat) (a b c : Value) : Hp := one p (.cells #[a, b, c] 30 (0, 0))
theorem dirB_at {L : List Hp} (i : Nat) {p : Nat} {a b c : Value} (hD : Dj L) (hi : L[i]? = some (dirB p a b c)) : CellsAt (U L) p 0 [a, b, c] :=
  (cellsAt_one p #[a, b, c] 30).le (le_at i hD hi)
theorem dirB_set (p : Nat) (a b c d e f : Value) : putR #[a, b, c] 0 (Value.agg #[d, e, f]).cells.toList = #[d, e, f] := rfl
end Go.Aw
namespace Go.Proofs.Ytbonkkbpjlikjaa
open Go Go.Aw Go.RowKit
theorem zero30 : ∀ w, (zeroValue 30).run Try.prog w = .ok (.agg #[.slice none 0 0, .slice none 0 0, .slice none 0 0]) w := Try.zeroValue30
theorem e19 : Enters Try.prog 19 := enters_of Try.func19 (by kernel_rfl) rfl
set_option maxHeartbeats 1000000 in
set_option maxRecDepth 100000 in
theorem F19 (m : Hp) (vn vf vo : Value) (ns : List Nm) (fs : List Fl) (oz : List Int) (hd : Dir m vn vf vo ns fs oz) (hnl : ns.length ≤ 1048576) (hfl : fs.length ≤ 1048576) (hol : oz.length ≤ 1048576) :
    GC Try.prog 19 #[.agg #[vn, vf, vo]] m (fun u m' => ∃ vn' vf' vo' cf c G, u = .agg #[vn', vf', vo'] ∧ m' = U [cf, c, G] ∧ Dj [cf, c, G] ∧ HpLe m G ∧ Own 61 5 cf vf' (rows encF fs) ∧ RdSl c encN 2 vn' ns ∧ RdSl c encZ 1 vo' oz) := by
  refine gc_intro (vs := [_]) Try.func19 rfl Try.ntmps19 (by simp) ?_
  refine awp_u (awp_rs ?_)
  refine ao_x (ex_box rfl (Dj_single m) rfl) rfl fun u m1 ⟨p1, hu, hm1, hD1⟩ => ?_
  subst hu hm1
  replace hD1 : Dj [dirB p1 vn vf vo, m] := hD1
  refine ao_x (ex_alloc rfl hD1 zero30) rfl fun u m2 ⟨p2, hu, hm2, hD2⟩ => ao_nil ?_
  subst hu hm2
  replace hD2 : Dj [dirB p2 (.slice none 0 0) (.slice none 0 0) (.slice none 0 0), dirB p1 vn vf vo, m] := hD2
  have hm : HpLe m (U [dirB p2 (.slice none 0 0) (.slice none 0 0) (.slice none 0 0), dirB p1 vn vf vo, m]) := le_at 2 hD2 rfl
  obtain ⟨d0, d1, d2, _⟩ := dirB_at 1 hD2 rfl
  show AWp _ _ _ _ _ (U [dirB p2 (.slice none 0 0) (.slice none 0 0) (.slice none 0 0), dirB p1 vn vf vo, m])
  refine awp_ds (.q 0 (.q 1 (.q 3 (.q 4 (.q 6 (.q 7 (.s 2 (.s 5 (.s 8 (.q 9 (.s 10 .fin))))))))))) [10] (by kernel_rfl) (by kernel_rfl) ?_
  refine oq rfl (rig_fieldAddr rfl rfl Try.underlying30 rfl Try.sizeOf26 rfl) rfl (oq rfl (rig_load1 rfl rfl Try.isAgg26 d0) rfl (oq rfl (rig_fieldAddr rfl rfl Try.underlying30 rfl Try.sizeOf27 rfl) rfl (oq rfl (rig_load1 rfl rfl Try.isAgg27 d1) rfl (oq rfl (rig_fieldAddr rfl rfl Try.underlying30 rfl Try.sizeOf28 rfl) rfl (oq rfl (rig_load1 rfl rfl Try.isAgg28 d2) rfl ?_)))))
  refine os rfl (ex_appendNil (by_ := 24) rfl hD2 rfl rfl Try.underlying26 inf68 rfl (by decide) (by decide) (RdSl.le hd.n hm) (one_rows encN_one _) (by rw [rows_length encN_len]; omega)) rfl fun w1 m3 ⟨c1, hO1, hm3, hD3⟩ => ⟨fun _ => by subst hm3; exact U_le_tail hD3, ?_⟩
  subst hm3
  refine os rfl (ex_appendNil (by_ := 48) rfl hD3 rfl rfl Try.underlying27 inf61 rfl (by decide) (by decide) (RdSl.le hd.f (hm.trans (U_le_tail hD3))) (one_rows encF_one _) (by rw [rows_length encF_len]; omega)) rfl fun w2 m4 ⟨c2, hO2, hm4, hD4⟩ => ⟨fun _ => by subst hm4; exact U_le_tail hD4, ?_⟩
  subst hm4
  refine os rfl (ex_appendNil (by_ := 8) rfl hD4 rfl rfl Try.underlying28 inf3 rfl (by decide) (by decide) (RdSl.le hd.o (hm.trans ((U_le_tail hD3).trans (U_le_tail hD4)))) (one_rows encZ_one _) (by rw [rows_length encZ_len]; omega)) rfl fun w3 m5 ⟨c3, hO3, hm5, hD5⟩ => ⟨fun _ => by subst hm5; exact U_le_tail hD5, ?_⟩
  subst hm5
  obtain ⟨A1, k1, rfl⟩ := hO1.len encN_len (by decide)
  obtain ⟨A2, k2, rfl⟩ := hO2.len encF_len (by decide)
  obtain ⟨A3, k3, rfl⟩ := hO3.len encZ_len (by decide)
  refine oq rfl (rig_build (pl := #[(0, 1), (1, 1), (2, 1)]) (cs := #[.slice A1 ns.length k1, .slice A2 fs.length k2, .slice A3 oz.length k3]) rfl rfl Try.underlying30 Try.zeroValue30 (fun w => by kernel_rfl) rfl) rfl ?_
  refine os0 rfl (ex_store (i := 3) rfl hD5 rfl rfl Try.sizeOf30 (three_one hO1.one_ hO2.one_ hO3.one_) rfl (Nat.le_refl 3)) fun u m6 ⟨_, hm6, hD6⟩ => ⟨fun h => by simp at h, od_fin ?_⟩
  subst hm6
  replace hD6 : Dj [c3, c2, c1, dirB p2 (.slice A1 ns.length k1) (.slice A2 fs.length k2) (.slice A3 oz.length k3), dirB p1 vn vf vo, m] := hD6
  have h : U [c3, c2, c1, dirB p2 (.slice A1 ns.length k1) (.slice A2 fs.length k2) (.slice A3 oz.length k3), dirB p1 vn vf vo, m] = U [c2, dirB p2 (.slice A1 ns.length k1) (.slice A2 fs.length k2) (.slice A3 oz.length k3), dirB p1 vn vf vo, m, c3, c1] ∧ Dj [c2, dirB p2 (.slice A1 ns.length k1) (.slice A2 fs.length k2) (.slice A3 oz.length k3), dirB p1 vn vf vo, m, c3, c1] := U_pm [1, 3, 4, 5, 0, 2] rfl hD6
  have e2 : U [c2, dirB p2 (.slice A1 ns.length k1) (.slice A2 fs.length k2) (.slice A3 oz.length k3), dirB p1 vn vf vo, m, c3, c1] = U [c2, dirB p2 (.slice A1 ns.length k1) (.slice A2 fs.length k2) (.slice A3 oz.length k3), dirB p1 vn vf vo, m, U [c3, c1]] := (U_flat [_, _, _, _] _).symm
  have h2 : Dj [c2, dirB p2 (.slice A1 ns.length k1) (.slice A2 fs.length k2) (.slice A3 oz.length k3), dirB p1 vn vf vo, m, U [c3, c1]] := Dj_unflat (A := [_, _, _, _]) h.2
  have h3 : U [c2, dirB p2 (.slice A1 ns.length k1) (.slice A2 fs.length k2) (.slice A3 oz.length k3), dirB p1 vn vf vo, m, U [c3, c1]] = U [c2, U [c3, c1], dirB p2 (.slice A1 ns.length k1) (.slice A2 fs.length k2) (.slice A3 oz.length k3), dirB p1 vn vf vo, m] ∧ Dj [c2, U [c3, c1], dirB p2 (.slice A1 ns.length k1) (.slice A2 fs.length k2) (.slice A3 oz.length k3), dirB p1 vn vf vo, m] := U_pm [0, 4, 1, 2, 3] rfl h2
  have hcc : Dj [c3, c1] := h.2.2.2.2.2
  have e4 : U [c2, U [c3, c1], dirB p2 (.slice A1 ns.length k1) (.slice A2 fs.length k2) (.slice A3 oz.length k3), dirB p1 vn vf vo, m] = U [c2, U [c3, c1], U [dirB p2 (.slice A1 ns.length k1) (.slice A2 fs.length k2) (.slice A3 oz.length k3), dirB p1 vn vf vo, m]] := (U_flat [_, _] _).symm
  have h4 : Dj [c2, U [c3, c1], U [dirB p2 (.slice A1 ns.length k1) (.slice A2 fs.length k2) (.slice A3 oz.length k3), dirB p1 vn vf vo, m]] := Dj_unflat (A := [_, _]) h3.2
  have hcell := dirB_at 3 hD6 rfl
  exact awp_ret ⟨_, resC (vs := [_, _, _]) Try.results19 rfl Try.isAgg30 Try.sizeOf30 hcell, _, _, _, c2, U [c3, c1], _, rfl, h.1.trans (e2.trans (h3.1.trans e4)), h4, le_at 2 h3.2.2.2 rfl, hO2, RdSl.le hO1.rd (le_at 1 hcc rfl), RdSl.le hO3.rd (le_at 0 hcc rfl)⟩
theorem e25 : Enters Try.prog 25 := enters_of Try.func25 (by kernel_rfl) rfl
set_option maxHeartbeats 1000000 in
set_option maxRecDepth 100000 in
theorem F25 (m : Hp) (vn vf vo : Value) (ns : List Nm) (s : ByteArray) (hn : RdSl m encN 2 vn ns) (h2 : vf.oneCell' = true) (h3 : vo.oneCell' = true) (hl : ns.length ≤ 1048576) :
    GC Try.prog 25 #[.agg #[vn, vf, vo], .string s] m (fun u m' => ∃ vn' c G, u = .agg #[vn', vf, vo] ∧ m' = U [c, G] ∧ Dj [c, G] ∧ HpLe m G ∧ Own 68 2 c vn' (rows encN (ns.filter fun x => !nameIs s x))) := by
  obtain ⟨A, ca, rfl, _⟩ := RdSl.form encN_len (by decide) hn
  refine gc_intro (vs := [_, _]) Try.func25 rfl Try.ntmps25 (by simp) ?_
  refine awp_u (awp_rs ?_)
  refine ao_x (ex_box rfl (Dj_single m) rfl) rfl fun u m1 ⟨p1, hu, hm1, hD1⟩ => ?_
  subst hu hm1
  replace hD1 : Dj [dirB p1 (.slice A ns.length ca) vf vo, m] := hD1
  refine ao_x (ex_alloc rfl hD1 zero30) rfl fun u m2 ⟨p2, hu, hm2, hD2⟩ => ao_nil ?_
  subst hu hm2
  replace hD2 : Dj [dirB p2 (.slice none 0 0) (.slice none 0 0) (.slice none 0 0), dirB p1 (.slice A ns.length ca) vf vo, m] := hD2
  show AWp _ _ _ _ _ (U [dirB p2 (.slice none 0 0) (.slice none 0 0) (.slice none 0 0), dirB p1 (.slice A ns.length ca) vf vo, m])
  refine awp_rs (ao_r (rig_assign rfl rfl) rfl (ao_nil ?_))
  refine awp_sk fun K1 hK1 => awp_rs (ao_r (rig_assign rfl rfl) rfl (ao_nil ?_))
  refine awp_block ?_
  refine awp_le [(1, .string s), (2, .pointer (some ⟨p1, 0, none⟩)), (4, .pointer (some ⟨p2, 0, none⟩)), (5, .slice none 0 0), (6, .int .i64 (0 : Nat))] ⟨rfl, rfl, rfl, rfl, rfl, trivial⟩ ?_
  have hD3 : Dj [hp0, dirB p2 (.slice none 0 0) (.slice none 0 0) (.slice none 0 0), dirB p1 (.slice A ns.length ca) vf vo, m] := Dj_hp0 hD2
  refine awp_loop (fun k r mm => ∃ (i : Nat) (v : Value) (Y G : Hp), i ≤ ns.length ∧ k = ns.length - i ∧ r = [(1, .string s), (2, .pointer (some ⟨p1, 0, none⟩)), (4, .pointer (some ⟨p2, 0, none⟩)), (5, v), (6, .int .i64 i)] ∧ U [Y, dirB p2 (.slice none 0 0) (.slice none 0 0) (.slice none 0 0), dirB p1 (.slice A ns.length ca) vf vo, G] = mm ∧ Dj [Y, dirB p2 (.slice none 0 0) (.slice none 0 0) (.slice none 0 0), dirB p1 (.slice A ns.length ca) vf vo, G] ∧ HpLe m G ∧ Own 68 2 Y v (rows encN ((ns.take i).filter fun x => !nameIs s x))) _
    ⟨0, _, hp0, m, by omega, rfl, rfl, by rw [U_hp0], hD3, HpLe.refl _, Own.nil 68 2⟩ ?_
  clear hD3 hD2 hD1
  rintro k r mm ⟨i, v, Y, G, hi, rfl, rfl, rfl, hD, hG, hO⟩
  obtain ⟨d0, d1, d2, _⟩ := dirB_at 2 hD rfl
  refine awp_sk fun K2 hK2 => awp_rs ?_
  refine ao_r (rig_move rfl rfl) rfl (ao_r (rig_fieldAddr rfl rfl Try.underlying30 rfl Try.sizeOf26 rfl) rfl (ao_r (rig_load1 rfl rfl Try.isAgg26 d0) rfl (ao_r (rig_lenSl rfl rfl Try.underlying26) rfl (ao_r (rig_lss rfl rfl rfl) rfl (ao_nil ?_)))))
  refine awp_if rfl (fun h => ?_) (fun h => ?_)
  · have hil : i < ns.length := by omega
    obtain ⟨x, hx⟩ := get_lt hil
    have hGU : HpLe G (U [Y, dirB p2 (.slice none 0 0) (.slice none 0 0) (.slice none 0 0), dirB p1 (.slice A ns.length ca) vf vo, G]) := le_at 3 hD rfl
    obtain ⟨b, off, cap', e, hxc⟩ := RdSl.get_ encN_len (by decide) (RdSl.le hn (hG.trans hGU)) hx
    simp only [Value.slice.injEq] at e
    obtain ⟨rfl, _, rfl⟩ := e
    obtain ⟨x0, x1, _⟩ := id hxc
    have htk : (ns.take (i + 1)).filter (fun x => !nameIs s x) = (ns.take i).filter (fun x => !nameIs s x) ++ (if (!nameIs s x) = true then [x] else []) := by
      rw [takeS hx, List.filter_append, List.filter_cons]; rfl
    refine awp_skip (hK2 _ _ (awp_sk fun K3 hK3 => awp_block (awp_rs ?_)))
    refine ao_r (rig_fieldAddr rfl rfl Try.underlying30 rfl Try.sizeOf26 rfl) rfl (ao_r (rig_load1 rfl rfl Try.isAgg26 d0) rfl (ao_r (rig_move rfl rfl) rfl (ao_r (rig_ix i rfl rfl rfl Try.underlying26 Try.sizeOf68 rfl rfl hil) rfl (ao_r (rig_fieldAddr rfl rfl Try.underlying68 rfl Try.sizeOf9 rfl) rfl (ao_r (rig_load1 rfl rfl Try.isAgg9 x0) rfl (ao_r (rig_move rfl rfl) rfl (ao_r (rig_sneq rfl rfl rfl) rfl (ao_nil ?_))))))))
    have hend : ∀ (v' : Value) (Y' G' mm' : Hp), U [Y', dirB p2 (.slice none 0 0) (.slice none 0 0) (.slice none 0 0), dirB p1 (.slice (some ⟨b, off, none⟩) ns.length ca) vf vo, G'] = mm' → Dj [Y', dirB p2 (.slice none 0 0) (.slice none 0 0) (.slice none 0 0), dirB p1 (.slice (some ⟨b, off, none⟩) ns.length ca) vf vo, G'] → HpLe G G' → Own 68 2 Y' v' (rows encN ((ns.take (i + 1)).filter fun x => !nameIs s x)) → ∀ r', EnvLe [(1, .string s), (2, .pointer (some ⟨p1, 0, none⟩)), (4, .pointer (some ⟨p2, 0, none⟩)), (5, v'), (6, .int .i64 i)] r' → K3 r' mm' := by
      intro v' Y' G' mm' hmm hD' hG' hO' r' hr
      subst hmm
      refine hK3 _ _ (awp_le _ hr (awp_region ?_))
      refine ao_r (rig_move rfl rfl) rfl (ao_r (rig_add (c := ((i + 1 : Nat) : Int)) rfl rfl rfl (w64 _ (by omega) (by omega))) rfl (ao_r (rig_assign rfl rfl) rfl (ao_nil ?_)))
      exact ⟨[(1, .string s), (2, .pointer (some ⟨p1, 0, none⟩)), (4, .pointer (some ⟨p2, 0, none⟩)), (5, v'), (6, .int .i64 (i + 1 : Nat))], _, ⟨rfl, rfl, rfl, rfl, rfl, trivial⟩, by omega, i + 1, v', Y', G', by omega, rfl, rfl, rfl, hD', hG.trans hG', hO'⟩
    refine awp_cond rfl (fun h2 => ?_) (fun h2 => ?_)
    · rw [if_pos (by rw [← h2]; rfl)] at htk
      refine awp_region ?_
      refine ao_r (rig_move rfl rfl) rfl (ao_r (rig_fieldAddr rfl rfl Try.underlying30 rfl Try.sizeOf26 rfl) rfl (ao_r (rig_load1 rfl rfl Try.isAgg26 d0) rfl (ao_r (rig_move rfl rfl) rfl (ao_r (rig_ix i rfl rfl rfl Try.underlying26 Try.sizeOf68 rfl rfl hil) rfl (ao_r (rig_loadN (vs := encN x) rfl rfl Try.isAgg68 Try.sizeOf68 hxc) rfl ?_)))))
      refine ao_x (ex_buildSlice rfl hD rfl Try.underlying26 Try.sizeOf68 Try.zeroValue68 (by decide) (by decide) (fill_one rfl (rangeMap_size _ _))) rfl fun w2 m2 ⟨b2, hw2, hm2, hD5⟩ => ?_
      subst hw2 hm2
      have hfl : ((ns.take i).filter fun x => !nameIs s x).length ≤ i := Nat.le_trans (List.length_filter_le _ _) (by rw [List.length_take]; omega)
      refine ao_x (ex_append 1 (by_ := 24) rfl hD5 rfl rfl Try.underlying26 inf68 rfl (by decide) (by decide) hO rfl (src_one (enc := encN) (x := x) encN_len ((cellsAt_one b2 (encN x).toArray 68).le U_le_head)) (one_rows encN_one _) (by rw [rows_length encN_len, rows_length encN_len]; simp; omega)) rfl fun w3 m3 ⟨Y3, hO3, hm3, hD6⟩ => ao_r (rig_assign rfl rfl) rfl (ao_nil ?_)
      subst hm3
      rw [← rows_append] at hO3
      replace hD6 : Dj [Go.Aw.one b2 (.cells (encN x).toArray 68 (0, 0)), Y3, dirB p2 (.slice none 0 0) (.slice none 0 0) (.slice none 0 0), dirB p1 (.slice (some ⟨b, off, none⟩) ns.length ca) vf vo, G] := hD6
      have hp : U [Go.Aw.one b2 (.cells (encN x).toArray 68 (0, 0)), Y3, dirB p2 (.slice none 0 0) (.slice none 0 0) (.slice none 0 0), dirB p1 (.slice (some ⟨b, off, none⟩) ns.length ca) vf vo, G] = U [Y3, dirB p2 (.slice none 0 0) (.slice none 0 0) (.slice none 0 0), dirB p1 (.slice (some ⟨b, off, none⟩) ns.length ca) vf vo, U [Go.Aw.one b2 (.cells (encN x).toArray 68 (0, 0)), G]] ∧ Dj [Y3, dirB p2 (.slice none 0 0) (.slice none 0 0) (.slice none 0 0), dirB p1 (.slice (some ⟨b, off, none⟩) ns.length ca) vf vo, U [Go.Aw.one b2 (.cells (encN x).toArray 68 (0, 0)), G]] ∧ HpLe G (U [Go.Aw.one b2 (.cells (encN x).toArray 68 (0, 0)), G]) := by
        have h : U [Go.Aw.one b2 (.cells (encN x).toArray 68 (0, 0)), Y3, dirB p2 (.slice none 0 0) (.slice none 0 0) (.slice none 0 0), dirB p1 (.slice (some ⟨b, off, none⟩) ns.length ca) vf vo, G] = U [Y3, dirB p2 (.slice none 0 0) (.slice none 0 0) (.slice none 0 0), dirB p1 (.slice (some ⟨b, off, none⟩) ns.length ca) vf vo, Go.Aw.one b2 (.cells (encN x).toArray 68 (0, 0)), G] ∧ Dj [Y3, dirB p2 (.slice none 0 0) (.slice none 0 0) (.slice none 0 0), dirB p1 (.slice (some ⟨b, off, none⟩) ns.length ca) vf vo, Go.Aw.one b2 (.cells (encN x).toArray 68 (0, 0)), G] := U_pm [1, 2, 3, 0, 4] rfl hD6
        exact ⟨h.1.trans (U_flat [Y3, _, _] _).symm, Dj_unflat (A := [Y3, _, _]) h.2, le_at 1 h.2.2.2.2 rfl⟩
      exact hend w3 Y3 _ _ hp.1.symm hp.2.1 hp.2.2 (by rw [htk]; exact hO3) _ ⟨rfl, rfl, rfl, rfl, rfl, trivial⟩
    · rw [if_neg (by rw [show (!nameIs s x) = false from h2]; decide), List.append_nil] at htk
      exact awp_skip (hend v Y G _ rfl hD (HpLe.refl _) (by rw [htk]; exact hO) _ ⟨rfl, rfl, rfl, rfl, rfl, trivial⟩)
  · obtain rfl : i = ns.length := by omega
    rw [List.take_length] at hO
    refine awp_exit (hK1 _ _ (awp_rs ?_))
    refine ao_r (rig_move rfl rfl) rfl (ao_r (rig_fieldAddr rfl rfl Try.underlying30 rfl Try.sizeOf26 rfl) rfl ?_)
    have hv1 := hO.one_
    obtain ⟨A5, k5, rfl⟩ := hO.len encN_len (by decide)
    refine ao_x0 (ex_store (i := 2) rfl hD rfl rfl Try.sizeOf26 (by simp [Value.cells, Value.oneCell']) rfl (by simp [Value.cells])) fun u m6 ⟨_, hm6, hD6⟩ => ao_nil ?_
    subst hm6
    replace hD6 : Dj [Y, dirB p2 (.slice none 0 0) (.slice none 0 0) (.slice none 0 0), dirB p1 (.slice A5 (ns.filter fun x => !nameIs s x).length k5) vf vo, G] := hD6
    show AWp _ _ _ _ _ (U [Y, dirB p2 (.slice none 0 0) (.slice none 0 0) (.slice none 0 0), dirB p1 (.slice A5 (ns.filter fun x => !nameIs s x).length k5) vf vo, G])
    refine awp_rs ?_
    refine ao_r (rig_loadN (vs := [_, _, _]) rfl rfl Try.isAgg30 Try.sizeOf30 (dirB_at 2 hD6 rfl)) rfl ?_
    refine ao_x0 (ex_store (i := 1) rfl hD6 rfl rfl Try.sizeOf30 (three_one rfl h2 h3) rfl (Nat.le_refl 3)) fun u m7 ⟨_, hm7, hD7⟩ => ao_nil ?_
    subst hm7
    replace hD7 : Dj [Y, dirB p2 (.slice A5 (ns.filter fun x => !nameIs s x).length k5) vf vo, dirB p1 (.slice A5 (ns.filter fun x => !nameIs s x).length k5) vf vo, G] := hD7
    refine awp_ret ⟨_, resC (vs := [_, _, _]) Try.results25 rfl Try.isAgg30 Try.sizeOf30 (dirB_at 1 hD7 rfl), _, Y, _, rfl, (U_flat [Y] _).symm, Dj_unflat (A := [Y]) hD7, hG.trans (le_at 2 hD7.2 rfl), hO⟩
end Go.Proofs.Ytbonkkbpjlikjaa
/- Chapter 7, the reference: sweep, add. -/
set_option linter.unusedVariables false
set_option linter.unusedSimpArgs false
namespace Go.Proofs.Ytbonkkbpjlikjaa
open Go Go.Aw Go.RowKit
def keepF (ns : List Nm) (oz : List Int) (f : Fl) : Bool := ns.any (nInoIs f.ino) || oz.any (zIs f.ino)
theorem e26 : Enters Try.prog 26 := enters_of Try.func26 (by kernel_rfl) rfl
set_option maxHeartbeats 2000000 in
set_option maxRecDepth 100000 in
theorem F26 (m : Hp) (vn vf vo : Value) (ns : List Nm) (fs : List Fl) (oz : List Int) (hd : Dir m vn vf vo ns fs oz) (hnl : ns.length ≤ 1048576) (hl : fs.length ≤ 1048576) (hol : oz.length ≤ 1048576) :
    GC Try.prog 26 #[.agg #[vn, vf, vo]] m (fun u m' => ∃ vf' c G, u = .agg #[vn, vf', vo] ∧ m' = U [c, G] ∧ Dj [c, G] ∧ HpLe m G ∧ RdSl c encF 5 vf' (fs.filter (keepF ns oz))) := by
  have h1 := hd.n.one_
  have h3 := hd.o.one_
  obtain ⟨A, ca, rfl, _⟩ := RdSl.form encF_len (by decide) hd.f
  refine gc_intro (vs := [_]) Try.func26 rfl Try.ntmps26 (by simp) ?_
  refine awp_u (awp_rs ?_)
  refine ao_x (ex_box rfl (Dj_single m) rfl) rfl fun u m1 ⟨p1, hu, hm1, hD1⟩ => ?_
  subst hu hm1
  replace hD1 : Dj [dirB p1 vn (.slice A fs.length ca) vo, m] := hD1
  refine ao_x (ex_alloc rfl hD1 zero30) rfl fun u m2 ⟨p2, hu, hm2, hD2⟩ => ao_nil ?_
  subst hu hm2
  replace hD2 : Dj [dirB p2 (.slice none 0 0) (.slice none 0 0) (.slice none 0 0), dirB p1 vn (.slice A fs.length ca) vo, m] := hD2
  show AWp _ _ _ _ _ (U [dirB p2 (.slice none 0 0) (.slice none 0 0) (.slice none 0 0), dirB p1 vn (.slice A fs.length ca) vo, m])
  refine awp_rs (ao_r (rig_assign rfl rfl) rfl (ao_nil ?_))
  refine awp_sk fun K1 hK1 => awp_rs (ao_r (rig_assign rfl rfl) rfl (ao_nil ?_))
  refine awp_block ?_
  refine awp_le [(1, .pointer (some ⟨p1, 0, none⟩)), (2, .pointer (some ⟨p2, 0, none⟩)), (3, .slice none 0 0), (4, .int .i64 (0 : Nat))] ⟨rfl, rfl, rfl, rfl, trivial⟩ ?_
  have hD3 : Dj [hp0, dirB p2 (.slice none 0 0) (.slice none 0 0) (.slice none 0 0), dirB p1 vn (.slice A fs.length ca) vo, m] := Dj_hp0 hD2
  refine awp_loop (fun k r mm => ∃ (i : Nat) (v : Value) (Y G : Hp), i ≤ fs.length ∧ k = fs.length - i ∧ r = [(1, .pointer (some ⟨p1, 0, none⟩)), (2, .pointer (some ⟨p2, 0, none⟩)), (3, v), (4, .int .i64 i)] ∧ U [Y, dirB p2 (.slice none 0 0) (.slice none 0 0) (.slice none 0 0), dirB p1 vn (.slice A fs.length ca) vo, G] = mm ∧ Dj [Y, dirB p2 (.slice none 0 0) (.slice none 0 0) (.slice none 0 0), dirB p1 vn (.slice A fs.length ca) vo, G] ∧ HpLe m G ∧ Own 61 5 Y v (rows encF ((fs.take i).filter (keepF ns oz)))) _
    ⟨0, _, hp0, m, by omega, rfl, rfl, by rw [U_hp0], hD3, HpLe.refl _, Own.nil 61 5⟩ ?_
  clear hD3 hD2 hD1
  rintro k r mm ⟨i, v, Y, G, hi, rfl, rfl, rfl, hD, hG, hO⟩
  have hdc := dirB_at 2 hD rfl
  obtain ⟨d0, d1, d2, _⟩ := id hdc
  refine awp_sk fun K2 hK2 => awp_rs ?_
  refine ao_r (rig_move rfl rfl) rfl (ao_r (rig_fieldAddr rfl rfl Try.underlying30 rfl Try.sizeOf27 rfl) rfl (ao_r (rig_load1 rfl rfl Try.isAgg27 d1) rfl (ao_r (rig_lenSl rfl rfl Try.underlying27) rfl (ao_r (rig_lss rfl rfl rfl) rfl (ao_nil ?_)))))
  have hGU : HpLe G (U [Y, dirB p2 (.slice none 0 0) (.slice none 0 0) (.slice none 0 0), dirB p1 vn (.slice A fs.length ca) vo, G]) := le_at 3 hD rfl
  have hmU := hG.trans hGU
  refine awp_if rfl (fun h => ?_) (fun h => ?_)
  · have hil : i < fs.length := by omega
    obtain ⟨x, hx⟩ := get_lt hil
    obtain ⟨b, off, cap', e, hxc⟩ := RdSl.get_ encF_len (by decide) (RdSl.le hd.f hmU) hx
    simp only [Value.slice.injEq] at e
    obtain ⟨rfl, _, rfl⟩ := e
    have htk : (fs.take (i + 1)).filter (keepF ns oz) = (fs.take i).filter (keepF ns oz) ++ (if keepF ns oz x = true then [x] else []) := by
      rw [takeS hx, List.filter_append, List.filter_cons]; rfl
    refine awp_skip (hK2 _ _ (awp_sk fun K3 hK3 => awp_block ?_))
    have hend : ∀ (v' : Value) (Y' G' mm' : Hp), U [Y', dirB p2 (.slice none 0 0) (.slice none 0 0) (.slice none 0 0), dirB p1 vn (.slice (some ⟨b, off, none⟩) fs.length ca) vo, G'] = mm' → Dj [Y', dirB p2 (.slice none 0 0) (.slice none 0 0) (.slice none 0 0), dirB p1 vn (.slice (some ⟨b, off, none⟩) fs.length ca) vo, G'] → HpLe G G' → Own 61 5 Y' v' (rows encF ((fs.take (i + 1)).filter (keepF ns oz))) → ∀ r', EnvLe [(1, .pointer (some ⟨p1, 0, none⟩)), (2, .pointer (some ⟨p2, 0, none⟩)), (3, v'), (4, .int .i64 i)] r' → K3 r' mm' := by
      intro v' Y' G' mm' hmm hD' hG' hO' r' hr
      subst hmm
      refine hK3 _ _ (awp_le _ hr (awp_region ?_))
      refine ao_r (rig_move rfl rfl) rfl (ao_r (rig_add (c := ((i + 1 : Nat) : Int)) rfl rfl rfl (w64 _ (by omega) (by omega))) rfl (ao_r (rig_assign rfl rfl) rfl (ao_nil ?_)))
      exact ⟨[(1, .pointer (some ⟨p1, 0, none⟩)), (2, .pointer (some ⟨p2, 0, none⟩)), (3, v'), (4, .int .i64 (i + 1 : Nat))], _, ⟨rfl, rfl, rfl, rfl, trivial⟩, by omega, i + 1, v', Y', G', by omega, rfl, rfl, rfl, hD', hG.trans hG', hO'⟩
    refine awp_mid (fun r m' => r = [(1, .pointer (some ⟨p1, 0, none⟩)), (2, .pointer (some ⟨p2, 0, none⟩)), (3, v), (4, .int .i64 i), (29, .bool (keepF ns oz x))] ∧ U [Y, dirB p2 (.slice none 0 0) (.slice none 0 0) (.slice none 0 0), dirB p1 vn (.slice (some ⟨b, off, none⟩) fs.length ca) vo, G] = m') ?_ ?_
    · refine awp_draw (.q 0 (.q 1 (.q 2 (.q 3 (.q 4 (.q 5 (.q 6 (.q 7 (.q 8 (.q 9 (.q 10 (.q 11 (.q 12 (.q 13 (.q 14 (.q 15 (.q 16 (.q 17 .fin)))))))))))))))))) [] (by kernel_rfl) (by kernel_rfl) ?_
      refine oq rfl (rig_loadN (vs := [_, _, _]) rfl rfl Try.isAgg30 Try.sizeOf30 hdc) rfl (oq rfl (rig_fieldAddr rfl rfl Try.underlying30 rfl Try.sizeOf27 rfl) rfl (oq rfl (rig_load1 rfl rfl Try.isAgg27 d1) rfl (oq rfl (rig_move rfl rfl) rfl (oq rfl (rig_ix i rfl rfl rfl Try.underlying27 Try.sizeOf61 rfl rfl hil) rfl (oq rfl (rig_fieldAddr rfl rfl Try.underlying61 rfl Try.sizeOf3 rfl) rfl (oq rfl (rig_load1 rfl rfl Try.isAgg3 hxc.1) rfl ?_))))))
      refine oq rfl (rig_call rfl rfl e43 (F43 _ vn _ vo ns x.ino (RdSl.le hd.n hmU) hnl)) rfl (oq rfl (rig_move rfl rfl) rfl ?_)
      cases hnam : ns.any (nInoIs x.ino) with
      | true =>
        refine oqno rfl rfl rfl rfl rfl (oqno rfl rfl rfl rfl rfl (oqno rfl rfl rfl rfl rfl (oqno rfl rfl rfl rfl rfl (oqno rfl rfl rfl rfl rfl (oqno rfl rfl rfl rfl rfl (oqno rfl rfl rfl rfl rfl (oqno rfl rfl rfl rfl rfl (oq rfl (rig_pickT rfl rfl rfl) rfl (od_fin ?_)))))))))
        exact ⟨[(1, .pointer (some ⟨p1, 0, none⟩)), (2, .pointer (some ⟨p2, 0, none⟩)), (3, v), (4, .int .i64 i), (29, .bool true)], ⟨rfl, rfl, rfl, rfl, rfl, trivial⟩, by rw [keepF, hnam]; rfl, rfl⟩
      | false =>
        refine oqon rfl rfl rfl (rig_loadN (vs := [_, _, _]) rfl rfl Try.isAgg30 Try.sizeOf30 hdc) rfl (oqon rfl rfl rfl (rig_fieldAddr rfl rfl Try.underlying30 rfl Try.sizeOf27 rfl) rfl (oqon rfl rfl rfl (rig_load1 rfl rfl Try.isAgg27 d1) rfl (oqon rfl rfl rfl (rig_move rfl rfl) rfl (oqon rfl rfl rfl (rig_ix i rfl rfl rfl Try.underlying27 Try.sizeOf61 rfl rfl hil) rfl (oqon rfl rfl rfl (rig_fieldAddr rfl rfl Try.underlying61 rfl Try.sizeOf3 rfl) rfl (oqon rfl rfl rfl (rig_load1 rfl rfl Try.isAgg3 hxc.1) rfl ?_))))))
        refine oqon rfl rfl rfl (rig_call rfl rfl e44 (F44 _ vn _ vo oz x.ino (RdSl.le hd.o hmU) hol)) rfl (oq rfl (rig_pickF rfl rfl rfl) rfl (od_fin ?_))
        exact ⟨[(1, .pointer (some ⟨p1, 0, none⟩)), (2, .pointer (some ⟨p2, 0, none⟩)), (3, v), (4, .int .i64 i), (29, .bool (oz.any (zIs x.ino)))], ⟨rfl, rfl, rfl, rfl, rfl, trivial⟩, by rw [keepF, hnam, Bool.false_or], rfl⟩
    · rintro r m' ⟨rfl, rfl⟩
      refine awp_cond rfl (fun h2 => ?_) (fun h2 => ?_)
      · rw [if_pos h2] at htk
        refine awp_region ?_
        refine ao_r (rig_move rfl rfl) rfl (ao_r (rig_fieldAddr rfl rfl Try.underlying30 rfl Try.sizeOf27 rfl) rfl (ao_r (rig_load1 rfl rfl Try.isAgg27 d1) rfl (ao_r (rig_move rfl rfl) rfl (ao_r (rig_ix i rfl rfl rfl Try.underlying27 Try.sizeOf61 rfl rfl hil) rfl (ao_r (rig_loadN (vs := encF x) rfl rfl Try.isAgg61 Try.sizeOf61 hxc) rfl ?_)))))
        refine ao_x (ex_buildSlice rfl hD rfl Try.underlying27 Try.sizeOf61 Try.zeroValue61 (by decide) (by decide) (fill_one rfl (rangeMap_size _ _))) rfl fun w2 m2 ⟨b2, hw2, hm2, hD5⟩ => ?_
        subst hw2 hm2
        have hfl : ((fs.take i).filter (keepF ns oz)).length ≤ i := Nat.le_trans (List.length_filter_le _ _) (by rw [List.length_take]; omega)
        refine ao_x (ex_append 1 (by_ := 48) rfl hD5 rfl rfl Try.underlying27 inf61 rfl (by decide) (by decide) hO rfl (src_one (enc := encF) (x := x) encF_len ((cellsAt_one b2 (encF x).toArray 61).le U_le_head)) (one_rows encF_one _) (by rw [rows_length encF_len, rows_length encF_len]; simp; omega)) rfl fun w3 m3 ⟨Y3, hO3, hm3, hD6⟩ => ao_r (rig_assign rfl rfl) rfl (ao_nil ?_)
        subst hm3
        rw [← rows_append] at hO3
        replace hD6 : Dj [Go.Aw.one b2 (.cells (encF x).toArray 61 (0, 0)), Y3, dirB p2 (.slice none 0 0) (.slice none 0 0) (.slice none 0 0), dirB p1 vn (.slice (some ⟨b, off, none⟩) fs.length ca) vo, G] := hD6
        have hp : U [Go.Aw.one b2 (.cells (encF x).toArray 61 (0, 0)), Y3, dirB p2 (.slice none 0 0) (.slice none 0 0) (.slice none 0 0), dirB p1 vn (.slice (some ⟨b, off, none⟩) fs.length ca) vo, G] = U [Y3, dirB p2 (.slice none 0 0) (.slice none 0 0) (.slice none 0 0), dirB p1 vn (.slice (some ⟨b, off, none⟩) fs.length ca) vo, U [Go.Aw.one b2 (.cells (encF x).toArray 61 (0, 0)), G]] ∧ Dj [Y3, dirB p2 (.slice none 0 0) (.slice none 0 0) (.slice none 0 0), dirB p1 vn (.slice (some ⟨b, off, none⟩) fs.length ca) vo, U [Go.Aw.one b2 (.cells (encF x).toArray 61 (0, 0)), G]] ∧ HpLe G (U [Go.Aw.one b2 (.cells (encF x).toArray 61 (0, 0)), G]) := by
          have h : U [Go.Aw.one b2 (.cells (encF x).toArray 61 (0, 0)), Y3, dirB p2 (.slice none 0 0) (.slice none 0 0) (.slice none 0 0), dirB p1 vn (.slice (some ⟨b, off, none⟩) fs.length ca) vo, G] = U [Y3, dirB p2 (.slice none 0 0) (.slice none 0 0) (.slice none 0 0), dirB p1 vn (.slice (some ⟨b, off, none⟩) fs.length ca) vo, Go.Aw.one b2 (.cells (encF x).toArray 61 (0, 0)), G] ∧ Dj [Y3, dirB p2 (.slice none 0 0) (.slice none 0 0) (.slice none 0 0), dirB p1 vn (.slice (some ⟨b, off, none⟩) fs.length ca) vo, Go.Aw.one b2 (.cells (encF x).toArray 61 (0, 0)), G] := U_pm [1, 2, 3, 0, 4] rfl hD6
          exact ⟨h.1.trans (U_flat [Y3, _, _] _).symm, Dj_unflat (A := [Y3, _, _]) h.2, le_at 1 h.2.2.2.2 rfl⟩
        exact hend w3 Y3 _ _ hp.1.symm hp.2.1 hp.2.2 (by rw [htk]; exact hO3) _ ⟨rfl, rfl, rfl, rfl, trivial⟩
      · rw [if_neg (by rw [h2]; decide), List.append_nil] at htk
        exact awp_skip (hend v Y G _ rfl hD (HpLe.refl _) (by rw [htk]; exact hO) _ ⟨rfl, rfl, rfl, rfl, trivial⟩)
  · obtain rfl : i = fs.length := by omega
    rw [List.take_length] at hO
    refine awp_exit (hK1 _ _ (awp_rs ?_))
    refine ao_r (rig_move rfl rfl) rfl (ao_r (rig_fieldAddr rfl rfl Try.underlying30 rfl Try.sizeOf27 rfl) rfl ?_)
    obtain ⟨A5, k5, rfl⟩ := hO.len encF_len (by decide)
    refine ao_x0 (ex_store (i := 2) rfl hD rfl rfl Try.sizeOf27 (by simp [Value.cells, Value.oneCell']) rfl (by simp [Value.cells])) fun u m6 ⟨_, hm6, hD6⟩ => ao_nil ?_
    subst hm6
    replace hD6 : Dj [Y, dirB p2 (.slice none 0 0) (.slice none 0 0) (.slice none 0 0), dirB p1 vn (.slice A5 (fs.filter (keepF ns oz)).length k5) vo, G] := hD6
    show AWp _ _ _ _ _ (U [Y, dirB p2 (.slice none 0 0) (.slice none 0 0) (.slice none 0 0), dirB p1 vn (.slice A5 (fs.filter (keepF ns oz)).length k5) vo, G])
    refine awp_rs ?_
    refine ao_r (rig_loadN (vs := [_, _, _]) rfl rfl Try.isAgg30 Try.sizeOf30 (dirB_at 2 hD6 rfl)) rfl ?_
    refine ao_x0 (ex_store (i := 1) rfl hD6 rfl rfl Try.sizeOf30 (three_one h1 rfl h3) rfl (Nat.le_refl 3)) fun u m7 ⟨_, hm7, hD7⟩ => ao_nil ?_
    subst hm7
    replace hD7 : Dj [Y, dirB p2 vn (.slice A5 (fs.filter (keepF ns oz)).length k5) vo, dirB p1 vn (.slice A5 (fs.filter (keepF ns oz)).length k5) vo, G] := hD7
    have hD8 : Dj [Y, U [dirB p2 vn (.slice A5 (fs.filter (keepF ns oz)).length k5) vo, dirB p1 vn (.slice A5 (fs.filter (keepF ns oz)).length k5) vo, G]] := Dj_unflat (A := [Y]) hD7
    exact awp_ret ⟨_, resC (vs := [_, _, _]) Try.results26 rfl Try.isAgg30 Try.sizeOf30 (dirB_at 1 hD7 rfl), _, Y, _, rfl, (U_flat [Y] _).symm, hD8, hG.trans (le_at 2 hD7.2 rfl), hO.rd⟩
/-- Where a file is put in. -/
def PutIn (fs : List Fl) (x : Fl) (out : List Fl) : Prop := ∃ k, k ≤ fs.length ∧ out = fs.take k ++ x :: fs.drop k ∧ (∀ f ∈ fs.drop k, x.ino < f.ino) ∧ (0 < k → ∃ y, fs[k - 1]? = some y ∧ y.ino ≤ x.ino)
def filB (p : Nat) (x : Fl) : Hp := one p (.cells (encF x).toArray 61 (0, 0))
theorem filB_at {L : List Hp} (i : Nat) {p : Nat} {x : Fl} (hD : Dj L) (hi : L[i]? = some (filB p x)) : CellsAt (U L) p 0 (encF x) :=
  (cellsAt_one p (encF x).toArray 61).le (le_at i hD hi)
theorem e24 : Enters Try.prog 24 := enters_of Try.func24 (by kernel_rfl) rfl
set_option maxHeartbeats 2000000 in
set_option maxRecDepth 100000 in
theorem F24 (cf G : Hp) (vn vf vo : Value) (fs : List Fl) (x : Fl) (hO : Own 61 5 cf vf (rows encF fs)) (hD : Dj [cf, G]) (h1 : vn.oneCell' = true) (h3 : vo.oneCell' = true) (hl : fs.length ≤ 1048576) :
    GC Try.prog 24 #[.agg #[vn, vf, vo], x.val] (U [cf, G]) (fun u m' => ∃ vf' out cf' G', u = .agg #[vn, vf', vo] ∧ m' = U [cf', G'] ∧ Dj [cf', G'] ∧ HpLe G G' ∧ Own 61 5 cf' vf' (rows encF out) ∧ PutIn fs x out) := by
  obtain ⟨A, ca, rfl⟩ := hO.len encF_len (by decide)
  refine gc_intro (vs := [_, _]) Try.func24 rfl Try.ntmps24 (by simp) ?_
  refine awp_rs ?_
  refine ao_x (ex_box rfl hD rfl) rfl fun u m1 ⟨p2, hu, hm1, hD1⟩ => ?_
  subst hu hm1
  refine ao_x (ex_box rfl hD1 rfl) rfl fun u m1 ⟨p3, hu, hm1, hD2⟩ => ?_
  subst hu hm1
  refine ao_x (ex_alloc rfl hD2 zero30) rfl fun u m2 ⟨p4, hu, hm2, hD3⟩ => ao_nil ?_
  subst hu hm2
  replace hD3 : Dj [dirB p4 (.slice none 0 0) (.slice none 0 0) (.slice none 0 0), filB p3 x, dirB p2 vn (.slice A fs.length ca) vo, cf, G] := hD3
  show AWp _ _ _ _ _ (U [dirB p4 (.slice none 0 0) (.slice none 0 0) (.slice none 0 0), filB p3 x, dirB p2 vn (.slice A fs.length ca) vo, cf, G])
  obtain ⟨d0, d1, d2, _⟩ := dirB_at 2 hD3 rfl
  refine awp_rs (ao_r (rig_fieldAddr rfl rfl Try.underlying30 rfl Try.sizeOf27 rfl) rfl (ao_r (rig_load1 rfl rfl Try.isAgg27 d1) rfl (ao_r (rig_lenSl rfl rfl Try.underlying27) rfl (ao_r (rig_assign rfl rfl) rfl (ao_nil ?_)))))
  refine awp_rs (ao_r (rig_fieldAddr rfl rfl Try.underlying30 rfl Try.sizeOf27 rfl) rfl (ao_r (rig_load1 rfl rfl Try.isAgg27 d1) rfl (ao_r (rig_loadN (vs := encF x) rfl rfl Try.isAgg61 Try.sizeOf61 (filB_at 1 hD3 rfl)) rfl ?_)))
  refine ao_x (ex_buildSlice rfl hD3 rfl Try.underlying27 Try.sizeOf61 Try.zeroValue61 (by decide) (by decide) (fill_one rfl (rangeMap_size _ _))) rfl fun w2 m2 ⟨b2, hw2, hm2, hD5⟩ => ?_
  subst hw2 hm2
  refine ao_x (ex_append 4 (by_ := 48) rfl hD5 rfl rfl Try.underlying27 inf61 rfl (by decide) (by decide) hO rfl (src_one (enc := encF) (x := x) encF_len ((cellsAt_one b2 (encF x).toArray 61).le U_le_head)) (one_rows encF_one _) (by rw [rows_length encF_len, rows_length encF_len]; simp; omega)) rfl fun w3 m3 ⟨Y3, hO3, hm3, hD6⟩ => ao_r (rig_fieldAddr rfl rfl Try.underlying30 rfl Try.sizeOf27 rfl) rfl ?_
  subst hm3
  rw [← rows_append] at hO3
  obtain ⟨g, cap2, sp, rfl, rfl, hsp, hnc, hcm⟩ := hO3.some_ encF_len (by decide) (by simp)
  refine ao_x0 (ex_store (i := 3) rfl hD6 rfl rfl Try.sizeOf27 (by simp [Value.cells, Value.oneCell']) rfl (by simp [Value.cells])) fun u m6 ⟨_, hm6, hD7⟩ => ao_nil ?_
  subst hm6
  have hlen : (fs ++ [x]).length = fs.length + 1 := by simp
  rw [hlen] at hnc
  replace hD7 : Dj [Go.Aw.one b2 (.cells (encF x).toArray 61 (0, 0)), dirB p4 (.slice none 0 0) (.slice none 0 0) (.slice none 0 0), filB p3 x, dirB p2 vn (.slice (some ⟨g, 0, none⟩) (fs ++ [x]).length cap2) vo, Go.Aw.one g (.cells (rows encF (fs ++ [x]) ++ sp).toArray 61 (0, 0)), G] := hD7
  rw [hlen] at hD7
  have hp : U [Go.Aw.one b2 (.cells (encF x).toArray 61 (0, 0)), dirB p4 (.slice none 0 0) (.slice none 0 0) (.slice none 0 0), filB p3 x, dirB p2 vn (.slice (some ⟨g, 0, none⟩) (fs.length + 1) cap2) vo, Go.Aw.one g (.cells (rows encF (fs ++ [x]) ++ sp).toArray 61 (0, 0)), G] = U [dirB p4 (.slice none 0 0) (.slice none 0 0) (.slice none 0 0), filB p3 x, dirB p2 vn (.slice (some ⟨g, 0, none⟩) (fs.length + 1) cap2) vo, Go.Aw.one g (.cells (rows encF (fs ++ [x]) ++ sp).toArray 61 (0, 0)), U [Go.Aw.one b2 (.cells (encF x).toArray 61 (0, 0)), G]] ∧ Dj [dirB p4 (.slice none 0 0) (.slice none 0 0) (.slice none 0 0), filB p3 x, dirB p2 vn (.slice (some ⟨g, 0, none⟩) (fs.length + 1) cap2) vo, Go.Aw.one g (.cells (rows encF (fs ++ [x]) ++ sp).toArray 61 (0, 0)), U [Go.Aw.one b2 (.cells (encF x).toArray 61 (0, 0)), G]] ∧ HpLe G (U [Go.Aw.one b2 (.cells (encF x).toArray 61 (0, 0)), G]) := by
    have h : U [Go.Aw.one b2 (.cells (encF x).toArray 61 (0, 0)), dirB p4 (.slice none 0 0) (.slice none 0 0) (.slice none 0 0), filB p3 x, dirB p2 vn (.slice (some ⟨g, 0, none⟩) (fs.length + 1) cap2) vo, Go.Aw.one g (.cells (rows encF (fs ++ [x]) ++ sp).toArray 61 (0, 0)), G] = U [dirB p4 (.slice none 0 0) (.slice none 0 0) (.slice none 0 0), filB p3 x, dirB p2 vn (.slice (some ⟨g, 0, none⟩) (fs.length + 1) cap2) vo, Go.Aw.one g (.cells (rows encF (fs ++ [x]) ++ sp).toArray 61 (0, 0)), Go.Aw.one b2 (.cells (encF x).toArray 61 (0, 0)), G] ∧ Dj [dirB p4 (.slice none 0 0) (.slice none 0 0) (.slice none 0 0), filB p3 x, dirB p2 vn (.slice (some ⟨g, 0, none⟩) (fs.length + 1) cap2) vo, Go.Aw.one g (.cells (rows encF (fs ++ [x]) ++ sp).toArray 61 (0, 0)), Go.Aw.one b2 (.cells (encF x).toArray 61 (0, 0)), G] := U_pm [1, 2, 3, 4, 0, 5] rfl hD7
    exact ⟨h.1.trans (U_flat [_, _, _, _] _).symm, Dj_unflat (A := [_, _, _, _]) h.2, le_at 1 h.2.2.2.2.2 rfl⟩
  obtain ⟨e8, hD8, hG8⟩ := hp
  show AWp _ _ _ _ _ (U [Go.Aw.one b2 (.cells (encF x).toArray 61 (0, 0)), dirB p4 (.slice none 0 0) (.slice none 0 0) (.slice none 0 0), filB p3 x, dirB p2 vn (.slice (some ⟨g, 0, none⟩) (fs ++ [x]).length cap2) vo, Go.Aw.one g (.cells (rows encF (fs ++ [x]) ++ sp).toArray 61 (0, 0)), G])
  rw [hlen, e8]
  generalize U [Go.Aw.one b2 (.cells (encF x).toArray 61 (0, 0)), G] = G2 at hD8 hG8
  clear e8 hD7 hD6 hD5 hD3 hD2 hD1 d0 d1 d2
  refine awp_sk fun K1 hK1 => ?_
  -- behind the loop
  have fin : ∀ (kk : Nat) (z : Fl) (r : Env), kk ≤ fs.length → Dj [dirB p4 (.slice none 0 0) (.slice none 0 0) (.slice none 0 0), filB p3 x, dirB p2 vn (.slice (some ⟨g, 0, none⟩) (fs.length + 1) cap2) vo, Go.Aw.one g (.cells (rows encF (fs.take kk ++ z :: fs.drop kk) ++ sp).toArray 61 (0, 0)), G2] → PutIn fs x (fs.take kk ++ x :: fs.drop kk) →
      EnvLe [(2, .pointer (some ⟨p2, 0, none⟩)), (3, .pointer (some ⟨p3, 0, none⟩)), (4, .pointer (some ⟨p4, 0, none⟩)), (5, .int .i64 kk)] r → K1 r (U [dirB p4 (.slice none 0 0) (.slice none 0 0) (.slice none 0 0), filB p3 x, dirB p2 vn (.slice (some ⟨g, 0, none⟩) (fs.length + 1) cap2) vo, Go.Aw.one g (.cells (rows encF (fs.take kk ++ z :: fs.drop kk) ++ sp).toArray 61 (0, 0)), G2]) := by
    intro kk z r hk hd hI hle
    have hz : (fs.take kk ++ z :: fs.drop kk).length = fs.length + 1 := by simp; omega
    obtain ⟨d0, d1, d2, _⟩ := dirB_at 2 hd rfl
    refine hK1 _ _ (awp_le _ hle (awp_rs ?_))
    refine ao_r (rig_fieldAddr rfl rfl Try.underlying30 rfl Try.sizeOf27 rfl) rfl (ao_r (rig_load1 rfl rfl Try.isAgg27 d1) rfl (ao_r (rig_move rfl rfl) rfl (ao_r (rig_loadN (vs := encF x) rfl rfl Try.isAgg61 Try.sizeOf61 (filB_at 1 hd rfl)) rfl (ao_r (rig_ix kk rfl rfl rfl Try.underlying27 Try.sizeOf61 rfl rfl (by omega)) rfl ?_))))
    refine ao_x0 (ex_store (i := 3) rfl hd rfl rfl Try.sizeOf61 (encF_one x) rfl (by simp [Value.cells, rows_length encF_len, hz, encF]; omega)) fun u m2 ⟨_, hm2, hd2⟩ => ao_nil ?_
    subst hm2
    have erow : putR (rows encF (fs.take kk ++ z :: fs.drop kk) ++ sp).toArray (0 + kk * 5) (encF x) = (rows encF (fs.take kk ++ x :: fs.drop kk) ++ sp).toArray := by
      rw [Nat.zero_add, putR_rows encF_len _ kk x sp (by omega)]
      congr 3
      rw [List.set_append_right _ _ (by simp; omega)]; simp [Nat.min_eq_left hk]
    have key : U ([dirB p4 (.slice none 0 0) (.slice none 0 0) (.slice none 0 0), filB p3 x, dirB p2 vn (.slice (some ⟨g, 0, none⟩) (fs.length + 1) cap2) vo, Go.Aw.one g (.cells (rows encF (fs.take kk ++ z :: fs.drop kk) ++ sp).toArray 61 (0, 0)), G2].set 3 (Go.Aw.one g (.cells (putR (rows encF (fs.take kk ++ z :: fs.drop kk) ++ sp).toArray (0 + kk * 5) (encF x)) 61 (0, 0)))) = U [dirB p4 (.slice none 0 0) (.slice none 0 0) (.slice none 0 0), filB p3 x, dirB p2 vn (.slice (some ⟨g, 0, none⟩) (fs.length + 1) cap2) vo, Go.Aw.one g (.cells (rows encF (fs.take kk ++ x :: fs.drop kk) ++ sp).toArray 61 (0, 0)), G2] ∧ Dj [dirB p4 (.slice none 0 0) (.slice none 0 0) (.slice none 0 0), filB p3 x, dirB p2 vn (.slice (some ⟨g, 0, none⟩) (fs.length + 1) cap2) vo, Go.Aw.one g (.cells (rows encF (fs.take kk ++ x :: fs.drop kk) ++ sp).toArray 61 (0, 0)), G2] := by
      rw [← erow]; exact ⟨rfl, hd2⟩
    obtain ⟨ek, hd3⟩ := key
    show AWp _ _ _ _ _ (U ([dirB p4 (.slice none 0 0) (.slice none 0 0) (.slice none 0 0), filB p3 x, dirB p2 vn (.slice (some ⟨g, 0, none⟩) (fs.length + 1) cap2) vo, Go.Aw.one g (.cells (rows encF (fs.take kk ++ z :: fs.drop kk) ++ sp).toArray 61 (0, 0)), G2].set 3 (Go.Aw.one g (.cells (putR (rows encF (fs.take kk ++ z :: fs.drop kk) ++ sp).toArray (0 + kk * 5) (encF x)) 61 (0, 0)))))
    rw [ek]
    refine awp_rs (ao_r (rig_loadN (vs := [_, _, _]) rfl rfl Try.isAgg30 Try.sizeOf30 (dirB_at 2 hd3 rfl)) rfl ?_)
    refine ao_x0 (ex_store (i := 0) rfl hd3 rfl rfl Try.sizeOf30 (three_one h1 rfl h3) rfl (Nat.le_refl 3)) fun u m7 ⟨_, hm7, hD7⟩ => ao_nil ?_
    subst hm7
    replace hD7 : Dj [dirB p4 vn (.slice (some ⟨g, 0, none⟩) (fs.length + 1) cap2) vo, filB p3 x, dirB p2 vn (.slice (some ⟨g, 0, none⟩) (fs.length + 1) cap2) vo, Go.Aw.one g (.cells (rows encF (fs.take kk ++ x :: fs.drop kk) ++ sp).toArray 61 (0, 0)), G2] := hD7
    have hp : U [dirB p4 vn (.slice (some ⟨g, 0, none⟩) (fs.length + 1) cap2) vo, filB p3 x, dirB p2 vn (.slice (some ⟨g, 0, none⟩) (fs.length + 1) cap2) vo, Go.Aw.one g (.cells (rows encF (fs.take kk ++ x :: fs.drop kk) ++ sp).toArray 61 (0, 0)), G2] = U [Go.Aw.one g (.cells (rows encF (fs.take kk ++ x :: fs.drop kk) ++ sp).toArray 61 (0, 0)), dirB p4 vn (.slice (some ⟨g, 0, none⟩) (fs.length + 1) cap2) vo, filB p3 x, dirB p2 vn (.slice (some ⟨g, 0, none⟩) (fs.length + 1) cap2) vo, G2] ∧ Dj [Go.Aw.one g (.cells (rows encF (fs.take kk ++ x :: fs.drop kk) ++ sp).toArray 61 (0, 0)), dirB p4 vn (.slice (some ⟨g, 0, none⟩) (fs.length + 1) cap2) vo, filB p3 x, dirB p2 vn (.slice (some ⟨g, 0, none⟩) (fs.length + 1) cap2) vo, G2] := U_pm [3, 0, 1, 2, 4] rfl hD7
    have hz2 : (fs.take kk ++ x :: fs.drop kk).length = fs.length + 1 := by simp; omega
    refine awp_ret ⟨_, resC (vs := [_, _, _]) Try.results24 rfl Try.isAgg30 Try.sizeOf30 (dirB_at 0 hD7 rfl), _, fs.take kk ++ x :: fs.drop kk, _, _, rfl, hp.1.trans (U_flat [_] _).symm, Dj_unflat (A := [_]) hp.2, hG8.trans (le_at 3 hp.2.2 rfl), ?_, hI⟩
    rw [← hz2]
    refine Own.mk_ encF_len ?_ (by rw [hz2]; exact hnc) hcm
    rw [List.length_append, rows_length encF_len] at hsp ⊢
    rw [hz2]
    simpa using hsp
  refine awp_block ?_
  refine awp_le [(2, .pointer (some ⟨p2, 0, none⟩)), (3, .pointer (some ⟨p3, 0, none⟩)), (4, .pointer (some ⟨p4, 0, none⟩)), (5, .int .i64 fs.length)] ⟨rfl, rfl, rfl, rfl, trivial⟩ ?_
  refine awp_loop (fun k r mm => ∃ z, k ≤ fs.length ∧ r = [(2, .pointer (some ⟨p2, 0, none⟩)), (3, .pointer (some ⟨p3, 0, none⟩)), (4, .pointer (some ⟨p4, 0, none⟩)), (5, .int .i64 (k : Nat))] ∧ U [dirB p4 (.slice none 0 0) (.slice none 0 0) (.slice none 0 0), filB p3 x, dirB p2 vn (.slice (some ⟨g, 0, none⟩) (fs.length + 1) cap2) vo, Go.Aw.one g (.cells (rows encF (fs.take k ++ z :: fs.drop k) ++ sp).toArray 61 (0, 0)), G2] = mm ∧ Dj [dirB p4 (.slice none 0 0) (.slice none 0 0) (.slice none 0 0), filB p3 x, dirB p2 vn (.slice (some ⟨g, 0, none⟩) (fs.length + 1) cap2) vo, Go.Aw.one g (.cells (rows encF (fs.take k ++ z :: fs.drop k) ++ sp).toArray 61 (0, 0)), G2] ∧ ∀ f ∈ fs.drop k, x.ino < f.ino) fs.length
    ⟨x, Nat.le_refl _, rfl, by rw [List.take_length, List.drop_length], by rw [List.take_length, List.drop_length]; exact hD8, by rw [List.drop_length]; simp⟩ ?_
  clear hD8
  rintro k r mm ⟨z, hk, rfl, rfl, hd, hlt⟩
  obtain ⟨d0, d1, d2, _⟩ := dirB_at 2 hd rfl
  have hxc := filB_at 1 hd rfl
  refine awp_sk fun K2 hK2 => ?_
  by_cases hk0 : (0 : Int) < (k : Int)
  · obtain ⟨y, hy⟩ := get_lt (l := fs) (i := k - 1) (by omega)
    have hyl : (fs.take k ++ z :: fs.drop k)[k - 1]? = some y := by
      rw [List.getElem?_append_left (by rw [List.length_take]; omega), List.getElem?_take_of_lt (by omega), hy]
    have hz : (fs.take k ++ z :: fs.drop k).length = fs.length + 1 := by simp; omega
    have hyc : CellsAt (U [dirB p4 (.slice none 0 0) (.slice none 0 0) (.slice none 0 0), filB p3 x, dirB p2 vn (.slice (some ⟨g, 0, none⟩) (fs.length + 1) cap2) vo, Go.Aw.one g (.cells (rows encF (fs.take k ++ z :: fs.drop k) ++ sp).toArray 61 (0, 0)), G2]) g (0 + (k - 1) * 5) (encF y) := by
      refine CellsAt.le (le_at 3 hd rfl) (CellsAt.elem encF_len (CellsAt.of_get fun j v hj => ?_) hyl)
      refine Go.Aw.one_cell g _ 61 _ v ?_
      rw [List.getElem?_toArray, Nat.zero_add, List.getElem?_append_left (List.getElem?_eq_some_iff.1 hj).1]; exact hj
    refine awp_ds (.q 0 (.q 1 (.q 2 (.q 3 (.q 4 (.q 5 (.q 6 (.q 7 (.q 8 (.q 9 (.q 10 (.q 11 (.q 12 (.q 13 .fin)))))))))))))) [] (by kernel_rfl) (by kernel_rfl) ?_
    refine oq rfl (rig_move rfl rfl) rfl (oq rfl (rig_gtr rfl rfl rfl) rfl ?_)
    rw [decide_eq_true hk0]
    refine oq rfl (rig_move rfl rfl) rfl (oqon rfl rfl rfl (rig_fieldAddr rfl rfl Try.underlying30 rfl Try.sizeOf27 rfl) rfl (oqon rfl rfl rfl (rig_load1 rfl rfl Try.isAgg27 d1) rfl (oqon rfl rfl rfl (rig_move rfl rfl) rfl (oqon rfl rfl rfl (rig_sub (c := ((k - 1 : Nat) : Int)) rfl rfl rfl (by rw [w64 _ (by omega) (by omega)]; omega)) rfl (oqon rfl rfl rfl (rig_ix (k - 1) rfl rfl rfl Try.underlying27 Try.sizeOf61 rfl rfl (by omega)) rfl ?_)))))
    refine oqon rfl rfl rfl (rig_fieldAddr rfl rfl Try.underlying61 rfl Try.sizeOf3 rfl) rfl (oqon rfl rfl rfl (rig_load1 rfl rfl Try.isAgg3 hyc.1) rfl (oqon rfl rfl rfl (rig_fieldAddr rfl rfl Try.underlying61 rfl Try.sizeOf3 rfl) rfl (oqon rfl rfl rfl (rig_load1 rfl rfl Try.isAgg3 hxc.1) rfl (oqon rfl rfl rfl (rig_gtr rfl rfl rfl) rfl (oq rfl (rig_pickT rfl rfl rfl) rfl (od_fin ?_))))))
    refine awp_if rfl (fun h => ?_) (fun h => ?_)
    · refine awp_skip (hK2 _ _ (awp_block ?_))
      refine awp_ds (.q 0 (.q 1 (.q 2 (.q 3 (.q 4 (.q 5 (.q 6 (.q 7 (.q 8 (.q 9 (.s 10 .fin))))))))))) [10] (by kernel_rfl) (by kernel_rfl) ?_
      refine oq rfl (rig_fieldAddr rfl rfl Try.underlying30 rfl Try.sizeOf27 rfl) rfl (oq rfl (rig_load1 rfl rfl Try.isAgg27 d1) rfl (oq rfl (rig_move rfl rfl) rfl (oq rfl (rig_fieldAddr rfl rfl Try.underlying30 rfl Try.sizeOf27 rfl) rfl (oq rfl (rig_load1 rfl rfl Try.isAgg27 d1) rfl (oq rfl (rig_move rfl rfl) rfl (oq rfl (rig_sub (c := ((k - 1 : Nat) : Int)) rfl rfl rfl (by rw [w64 _ (by omega) (by omega)]; omega)) rfl ?_))))))
      refine oq rfl (rig_ix (k - 1) rfl rfl rfl Try.underlying27 Try.sizeOf61 rfl rfl (by omega)) rfl (oq rfl (rig_loadN (vs := encF y) rfl rfl Try.isAgg61 Try.sizeOf61 hyc) rfl (oq rfl (rig_ix k rfl rfl rfl Try.underlying27 Try.sizeOf61 rfl rfl (by omega)) rfl ?_))
      refine os0 rfl (ex_store (i := 3) rfl hd rfl rfl Try.sizeOf61 (encF_one y) rfl (by simp [Value.cells, rows_length encF_len, hz, encF]; omega)) fun u m2 ⟨_, hm2, hd2⟩ => ⟨fun h => by simp at h, od_fin ?_⟩
      subst hm2
      have elist : (fs.take k ++ z :: fs.drop k).set k y = fs.take (k - 1) ++ y :: fs.drop (k - 1) := by
        have e1 : fs.take k = fs.take (k - 1) ++ [y] := by
          have := takeS hy
          rwa [show k - 1 + 1 = k by omega] at this
        have e2 : fs.drop (k - 1) = y :: fs.drop k := by
          have := List.drop_eq_getElem_cons (l := fs) (i := k - 1) (by omega)
          rw [this, show k - 1 + 1 = k by omega, (List.getElem?_eq_some_iff.1 hy).2]
        rw [List.set_append_right _ _ (by simp; omega), List.length_take, Nat.min_eq_left hk, Nat.sub_self, List.set_cons_zero, e1, e2]
        simp
      have erow : putR (rows encF (fs.take k ++ z :: fs.drop k) ++ sp).toArray (0 + k * 5) (encF y) = (rows encF (fs.take (k - 1) ++ y :: fs.drop (k - 1)) ++ sp).toArray := by
        rw [Nat.zero_add, putR_rows encF_len _ k y sp (by omega), elist]
      have key : U ([dirB p4 (.slice none 0 0) (.slice none 0 0) (.slice none 0 0), filB p3 x, dirB p2 vn (.slice (some ⟨g, 0, none⟩) (fs.length + 1) cap2) vo, Go.Aw.one g (.cells (rows encF (fs.take k ++ z :: fs.drop k) ++ sp).toArray 61 (0, 0)), G2].set 3 (Go.Aw.one g (.cells (putR (rows encF (fs.take k ++ z :: fs.drop k) ++ sp).toArray (0 + k * 5) (encF y)) 61 (0, 0)))) = U [dirB p4 (.slice none 0 0) (.slice none 0 0) (.slice none 0 0), filB p3 x, dirB p2 vn (.slice (some ⟨g, 0, none⟩) (fs.length + 1) cap2) vo, Go.Aw.one g (.cells (rows encF (fs.take (k - 1) ++ y :: fs.drop (k - 1)) ++ sp).toArray 61 (0, 0)), G2] ∧ Dj [dirB p4 (.slice none 0 0) (.slice none 0 0) (.slice none 0 0), filB p3 x, dirB p2 vn (.slice (some ⟨g, 0, none⟩) (fs.length + 1) cap2) vo, Go.Aw.one g (.cells (rows encF (fs.take (k - 1) ++ y :: fs.drop (k - 1)) ++ sp).toArray 61 (0, 0)), G2] := by
        rw [← erow]; exact ⟨rfl, hd2⟩
      obtain ⟨ek, hd3⟩ := key
      show AWp _ _ _ _ _ (U ([dirB p4 (.slice none 0 0) (.slice none 0 0) (.slice none 0 0), filB p3 x, dirB p2 vn (.slice (some ⟨g, 0, none⟩) (fs.length + 1) cap2) vo, Go.Aw.one g (.cells (rows encF (fs.take k ++ z :: fs.drop k) ++ sp).toArray 61 (0, 0)), G2].set 3 (Go.Aw.one g (.cells (putR (rows encF (fs.take k ++ z :: fs.drop k) ++ sp).toArray (0 + k * 5) (encF y)) 61 (0, 0)))))
      rw [ek]
      refine awp_region (ao_r (rig_move rfl rfl) rfl (ao_r (rig_sub (c := ((k - 1 : Nat) : Int)) rfl rfl rfl (by rw [w64 _ (by omega) (by omega)]; omega)) rfl (ao_r (rig_assign rfl rfl) rfl (ao_nil ?_))))
      refine ⟨[(2, .pointer (some ⟨p2, 0, none⟩)), (3, .pointer (some ⟨p3, 0, none⟩)), (4, .pointer (some ⟨p4, 0, none⟩)), (5, .int .i64 (k - 1 : Nat))], k - 1, ⟨rfl, rfl, rfl, rfl, trivial⟩, by omega, y, by omega, rfl, rfl, hd3, fun f hf => ?_⟩
      have e2 : fs.drop (k - 1) = y :: fs.drop k := by
        have := List.drop_eq_getElem_cons (l := fs) (i := k - 1) (by omega)
        rw [this, show k - 1 + 1 = k by omega, (List.getElem?_eq_some_iff.1 hy).2]
      rw [e2] at hf
      rcases List.mem_cons.1 hf with rfl | hf
      · exact h
      · exact hlt f hf
    · exact awp_exit (fin k z _ hk hd ⟨k, hk, rfl, hlt, fun _ => ⟨y, hy, by omega⟩⟩ ⟨rfl, rfl, rfl, rfl, trivial⟩)
  · obtain rfl : k = 0 := by omega
    refine awp_ds (.q 0 (.q 1 (.q 2 (.q 3 (.q 4 (.q 5 (.q 6 (.q 7 (.q 8 (.q 9 (.q 10 (.q 11 (.q 12 (.q 13 .fin)))))))))))))) [] (by kernel_rfl) (by kernel_rfl) ?_
    refine oq rfl (rig_move rfl rfl) rfl (oq rfl (rig_gtr rfl rfl rfl) rfl ?_)
    rw [decide_eq_false hk0]
    refine oq rfl (rig_move rfl rfl) rfl (oqno rfl rfl rfl rfl rfl (oqno rfl rfl rfl rfl rfl (oqno rfl rfl rfl rfl rfl (oqno rfl rfl rfl rfl rfl (oqno rfl rfl rfl rfl rfl (oqno rfl rfl rfl rfl rfl (oqno rfl rfl rfl rfl rfl (oqno rfl rfl rfl rfl rfl (oqno rfl rfl rfl rfl rfl (oqno rfl rfl rfl rfl rfl (oq rfl (rig_pickF rfl rfl rfl) rfl (od_fin ?_))))))))))))
    refine awp_false rfl (awp_exit (fin 0 z _ hk hd ⟨0, hk, rfl, hlt, fun h => by omega⟩ ⟨rfl, rfl, rfl, rfl, trivial⟩))
end Go.Proofs.Ytbonkkbpjlikjaa
/- Chapter 7, the reference: link. -/
set_option linter.unusedVariables false
set_option linter.unusedSimpArgs false
namespace Go.Proofs.Ytbonkkbpjlikjaa
open Go Go.Aw Go.RowKit
def namB (p : Nat) (x : Nm) : Hp := one p (.cells (encN x).toArray 68 (0, 0))
theorem namB_at {L : List Hp} (i : Nat) {p : Nat} {x : Nm} (hD : Dj L) (hi : L[i]? = some (namB p x)) : CellsAt (U L) p 0 (encN x) :=
  (cellsAt_one p (encN x).toArray 68).le (le_at i hD hi)
theorem e23 : Enters Try.prog 23 := enters_of Try.func23 (by kernel_rfl) rfl
set_option maxHeartbeats 2000000 in
set_option maxRecDepth 100000 in
theorem F23 (m : Hp) (vn vf vo : Value) (ns : List Nm) (x : Nm) (hn : RdSl m encN 2 vn ns) (h2 : vf.oneCell' = true) (h3 : vo.oneCell' = true) (hl : ns.length ≤ 1048576) :
    GC Try.prog 23 #[.agg #[vn, vf, vo], .string x.nm, .int .i64 x.ino] m (fun u m' => ∃ vn' out c G, u = .agg #[vn', vf, vo] ∧ m' = U [c, G] ∧ Dj [c, G] ∧ HpLe m G ∧ RdSl c encN 2 vn' out ∧ (∀ n ∈ out, n ∈ ns ∨ n = x) ∧ out.length ≤ ns.length + 1) := by
  have h1 := hn.one_
  refine gc_intro (vs := [_, _, _]) Try.func23 rfl Try.ntmps23 (by simp) ?_
  refine awp_u (awp_rs ?_)
  refine ao_x (ex_box rfl (Dj_single m) rfl) rfl fun u m1 ⟨p3, hu, hm1, hD1⟩ => ?_
  subst hu hm1
  refine ao_x (ex_alloc rfl hD1 zero30) rfl fun u m2 ⟨p6, hu, hm2, hD2⟩ => ao_nil ?_
  subst hu hm2
  replace hD2 : Dj [dirB p6 (.slice none 0 0) (.slice none 0 0) (.slice none 0 0), dirB p3 vn vf vo, m] := hD2
  show AWp _ _ _ _ _ (U [dirB p6 (.slice none 0 0) (.slice none 0 0) (.slice none 0 0), dirB p3 vn vf vo, m])
  -- without the name
  have hm2 : HpLe m (U [dirB p6 (.slice none 0 0) (.slice none 0 0) (.slice none 0 0), dirB p3 vn vf vo, m]) := le_at 2 hD2 rfl
  refine awp_rs (ao_r (rig_loadN (vs := [_, _, _]) rfl rfl Try.isAgg30 Try.sizeOf30 (dirB_at 1 hD2 rfl)) rfl (ao_r (rig_move rfl rfl) rfl ?_))
  refine ao_x (ex_call rfl rfl e25 (F25 _ vn vf vo ns x.nm (RdSl.le hn hm2) h2 h3 hl)) rfl fun u m3 ⟨vn1, Y, G1, hu, hm3, hD3, hG1, hO⟩ => ?_
  subst hu hm3
  obtain ⟨G2, hG2, hDG, rfl⟩ := grow_to (cs := [dirB p6 (.slice none 0 0) (.slice none 0 0) (.slice none 0 0), dirB p3 vn vf vo]) hD2 hG1
  replace hD3 : Dj [Y, U [dirB p6 (.slice none 0 0) (.slice none 0 0) (.slice none 0 0), dirB p3 vn vf vo, G2]] := hD3
  have hD4 : Dj [Y, dirB p6 (.slice none 0 0) (.slice none 0 0) (.slice none 0 0), dirB p3 vn vf vo, G2] := Dj_flat (A := [Y]) hD3 hDG
  have e4 : U [Y, U [dirB p6 (.slice none 0 0) (.slice none 0 0) (.slice none 0 0), dirB p3 vn vf vo, G2]] = U [Y, dirB p6 (.slice none 0 0) (.slice none 0 0) (.slice none 0 0), dirB p3 vn vf vo, G2] := U_flat [Y] _
  show AOps _ _ _ _ _ (U [Y, U [dirB p6 (.slice none 0 0) (.slice none 0 0) (.slice none 0 0), dirB p3 vn vf vo, G2]]) _
  rw [e4]
  generalize hns1 : ns.filter (fun y => !nameIs x.nm y) = ns1 at hO
  have hmem1 : ∀ n ∈ ns1, n ∈ ns := fun n hn => by rw [← hns1] at hn; exact (List.mem_filter.1 hn).1
  have hl1 : ns1.length ≤ ns.length := by rw [← hns1]; exact List.length_filter_le _ _
  obtain ⟨A1, c1, rfl⟩ := hO.len encN_len (by decide)
  refine ao_x0 (ex_store (i := 2) rfl hD4 rfl rfl Try.sizeOf30 (three_one rfl h2 h3) rfl (Nat.le_refl 3)) fun u m7 ⟨_, hm7, hD5⟩ => ao_nil ?_
  subst hm7
  replace hD5 : Dj [Y, dirB p6 (.slice none 0 0) (.slice none 0 0) (.slice none 0 0), dirB p3 (.slice A1 ns1.length c1) vf vo, G2] := hD5
  show AWp _ _ _ _ _ (U [Y, dirB p6 (.slice none 0 0) (.slice none 0 0) (.slice none 0 0), dirB p3 (.slice A1 ns1.length c1) vf vo, G2])
  refine awp_rs (ao_r (rig_move rfl rfl) rfl (ao_r (rig_move rfl rfl) rfl (ao_r (rig_build (pl := #[(0, 1), (1, 1)]) (cs := #[.string x.nm, .int .i64 x.ino]) rfl rfl Try.underlying68 Try.zeroValue68 (fun w => by kernel_rfl) rfl) rfl ?_)))
  refine ao_x (ex_alloc rfl hD5 Try.zeroValue68) rfl fun u m7 ⟨p7, hu, hm7, hD7⟩ => ?_
  subst hu hm7
  refine ao_x0 (ex_store (i := 0) rfl hD7 rfl rfl Try.sizeOf68 (encN_one x) rfl (by simp [Value.cells])) fun u m8 ⟨_, hm8, hD8⟩ => ao_nil ?_
  subst hm8
  rw [List.set_cons_zero, putR_all _ _ (by rfl)] at hD8 ⊢
  replace hD8 : Dj [namB p7 x, Y, dirB p6 (.slice none 0 0) (.slice none 0 0) (.slice none 0 0), dirB p3 (.slice A1 ns1.length c1) vf vo, G2] := hD8
  show AWp _ _ _ _ _ (U [namB p7 x, Y, dirB p6 (.slice none 0 0) (.slice none 0 0) (.slice none 0 0), dirB p3 (.slice A1 ns1.length c1) vf vo, G2])
  obtain ⟨d0, d1, d2, _⟩ := dirB_at 3 hD8 rfl
  refine awp_rs (ao_r (rig_fieldAddr rfl rfl Try.underlying30 rfl Try.sizeOf26 rfl) rfl (ao_r (rig_load1 rfl rfl Try.isAgg26 d0) rfl (ao_r (rig_lenSl rfl rfl Try.underlying26) rfl (ao_r (rig_assign rfl rfl) rfl (ao_nil ?_)))))
  refine awp_rs (ao_r (rig_fieldAddr rfl rfl Try.underlying30 rfl Try.sizeOf26 rfl) rfl (ao_r (rig_load1 rfl rfl Try.isAgg26 d0) rfl (ao_r (rig_loadN (vs := encN x) rfl rfl Try.isAgg68 Try.sizeOf68 (namB_at 0 hD8 rfl)) rfl ?_)))
  refine ao_x (ex_buildSlice rfl hD8 rfl Try.underlying26 Try.sizeOf68 Try.zeroValue68 (by decide) (by decide) (fill_one rfl (rangeMap_size _ _))) rfl fun w2 m2 ⟨b2, hw2, hm2, hD9⟩ => ?_
  subst hw2 hm2
  refine ao_x (ex_append 2 (by_ := 24) rfl hD9 rfl rfl Try.underlying26 inf68 rfl (by decide) (by decide) hO rfl (src_one (enc := encN) (x := x) encN_len ((cellsAt_one b2 (encN x).toArray 68).le U_le_head)) (one_rows encN_one _) (by rw [rows_length encN_len, rows_length encN_len]; simp; omega)) rfl fun w3 m3 ⟨Y3, hO3, hm3, hD10⟩ => ao_r (rig_fieldAddr rfl rfl Try.underlying30 rfl Try.sizeOf26 rfl) rfl ?_
  subst hm3
  rw [← rows_append] at hO3
  obtain ⟨g, cap2, sp, rfl, rfl, hsp, hnc, hcm⟩ := hO3.some_ encN_len (by decide) (by simp)
  refine ao_x0 (ex_store (i := 4) rfl hD10 rfl rfl Try.sizeOf26 (by simp [Value.cells, Value.oneCell']) rfl (by simp [Value.cells])) fun u m6 ⟨_, hm6, hD11⟩ => ao_nil ?_
  subst hm6
  have hlen : (ns1 ++ [x]).length = ns1.length + 1 := by simp
  rw [hlen] at hnc
  replace hD11 : Dj [Go.Aw.one b2 (.cells (encN x).toArray 68 (0, 0)), namB p7 x, Go.Aw.one g (.cells (rows encN (ns1 ++ [x]) ++ sp).toArray 68 (0, 0)), dirB p6 (.slice none 0 0) (.slice none 0 0) (.slice none 0 0), dirB p3 (.slice (some ⟨g, 0, none⟩) (ns1 ++ [x]).length cap2) vf vo, G2] := hD11
  rw [hlen] at hD11
  have hp : U [Go.Aw.one b2 (.cells (encN x).toArray 68 (0, 0)), namB p7 x, Go.Aw.one g (.cells (rows encN (ns1 ++ [x]) ++ sp).toArray 68 (0, 0)), dirB p6 (.slice none 0 0) (.slice none 0 0) (.slice none 0 0), dirB p3 (.slice (some ⟨g, 0, none⟩) (ns1.length + 1) cap2) vf vo, G2] = U [dirB p6 (.slice none 0 0) (.slice none 0 0) (.slice none 0 0), namB p7 x, dirB p3 (.slice (some ⟨g, 0, none⟩) (ns1.length + 1) cap2) vf vo, Go.Aw.one g (.cells (rows encN (ns1 ++ [x]) ++ sp).toArray 68 (0, 0)), U [Go.Aw.one b2 (.cells (encN x).toArray 68 (0, 0)), G2]] ∧ Dj [dirB p6 (.slice none 0 0) (.slice none 0 0) (.slice none 0 0), namB p7 x, dirB p3 (.slice (some ⟨g, 0, none⟩) (ns1.length + 1) cap2) vf vo, Go.Aw.one g (.cells (rows encN (ns1 ++ [x]) ++ sp).toArray 68 (0, 0)), U [Go.Aw.one b2 (.cells (encN x).toArray 68 (0, 0)), G2]] ∧ HpLe G2 (U [Go.Aw.one b2 (.cells (encN x).toArray 68 (0, 0)), G2]) := by
    have h : U [Go.Aw.one b2 (.cells (encN x).toArray 68 (0, 0)), namB p7 x, Go.Aw.one g (.cells (rows encN (ns1 ++ [x]) ++ sp).toArray 68 (0, 0)), dirB p6 (.slice none 0 0) (.slice none 0 0) (.slice none 0 0), dirB p3 (.slice (some ⟨g, 0, none⟩) (ns1.length + 1) cap2) vf vo, G2] = U [dirB p6 (.slice none 0 0) (.slice none 0 0) (.slice none 0 0), namB p7 x, dirB p3 (.slice (some ⟨g, 0, none⟩) (ns1.length + 1) cap2) vf vo, Go.Aw.one g (.cells (rows encN (ns1 ++ [x]) ++ sp).toArray 68 (0, 0)), Go.Aw.one b2 (.cells (encN x).toArray 68 (0, 0)), G2] ∧ Dj [dirB p6 (.slice none 0 0) (.slice none 0 0) (.slice none 0 0), namB p7 x, dirB p3 (.slice (some ⟨g, 0, none⟩) (ns1.length + 1) cap2) vf vo, Go.Aw.one g (.cells (rows encN (ns1 ++ [x]) ++ sp).toArray 68 (0, 0)), Go.Aw.one b2 (.cells (encN x).toArray 68 (0, 0)), G2] := U_pm [3, 1, 4, 2, 0, 5] rfl hD11
    exact ⟨h.1.trans (U_flat [_, _, _, _] _).symm, Dj_unflat (A := [_, _, _, _]) h.2, le_at 1 h.2.2.2.2.2 rfl⟩
  obtain ⟨e8, hD12, hG8⟩ := hp
  show AWp _ _ _ _ _ (U [Go.Aw.one b2 (.cells (encN x).toArray 68 (0, 0)), namB p7 x, Go.Aw.one g (.cells (rows encN (ns1 ++ [x]) ++ sp).toArray 68 (0, 0)), dirB p6 (.slice none 0 0) (.slice none 0 0) (.slice none 0 0), dirB p3 (.slice (some ⟨g, 0, none⟩) (ns1 ++ [x]).length cap2) vf vo, G2])
  rw [hlen, e8]
  have hmG : HpLe m (U [Go.Aw.one b2 (.cells (encN x).toArray 68 (0, 0)), G2]) := hG2.trans hG8
  generalize U [Go.Aw.one b2 (.cells (encN x).toArray 68 (0, 0)), G2] = G3 at hD12 hmG
  clear e8 hD11 hD10 hD9 hD8 hD7 hD5 hD4 hD3 hDG hD2 hD1 d0 d1 d2 hG8 hG2 hG1 hO e4
  refine awp_sk fun K1 hK1 => ?_
  have fin : ∀ (kk : Nat) (z : Nm) (r : Env), kk ≤ ns1.length → Dj [dirB p6 (.slice none 0 0) (.slice none 0 0) (.slice none 0 0), namB p7 x, dirB p3 (.slice (some ⟨g, 0, none⟩) (ns1.length + 1) cap2) vf vo, Go.Aw.one g (.cells (rows encN (ns1.take kk ++ z :: ns1.drop kk) ++ sp).toArray 68 (0, 0)), G3] →
      EnvLe [(1, .string x.nm), (3, .pointer (some ⟨p3, 0, none⟩)), (6, .pointer (some ⟨p6, 0, none⟩)), (7, .pointer (some ⟨p7, 0, none⟩)), (8, .int .i64 kk)] r → K1 r (U [dirB p6 (.slice none 0 0) (.slice none 0 0) (.slice none 0 0), namB p7 x, dirB p3 (.slice (some ⟨g, 0, none⟩) (ns1.length + 1) cap2) vf vo, Go.Aw.one g (.cells (rows encN (ns1.take kk ++ z :: ns1.drop kk) ++ sp).toArray 68 (0, 0)), G3]) := by
    intro kk z r hk hd hle
    have hz : (ns1.take kk ++ z :: ns1.drop kk).length = ns1.length + 1 := by simp; omega
    obtain ⟨d0, d1, d2, _⟩ := dirB_at 2 hd rfl
    refine hK1 _ _ (awp_le _ hle (awp_rs ?_))
    refine ao_r (rig_fieldAddr rfl rfl Try.underlying30 rfl Try.sizeOf26 rfl) rfl (ao_r (rig_load1 rfl rfl Try.isAgg26 d0) rfl (ao_r (rig_move rfl rfl) rfl (ao_r (rig_loadN (vs := encN x) rfl rfl Try.isAgg68 Try.sizeOf68 (namB_at 1 hd rfl)) rfl (ao_r (rig_ix kk rfl rfl rfl Try.underlying26 Try.sizeOf68 rfl rfl (by omega)) rfl ?_))))
    refine ao_x0 (ex_store (i := 3) rfl hd rfl rfl Try.sizeOf68 (encN_one x) rfl (by simp [Value.cells, rows_length encN_len, hz, encN]; omega)) fun u m2 ⟨_, hm2, hd2⟩ => ao_nil ?_
    subst hm2
    have erow : putR (rows encN (ns1.take kk ++ z :: ns1.drop kk) ++ sp).toArray (0 + kk * 2) (encN x) = (rows encN (ns1.take kk ++ x :: ns1.drop kk) ++ sp).toArray := by
      rw [Nat.zero_add, putR_rows encN_len _ kk x sp (by omega)]
      congr 3
      rw [List.set_append_right _ _ (by simp; omega)]; simp [Nat.min_eq_left hk]
    have key : U ([dirB p6 (.slice none 0 0) (.slice none 0 0) (.slice none 0 0), namB p7 x, dirB p3 (.slice (some ⟨g, 0, none⟩) (ns1.length + 1) cap2) vf vo, Go.Aw.one g (.cells (rows encN (ns1.take kk ++ z :: ns1.drop kk) ++ sp).toArray 68 (0, 0)), G3].set 3 (Go.Aw.one g (.cells (putR (rows encN (ns1.take kk ++ z :: ns1.drop kk) ++ sp).toArray (0 + kk * 2) (encN x)) 68 (0, 0)))) = U [dirB p6 (.slice none 0 0) (.slice none 0 0) (.slice none 0 0), namB p7 x, dirB p3 (.slice (some ⟨g, 0, none⟩) (ns1.length + 1) cap2) vf vo, Go.Aw.one g (.cells (rows encN (ns1.take kk ++ x :: ns1.drop kk) ++ sp).toArray 68 (0, 0)), G3] ∧ Dj [dirB p6 (.slice none 0 0) (.slice none 0 0) (.slice none 0 0), namB p7 x, dirB p3 (.slice (some ⟨g, 0, none⟩) (ns1.length + 1) cap2) vf vo, Go.Aw.one g (.cells (rows encN (ns1.take kk ++ x :: ns1.drop kk) ++ sp).toArray 68 (0, 0)), G3] := by
      rw [← erow]; exact ⟨rfl, hd2⟩
    obtain ⟨ek, hd3⟩ := key
    show AWp _ _ _ _ _ (U ([dirB p6 (.slice none 0 0) (.slice none 0 0) (.slice none 0 0), namB p7 x, dirB p3 (.slice (some ⟨g, 0, none⟩) (ns1.length + 1) cap2) vf vo, Go.Aw.one g (.cells (rows encN (ns1.take kk ++ z :: ns1.drop kk) ++ sp).toArray 68 (0, 0)), G3].set 3 (Go.Aw.one g (.cells (putR (rows encN (ns1.take kk ++ z :: ns1.drop kk) ++ sp).toArray (0 + kk * 2) (encN x)) 68 (0, 0)))))
    rw [ek]
    refine awp_rs (ao_r (rig_loadN (vs := [_, _, _]) rfl rfl Try.isAgg30 Try.sizeOf30 (dirB_at 2 hd3 rfl)) rfl ?_)
    refine ao_x0 (ex_store (i := 0) rfl hd3 rfl rfl Try.sizeOf30 (three_one rfl h2 h3) rfl (Nat.le_refl 3)) fun u m7 ⟨_, hm7, hD7⟩ => ao_nil ?_
    subst hm7
    replace hD7 : Dj [dirB p6 (.slice (some ⟨g, 0, none⟩) (ns1.length + 1) cap2) vf vo, namB p7 x, dirB p3 (.slice (some ⟨g, 0, none⟩) (ns1.length + 1) cap2) vf vo, Go.Aw.one g (.cells (rows encN (ns1.take kk ++ x :: ns1.drop kk) ++ sp).toArray 68 (0, 0)), G3] := hD7
    have hz2 : (ns1.take kk ++ x :: ns1.drop kk).length = ns1.length + 1 := by simp; omega
    have hO2 := Own.mk_ (E := 68) (g := g) (cap := cap2) (sp := sp) (l := ns1.take kk ++ x :: ns1.drop kk) encN_len (by rw [List.length_append, rows_length encN_len] at hsp ⊢; rw [hz2]; simpa using hsp) (by rw [hz2]; exact hnc) hcm
    rw [hz2] at hO2
    have hq : U [dirB p6 (.slice (some ⟨g, 0, none⟩) (ns1.length + 1) cap2) vf vo, namB p7 x, dirB p3 (.slice (some ⟨g, 0, none⟩) (ns1.length + 1) cap2) vf vo, Go.Aw.one g (.cells (rows encN (ns1.take kk ++ x :: ns1.drop kk) ++ sp).toArray 68 (0, 0)), G3] = U [Go.Aw.one g (.cells (rows encN (ns1.take kk ++ x :: ns1.drop kk) ++ sp).toArray 68 (0, 0)), dirB p6 (.slice (some ⟨g, 0, none⟩) (ns1.length + 1) cap2) vf vo, namB p7 x, dirB p3 (.slice (some ⟨g, 0, none⟩) (ns1.length + 1) cap2) vf vo, G3] ∧ Dj [Go.Aw.one g (.cells (rows encN (ns1.take kk ++ x :: ns1.drop kk) ++ sp).toArray 68 (0, 0)), dirB p6 (.slice (some ⟨g, 0, none⟩) (ns1.length + 1) cap2) vf vo, namB p7 x, dirB p3 (.slice (some ⟨g, 0, none⟩) (ns1.length + 1) cap2) vf vo, G3] := U_pm [3, 0, 1, 2, 4] rfl hD7
    refine awp_ret ⟨_, resC (vs := [_, _, _]) Try.results23 rfl Try.isAgg30 Try.sizeOf30 (dirB_at 0 hD7 rfl), _, ns1.take kk ++ x :: ns1.drop kk, _, _, rfl, hq.1.trans (U_flat [_] _).symm, Dj_unflat (A := [_]) hq.2, hmG.trans (le_at 3 hq.2.2 rfl), hO2.rd, fun n hn => ?_, by omega⟩
    rcases List.mem_append.1 hn with h | h
    · exact .inl (hmem1 n (List.mem_of_mem_take h))
    · rcases List.mem_cons.1 h with h | h
      · exact .inr h
      · exact .inl (hmem1 n (List.mem_of_mem_drop h))
  refine awp_block ?_
  refine awp_le [(1, .string x.nm), (3, .pointer (some ⟨p3, 0, none⟩)), (6, .pointer (some ⟨p6, 0, none⟩)), (7, .pointer (some ⟨p7, 0, none⟩)), (8, .int .i64 ns1.length)] ⟨rfl, rfl, rfl, rfl, rfl, trivial⟩ ?_
  refine awp_loop (fun k r mm => ∃ z, k ≤ ns1.length ∧ r = [(1, .string x.nm), (3, .pointer (some ⟨p3, 0, none⟩)), (6, .pointer (some ⟨p6, 0, none⟩)), (7, .pointer (some ⟨p7, 0, none⟩)), (8, .int .i64 (k : Nat))] ∧ U [dirB p6 (.slice none 0 0) (.slice none 0 0) (.slice none 0 0), namB p7 x, dirB p3 (.slice (some ⟨g, 0, none⟩) (ns1.length + 1) cap2) vf vo, Go.Aw.one g (.cells (rows encN (ns1.take k ++ z :: ns1.drop k) ++ sp).toArray 68 (0, 0)), G3] = mm ∧ Dj [dirB p6 (.slice none 0 0) (.slice none 0 0) (.slice none 0 0), namB p7 x, dirB p3 (.slice (some ⟨g, 0, none⟩) (ns1.length + 1) cap2) vf vo, Go.Aw.one g (.cells (rows encN (ns1.take k ++ z :: ns1.drop k) ++ sp).toArray 68 (0, 0)), G3]) ns1.length
    ⟨x, Nat.le_refl _, rfl, by rw [List.take_length, List.drop_length], by rw [List.take_length, List.drop_length]; exact hD12⟩ ?_
  clear hD12
  rintro k r mm ⟨z, hk, rfl, rfl, hd⟩
  obtain ⟨d0, d1, d2, _⟩ := dirB_at 2 hd rfl
  refine awp_sk fun K2 hK2 => awp_rs ?_
  refine ao_r (rig_move rfl rfl) rfl (ao_r (rig_gtr rfl rfl rfl) rfl ?_)
  by_cases hk0 : (0 : Int) < (k : Int)
  · obtain ⟨y, hy⟩ := get_lt (l := ns1) (i := k - 1) (by omega)
    have hyl : (ns1.take k ++ z :: ns1.drop k)[k - 1]? = some y := by
      rw [List.getElem?_append_left (by rw [List.length_take]; omega), List.getElem?_take_of_lt (by omega), hy]
    have hz : (ns1.take k ++ z :: ns1.drop k).length = ns1.length + 1 := by simp; omega
    have hyc : CellsAt (U [dirB p6 (.slice none 0 0) (.slice none 0 0) (.slice none 0 0), namB p7 x, dirB p3 (.slice (some ⟨g, 0, none⟩) (ns1.length + 1) cap2) vf vo, Go.Aw.one g (.cells (rows encN (ns1.take k ++ z :: ns1.drop k) ++ sp).toArray 68 (0, 0)), G3]) g (0 + (k - 1) * 2) (encN y) := by
      refine CellsAt.le (le_at 3 hd rfl) (CellsAt.elem encN_len (CellsAt.of_get fun j v hj => ?_) hyl)
      refine Go.Aw.one_cell g _ 68 _ v ?_
      rw [List.getElem?_toArray, Nat.zero_add, List.getElem?_append_left (List.getElem?_eq_some_iff.1 hj).1]; exact hj
    obtain ⟨y0, y1, _⟩ := id hyc
    rw [decide_eq_true hk0]
    refine ao_r (rig_move rfl rfl) rfl (ao_on rfl rfl (ao_r (rig_fieldAddr rfl rfl Try.underlying30 rfl Try.sizeOf26 rfl) rfl (ao_on rfl rfl (ao_r (rig_load1 rfl rfl Try.isAgg26 d0) rfl (ao_on rfl rfl (ao_r (rig_move rfl rfl) rfl (ao_on rfl rfl (ao_r (rig_sub (c := ((k - 1 : Nat) : Int)) rfl rfl rfl (by rw [w64 _ (by omega) (by omega)]; omega)) rfl (ao_on rfl rfl (ao_r (rig_ix (k - 1) rfl rfl rfl Try.underlying26 Try.sizeOf68 rfl rfl (by omega)) rfl ?_))))))))))
    refine ao_on rfl rfl (ao_r (rig_fieldAddr rfl rfl Try.underlying68 rfl Try.sizeOf9 rfl) rfl (ao_on rfl rfl (ao_r (rig_load1 rfl rfl Try.isAgg9 y0) rfl (ao_on rfl rfl (ao_r (rig_move rfl rfl) rfl (ao_on rfl rfl (ao_r (rig_sgtr rfl rfl rfl) rfl (ao_r (rig_pickT rfl rfl rfl) rfl (ao_nil ?_)))))))))
    refine awp_cond rfl (fun h => ?_) (fun h => ?_)
    · refine awp_skip (hK2 _ _ (awp_block ?_))
      refine awp_ds (.q 0 (.q 1 (.q 2 (.q 3 (.q 4 (.q 5 (.q 6 (.q 7 (.q 8 (.q 9 (.s 10 .fin))))))))))) [10] (by kernel_rfl) (by kernel_rfl) ?_
      refine oq rfl (rig_fieldAddr rfl rfl Try.underlying30 rfl Try.sizeOf26 rfl) rfl (oq rfl (rig_load1 rfl rfl Try.isAgg26 d0) rfl (oq rfl (rig_move rfl rfl) rfl (oq rfl (rig_fieldAddr rfl rfl Try.underlying30 rfl Try.sizeOf26 rfl) rfl (oq rfl (rig_load1 rfl rfl Try.isAgg26 d0) rfl (oq rfl (rig_move rfl rfl) rfl (oq rfl (rig_sub (c := ((k - 1 : Nat) : Int)) rfl rfl rfl (by rw [w64 _ (by omega) (by omega)]; omega)) rfl ?_))))))
      refine oq rfl (rig_ix (k - 1) rfl rfl rfl Try.underlying26 Try.sizeOf68 rfl rfl (by omega)) rfl (oq rfl (rig_loadN (vs := encN y) rfl rfl Try.isAgg68 Try.sizeOf68 hyc) rfl (oq rfl (rig_ix k rfl rfl rfl Try.underlying26 Try.sizeOf68 rfl rfl (by omega)) rfl ?_))
      refine os0 rfl (ex_store (i := 3) rfl hd rfl rfl Try.sizeOf68 (encN_one y) rfl (by simp [Value.cells, rows_length encN_len, hz, encN]; omega)) fun u m2 ⟨_, hm2, hd2⟩ => ⟨fun h => by simp at h, od_fin ?_⟩
      subst hm2
      have elist : (ns1.take k ++ z :: ns1.drop k).set k y = ns1.take (k - 1) ++ y :: ns1.drop (k - 1) := by
        have e1 : ns1.take k = ns1.take (k - 1) ++ [y] := by
          have := takeS hy
          rwa [show k - 1 + 1 = k by omega] at this
        have e2 : ns1.drop (k - 1) = y :: ns1.drop k := by
          have := List.drop_eq_getElem_cons (l := ns1) (i := k - 1) (by omega)
          rw [this, show k - 1 + 1 = k by omega, (List.getElem?_eq_some_iff.1 hy).2]
        rw [List.set_append_right _ _ (by simp; omega), List.length_take, Nat.min_eq_left hk, Nat.sub_self, List.set_cons_zero, e1, e2]
        simp
      have erow : putR (rows encN (ns1.take k ++ z :: ns1.drop k) ++ sp).toArray (0 + k * 2) (encN y) = (rows encN (ns1.take (k - 1) ++ y :: ns1.drop (k - 1)) ++ sp).toArray := by
        rw [Nat.zero_add, putR_rows encN_len _ k y sp (by omega), elist]
      have key : U ([dirB p6 (.slice none 0 0) (.slice none 0 0) (.slice none 0 0), namB p7 x, dirB p3 (.slice (some ⟨g, 0, none⟩) (ns1.length + 1) cap2) vf vo, Go.Aw.one g (.cells (rows encN (ns1.take k ++ z :: ns1.drop k) ++ sp).toArray 68 (0, 0)), G3].set 3 (Go.Aw.one g (.cells (putR (rows encN (ns1.take k ++ z :: ns1.drop k) ++ sp).toArray (0 + k * 2) (encN y)) 68 (0, 0)))) = U [dirB p6 (.slice none 0 0) (.slice none 0 0) (.slice none 0 0), namB p7 x, dirB p3 (.slice (some ⟨g, 0, none⟩) (ns1.length + 1) cap2) vf vo, Go.Aw.one g (.cells (rows encN (ns1.take (k - 1) ++ y :: ns1.drop (k - 1)) ++ sp).toArray 68 (0, 0)), G3] ∧ Dj [dirB p6 (.slice none 0 0) (.slice none 0 0) (.slice none 0 0), namB p7 x, dirB p3 (.slice (some ⟨g, 0, none⟩) (ns1.length + 1) cap2) vf vo, Go.Aw.one g (.cells (rows encN (ns1.take (k - 1) ++ y :: ns1.drop (k - 1)) ++ sp).toArray 68 (0, 0)), G3] := by
        rw [← erow]; exact ⟨rfl, hd2⟩
      obtain ⟨ek, hd3⟩ := key
      show AWp _ _ _ _ _ (U ([dirB p6 (.slice none 0 0) (.slice none 0 0) (.slice none 0 0), namB p7 x, dirB p3 (.slice (some ⟨g, 0, none⟩) (ns1.length + 1) cap2) vf vo, Go.Aw.one g (.cells (rows encN (ns1.take k ++ z :: ns1.drop k) ++ sp).toArray 68 (0, 0)), G3].set 3 (Go.Aw.one g (.cells (putR (rows encN (ns1.take k ++ z :: ns1.drop k) ++ sp).toArray (0 + k * 2) (encN y)) 68 (0, 0)))))
      rw [ek]
      refine awp_region (ao_r (rig_move rfl rfl) rfl (ao_r (rig_sub (c := ((k - 1 : Nat) : Int)) rfl rfl rfl (by rw [w64 _ (by omega) (by omega)]; omega)) rfl (ao_r (rig_assign rfl rfl) rfl (ao_nil ?_))))
      exact ⟨[(1, .string x.nm), (3, .pointer (some ⟨p3, 0, none⟩)), (6, .pointer (some ⟨p6, 0, none⟩)), (7, .pointer (some ⟨p7, 0, none⟩)), (8, .int .i64 (k - 1 : Nat))], k - 1, ⟨rfl, rfl, rfl, rfl, rfl, trivial⟩, by omega, y, by omega, rfl, rfl, hd3⟩
    · exact awp_exit (fin k z _ hk hd ⟨rfl, rfl, rfl, rfl, rfl, trivial⟩)
  · obtain rfl : k = 0 := by omega
    rw [decide_eq_false hk0]
    refine ao_r (rig_move rfl rfl) rfl (ao_no rfl rfl rfl rfl (ao_no rfl rfl rfl rfl (ao_no rfl rfl rfl rfl (ao_no rfl rfl rfl rfl (ao_no rfl rfl rfl rfl (ao_no rfl rfl rfl rfl (ao_no rfl rfl rfl rfl (ao_no rfl rfl rfl rfl (ao_no rfl rfl rfl rfl (ao_r (rig_pickF rfl rfl rfl) rfl (ao_nil ?_)))))))))))
    exact awp_false rfl (awp_exit (fin 0 z _ hk hd ⟨rfl, rfl, rfl, rfl, rfl, trivial⟩))
end Go.Proofs.Ytbonkkbpjlikjaa
