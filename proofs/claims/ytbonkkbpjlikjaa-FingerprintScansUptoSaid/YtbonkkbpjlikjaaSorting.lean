/- The program's side: slices.SortFunc at what was seen (the contract of the kit's shelf, taken over). -/
import Derived.Test.YtbonkkbpjlikjaaScanning
import Derived.Test.YtbonkkbpjlikjaaStrict
import Derived.Test.YtbonkkbpjlikjaaLaid
import Derived.Shelf.SlSortCmp.NoneTotal
set_option linter.unusedVariables false
set_option linter.unusedSimpArgs false
namespace Go.Proofs.Ytbonkkbpjlikjaa
open Go Go.Aw Go.Pl Go.RowKit Go.Sort
theorem cmpIneg {x y : Int} : cmpI x y < 0 ↔ x < y := by unfold cmpI; (repeat' split) <;> omega
theorem cmpIzero {x y : Int} : cmpI x y = 0 ↔ x = y := by unfold cmpI; (repeat' split) <;> omega
instance snInh : Inhabited Sn := ⟨⟨0, 0, 0⟩⟩
def cmpSn (a b : Sn) : Int := orI [cmpI a.file b.file, cmpI b.size a.size, cmpI a.ino b.ino]
theorem cmpSn_less (a b : Sn) : cmpSn a b < 0 ↔ lessS a b = true := by
  unfold cmpSn lessS
  simp only [orI, cmpIzero]
  by_cases h1 : a.file = b.file
  · by_cases h2 : a.size = b.size
    · by_cases h3 : a.ino = b.ino
      · simp [h1, h2, h3]
      · simp [h1, h2, h3, cmpIneg]
    · simp [h1, h2, Ne.symm h2, cmpIneg]
  · simp [h1, cmpIneg]
theorem cmpSn_dec (a b : Sn) : ltOf cmpSn a b = lessS a b := by
  show decide (cmpSn a b < 0) = lessS a b
  rw [Bool.eq_iff_iff, decide_eq_true_iff]; exact cmpSn_less a b
theorem lessS_neg {a b c : Sn} (h1 : lessS a b = false) (h2 : lessS b c = false) : lessS a c = false := by
  unfold lessS at *
  split at h1 <;> split at h2 <;> (try split at h1) <;> (try split at h2) <;> simp only [decide_eq_false_iff_not] at h1 h2 <;> (repeat' split) <;> simp only [decide_eq_false_iff_not] <;> omega
theorem swoSn : SWO (ltOf cmpSn) := ⟨fun x => by rw [cmpSn_dec]; unfold lessS; simp, fun x y z h1 h2 => by
    rw [cmpSn_dec] at *; exact lessS_trans h1 h2, fun x y z h1 h2 => by
    rw [cmpSn_dec] at *; exact lessS_neg h1 h2⟩
section
variable {α : Type} [Inhabited α] {enc : α → List Value} {k : Nat} {w : World} {blk off m : Nat} {dk : Array α} {os : Array Obj}
theorem sortW_heap : (sortWorldK enc k w blk off m dk os).heap = w.heap.modify blk (onCells (putCells id off (flatK enc k dk))) ++ os := rfl
theorem sortW_other {q : Nat} {o : Obj} (h : w.heap[q]? = some o) (hne : q ≠ blk) : (sortWorldK enc k w blk off m dk os).heap[q]? = some o := by
  have hlt := (Array.getElem?_eq_some_iff.1 h).1
  rw [sortW_heap, Array.getElem?_append_left (by simpa using hlt), Array.getElem?_modify, if_neg (by omega), h]
theorem sortW_at {c : Array Value} {E : TypeId} {fr : Nat × Nat} (h : w.heap[blk]? = some (.cells c E fr)) : (sortWorldK enc k w blk off m dk os).heap[blk]? = some (.cells (putCells id off (flatK enc k dk) c) E fr) := by
  have hlt := (Array.getElem?_eq_some_iff.1 h).1
  rw [sortW_heap, Array.getElem?_append_left (by simpa using hlt), Array.getElem?_modify, if_pos rfl, h]; rfl
end
theorem flat_rows (d : Array Sn) (j : Nat) (hj : j < d.size * 3) : (rows encSn d.toList)[j]? = some (flatK encSn 3 d)[j]! := by
  have hj2 : j / 3 < d.size := by omega
  have h1 : d.toList[j / 3]? = some d[j / 3] := by simp [hj2]
  have h2 : (encSn d[j / 3])[j % 3]? = some (encSn d[j / 3])[j % 3]! := by
    have : j % 3 < (encSn d[j / 3]).length := by rw [encSn_len]; omega
    rw [List.getElem?_eq_getElem this, getElem!_pos (encSn d[j / 3]) (j % 3) this]
  have h3 := rows_get encSn_len _ _ _ h1 _ _ h2
  rw [show j / 3 * 3 + j % 3 = j by omega] at h3
  rw [h3, get_flatK _ _ _ _ hj, getElem!_pos d (j / 3) hj2]
theorem put_rows (d : Array Sn) (l : List Sn) (sp : List Value) (hs : d.size = l.length) : putCells id 0 (flatK encSn 3 d) (rows encSn l ++ sp).toArray = (rows encSn d.toList ++ sp).toArray := by
  have e1 := rows_length encSn_len l
  have e2 := rows_length encSn_len d.toList
  simp only [List.length_map, Array.length_toList] at e2
  apply Array.ext_getElem?
  intro j
  unfold putCells
  rw [Array.getElem?_mapIdx, List.getElem?_toArray, List.getElem?_toArray]
  by_cases h : j < d.size * 3
  · rw [List.getElem?_append_left (by omega), List.getElem?_append_left (by omega), flat_rows d j h]
    obtain ⟨v, hv⟩ := get_lt (l := rows encSn l) (i := j) (by omega)
    rw [hv]
    simp [h]
  · rw [List.getElem?_append_right (by omega), List.getElem?_append_right (by omega), e1, e2, hs]
    cases sp[j - l.length * 3]? with
    | none => rfl
    | some v => simp [size_flatK]; omega
theorem cmpLaysSn (g : Nat) (w : World) (size : Nat) : CmpLays Try.prog 33 #[] encSn 3 cmpSn g 0 size w := fun m os dk _ x y => by
  have hc := Go.Proofs.Ytbonkkbpjlikjaa.Q.F33 hp0 x.file x.ino x.size y.file y.ino y.size (sortWorldK encSn 3 w g 0 m dk os) (sortWorldK encSn 3 w g 0 m dk os) ⟨rfl, rfl, rfl, Nat.le_refl _, fun q o h => by cases h⟩
  generalize sortWorldK encSn 3 w g 0 m dk os = W at hc ⊢
  refine hc.mono fun e w' ⟨he, hb⟩ => ⟨he, w'.drawn - W.drawn, w'.heap.extract W.heap.size, ?_⟩
  have hdr : W.drawn ≤ w'.drawn := hb.dr
  have hheap : w'.heap = W.heap ++ w'.heap.extract W.heap.size := by
    apply Array.ext_getElem?
    intro i
    have hsz := hb.size
    by_cases hi : i < W.heap.size
    · rw [Array.getElem?_append_left hi]; exact hb.block i hi
    · rw [Array.getElem?_append_right (by omega), Array.getElem?_extract]
      by_cases h2 : i < w'.heap.size
      · simp [show W.heap.size + (i - W.heap.size) = i by omega]
        omega
      · rw [Array.getElem?_eq_none (by omega)]
        simp; omega
  obtain ⟨h1, h2, h3, _, _⟩ := hb.toBelow
  cases w' with
  | mk hp tp dr o ou =>
    simp only at h1 h2 h3 hdr hheap
    subst h1 h2 h3
    show _ = ({ heap := _, tape := _, drawn := _, os := _, output := _ } : World)
    simp only [World.drewN]
    congr 1
    omega
theorem e32 : Enters Try.prog 32 := enters_of Try.func32 (by kernel_rfl) rfl
theorem F32 (c F : Hp) (v : Value) (l : List Sn) (hO : Own 45 3 c v (rows encSn l)) (hD : Dj [c, F]) (hl : l.length ≤ 1099511627776) :
    GC Try.prog 32 #[v, .func (.func 33) #[] #[]] (U [c, F]) (fun u m' => u = .tuple #[] ∧ ∃ l' c', Own 45 3 c' v (rows encSn l') ∧ m' = U [c', F] ∧ Dj [c', F] ∧ l'.Perm l ∧ l'.Pairwise (fun a b => lessS b a = false)) := fun sg w hs => by
  by_cases hne : l = []
  · subst hne
    obtain ⟨A, cap, rfl⟩ := hO.len encSn_len (by decide)
    exact (AnyF.slices_SortFunc_none Try.laysSort A cap (.func (.func 33) #[] #[]) w).mono fun e w' ⟨he, hw⟩ => ⟨_, U [c, F], he, hw ▸ hs, rfl, [], c, hO, rfl, hD, .refl _, List.Pairwise.nil⟩
  · obtain ⟨g, cap, sp, rfl, rfl, hsp, hcap, hcm⟩ := hO.some_ encSn_len (by decide) (List.length_pos_iff.2 hne)
    have hg : w.heap[g]? = some (.cells (rows encSn l ++ sp).toArray 45 (0, 0)) := hs.h g _ (U_head (Go.Aw.one_self _ _))
    have hglt := (Array.getElem?_eq_some_iff.1 hg).1
    have hgF : F g = none := by
      have := hD.1 g (by rw [Go.Aw.one_self]; simp)
      rwa [U_single] at this
    have hF : ∀ q o, F q = some o → w.heap[q]? = some o ∧ q ≠ g := fun q o hq => ⟨hs.h q o (le_at 1 hD rfl q o hq), fun e => by rw [e, hgF] at hq; cases hq⟩
    obtain ⟨d, hdl⟩ : ∃ d : Array Sn, d.toList = l := ⟨l.toArray, rfl⟩
    have hds : d.size = l.length := by rw [← hdl, Array.length_toList]
    have hH : HoldsK encSn 3 w g 0 d := fun j hj => by
      rw [size_flatK] at hj
      have h1 := flat_rows d j hj
      rw [hdl] at h1
      have hjl := (List.getElem?_eq_some_iff.1 h1).1
      have h2 : (rows encSn l ++ sp).toArray[j]? = some (flatK encSn 3 d)[j]! := by rw [List.getElem?_toArray, List.getElem?_append_left hjl, h1]
      refine ⟨?_, frozen_of_row w g (0 + j) _ _ hg⟩
      simp only [World.cell?, hg, Nat.zero_add]
      exact h2
    have hcall := AnyQ.slices_SortFunc Try.laysSort 3 Try.isAgg45 Try.sizeOf45 encSn (fun x => rfl) (fun x => encSn_one x) cmpSn swoSn 33 #[] g 0 cap d w Q.e33 (cmpLaysSn g w d.size) hH hglt (by omega)
    rw [hds] at hcall
    refine hcall.mono fun e w' ⟨he, d', n, os, hp, hsd, hw⟩ => ?_
    have hds' : d'.size = l.length := hp.1.trans hds
    have hperm : d'.toList.Perm l := by
      have h1 := hp.2.2
      rw [show d'.extract 0 l.length = d' by rw [← hds']; simp, show d.extract 0 l.length = d by rw [← hds]; simp] at h1
      rwa [hdl] at h1
    have hlen : d'.toList.length = l.length := hperm.length_eq
    have hat := sortW_at (enc := encSn) (k := 3) (off := 0) (m := n) (dk := d') (os := os) hg
    rw [put_rows d' l sp hds'] at hat
    refine ⟨_, U [Go.Aw.one g (.cells (rows encSn d'.toList ++ sp).toArray 45 (0, 0)), F], he, ?_, rfl, d'.toList, _, ?_, rfl, ?_, hperm, ?_⟩
    · subst hw
      refine ⟨hs.os, hs.tape, hs.out, by simp [Drw], fun q o hq => ?_⟩
      simp only [U, hp0, Option.or_none] at hq
      by_cases e : q = g
      · subst e
        rw [Go.Aw.one_self, Option.some_or] at hq
        cases hq
        exact hat
      · rw [Go.Aw.one_ne _ e, Option.none_or] at hq
        exact sortW_other (hF q o hq).1 e
    · rw [← hlen]
      refine Own.mk_ encSn_len ?_ (by rw [hlen]; exact hcap) hcm
      rw [List.length_append, rows_length encSn_len] at hsp ⊢
      rw [hlen]; exact hsp
    · exact Dj.one (Dj_single F) (by rw [U_single]; exact hgF)
    · refine List.pairwise_iff_getElem.2 fun i j hi hj hij => ?_
      have hj' : j < d'.size := by simpa using hj
      have h1 := hsd i j (Nat.zero_le _) hij (by omega)
      rw [getElem!_pos d' j hj', getElem!_pos d' i (by omega), cmpSn_dec] at h1
      simpa using h1
end Go.Proofs.Ytbonkkbpjlikjaa
