/- The program's side: slices.SortFunc at templates (the contract of the kit's shelf, taken over). -/
import Derived.Test.YtmofaabndjnhjaaGreatMining
import Derived.Test.YtmofaabndjnhjaaGreatPlain
import Derived.Test.YtmofaabndjnhjaaGreatStrict
import Derived.Test.YtmofaabndjnhjaaGreatLaid
import Derived.Shelf.SlSortCmp.NoneTotal
import Derived.Test.YtmofaabndjnhjaaGreatHeap
import Derived.Test.YtmofaabndjnhjaaGreatReference
set_option linter.unusedVariables false
namespace Go.Proofs.YtmofaabndjnhjaaGreat
open Go Go.Aw Go.Pl Go.RowKit Go.Sort
theorem cells_as {m : Hp} {b : Nat} : ∀ {o : Nat} {xs : List Value}, Go.Aw.CellsAt m b o xs → Go.As.CellsAt m b o xs
  | _, [], _ => trivial
  | _, _ :: _, ⟨h1, h2⟩ => ⟨h1, cells_as h2⟩
def toAs (t : Tm) : Go.As.Tm := ⟨t.A, t.n, t.cap, t.toks, t.cnt⟩
theorem ok_as {F : Hp} {t : Tm} (h : t.Ok F) : (toAs t).Ok F := by
  obtain ⟨A, n, cap, h1, h2, h3⟩ := h
  exact ⟨A, n, cap, h1, h2, h3.imp id fun ⟨b, off, h4, h5⟩ => ⟨b, off, h4, cells_as h5⟩⟩
section
variable {α : Type} [Inhabited α] {enc : α → List Value} {k : Nat} {w : World} {blk off m : Nat} {dk : Array α} {os : Array Obj}
theorem sortW_heap : (sortWorldK enc k w blk off m dk os).heap = w.heap.modify blk (onCells (putCells id off (flatK enc k dk))) ++ os := rfl
theorem sortW_other {q : Nat} {o : Obj} (h : w.heap[q]? = some o) (hne : q ≠ blk) : (sortWorldK enc k w blk off m dk os).heap[q]? = some o := by
  have hlt := (Array.getElem?_eq_some_iff.1 h).1
  rw [sortW_heap, Array.getElem?_append_left (by simpa using hlt), Array.getElem?_modify, if_neg (by omega), h]
theorem sortW_at {c : Array Value} {E : TypeId} {fr : Nat × Nat} (h : w.heap[blk]? = some (.cells c E fr)) : (sortWorldK enc k w blk off m dk os).heap[blk]? = some (.cells (putCells id off (flatK enc k dk) c) E fr) := by
  have hlt := (Array.getElem?_eq_some_iff.1 h).1
  rw [sortW_heap, Array.getElem?_append_left (by simpa using hlt), Array.getElem?_modify, if_pos rfl, h]; rfl
end
/-- The templates that are sorted. -/
def Gd (F : Hp) (N : Nat) : Type := { t : Tm // t.Ok F ∧ t.toks.length ≤ N }
instance gdInh (F : Hp) (N : Nat) : Inhabited (Gd F N) := ⟨⟨⟨none, 0, 0, [], 0⟩, ⟨none, 0, 0, rfl, rfl, .inl rfl⟩, Nat.zero_le _⟩⟩
def encG (F : Hp) (N : Nat) (x : Gd F N) : List Value := encT x.1
def cmpG (F : Hp) (N : Nat) (x y : Gd F N) : Int := cmpE x.1.key y.1.key
theorem swoG (F : Hp) (N : Nat) : SWO (ltOf (cmpG F N)) := ⟨fun x => decide_eq_false (cmpE_irr _), fun x y z h1 h2 => by
    have h1 := of_decide_eq_true h1
    have h2 := of_decide_eq_true h2
    exact decide_eq_true (cmpE_trans h1 h2), fun x y z h1 h2 => by
    have h1 : ¬ cmpE x.1.key y.1.key < 0 := of_decide_eq_false h1
    have h2 : ¬ cmpE y.1.key z.1.key < 0 := of_decide_eq_false h2
    refine decide_eq_false fun h => ?_
    have h : cmpE x.1.key z.1.key < 0 := h
    rcases cmpE_tri x.1.key y.1.key with a | a | a
    · exact h1 a
    · rw [a] at h; exact h2 h
    · exact h2 (cmpE_trans a h)⟩
theorem flat_rows {F : Hp} {N : Nat} (d : Array (Gd F N)) (j : Nat) (hj : j < d.size * 2) : (rows encT (d.toList.map (·.1)))[j]? = some (flatK (encG F N) 2 d)[j]! := by
  have hj2 : j / 2 < d.size := by omega
  have h1 : (d.toList.map (·.1))[j / 2]? = some d[j / 2].1 := by simp [hj2]
  have h2 : (encT d[j / 2].1)[j % 2]? = some (encT d[j / 2].1)[j % 2]! := by
    have : j % 2 < (encT d[j / 2].1).length := by rw [encT_len]; omega
    rw [List.getElem?_eq_getElem this, getElem!_pos (encT d[j / 2].1) (j % 2) this]
  have h3 := rows_get encT_len _ _ _ h1 _ _ h2
  rw [show j / 2 * 2 + j % 2 = j by omega] at h3
  rw [h3, get_flatK _ _ _ _ hj, getElem!_pos d (j / 2) hj2]
  rfl
theorem put_rows {F : Hp} {N : Nat} (d : Array (Gd F N)) (l : List Tm) (sp : List Value) (hs : d.size = l.length) : putCells id 0 (flatK (encG F N) 2 d) (rows encT l ++ sp).toArray = (rows encT (d.toList.map (·.1)) ++ sp).toArray := by
  have e1 := rows_length encT_len l
  have e2 := rows_length encT_len (d.toList.map (·.1))
  simp only [List.length_map, Array.length_toList] at e2
  apply Array.ext_getElem?
  intro j
  unfold putCells
  rw [Array.getElem?_mapIdx, List.getElem?_toArray, List.getElem?_toArray]
  by_cases h : j < d.size * 2
  · rw [List.getElem?_append_left (by omega), List.getElem?_append_left (by omega), flat_rows d j h]
    obtain ⟨v, hv⟩ := get_lt (l := rows encT l) (i := j) (by omega)
    rw [hv]
    simp [h]
  · rw [List.getElem?_append_right (by omega), List.getElem?_append_right (by omega), e1, e2, hs]
    cases sp[j - l.length * 2]? with
    | none => rfl
    | some v => simp [size_flatK]; omega
theorem ez58 : Enters Tryz.prog 58 := Go.Proofs.YtmofaabndjnhjaaGreat.Q.ez58
theorem cmpLaysG (F : Hp) (N : Nat) (hN : N ≤ 1099511627776) (g : Nat) (sg w : World) (size : Nat) (hF : ∀ q o, F q = some o → w.heap[q]? = some o ∧ q ≠ g) : CmpLays Tryz.prog 58 #[] (encG F N) 2 (cmpG F N) g 0 size w := fun m os dk _ x y => by
  have hc := Go.Proofs.YtmofaabndjnhjaaGreat.Q.Fz58 F (toAs x.1) (toAs y.1) (ok_as x.2.1) (ok_as y.2.1) (Nat.le_trans x.2.2 hN) (sortWorldK (encG F N) 2 w g 0 m dk os) (sortWorldK (encG F N) 2 w g 0 m dk os) ⟨rfl, rfl, rfl, Nat.le_refl _, fun q o h => sortW_other (hF q o h).1 (hF q o h).2⟩
  generalize sortWorldK (encG F N) 2 w g 0 m dk os = W at hc ⊢
  refine hc.mono fun e w' ⟨he, hb⟩ => ⟨he, w'.drawn - W.drawn, w'.heap.extract W.heap.size, ?_⟩
  have hdr : W.drawn ≤ w'.drawn := hb.dr
  have hheap : w'.heap = W.heap ++ w'.heap.extract W.heap.size := by
    apply Array.ext_getElem?
    intro i
    have hsz := hb.size
    by_cases hi : i < W.heap.size
    · rw [Array.getElem?_append_left hi]; exact hb.block i hi
    · rw [Array.getElem?_append_right (by omega), Array.getElem?_extract]
      by_cases h2 : i < w'.heap.size
      · simp [show W.heap.size + (i - W.heap.size) = i by omega]
        omega
      · rw [Array.getElem?_eq_none (by omega)]
        simp; omega
  obtain ⟨h1, h2, h3, _, _⟩ := hb.toBelow
  cases w' with
  | mk hp tp dr o ou =>
    simp only at h1 h2 h3 hdr hheap
    subst h1 h2 h3
    show _ = ({ heap := _, tape := _, drawn := _, os := _, output := _ } : World)
    simp only [World.drewN]
    congr 1
    omega
theorem ez57 : Enters Tryz.prog 57 := enters_of Tryz.func57 (by kernel_rfl) rfl
theorem Fz57 (c F : Hp) (v : Value) (l : List Tm) (N : Nat) (hN : N ≤ 1099511627776) (hO : Own 32 2 c v (rows encT l)) (hD : Dj [c, F]) (hok : ∀ t ∈ l, t.Ok F ∧ t.toks.length ≤ N) (hl : l.length ≤ 1099511627776) :
    GC Tryz.prog 57 #[v, .func (.func 58) #[] #[]] (U [c, F]) (fun u m' => u = .tuple #[] ∧ ∃ l' c', Own 32 2 c' v (rows encT l') ∧ m' = U [c', F] ∧ Dj [c', F] ∧ l'.Perm l ∧ Srt (keys l')) := fun sg w hs => by
  by_cases hne : l = []
  · subst hne
    obtain ⟨A, cap, rfl⟩ := hO.len encT_len (by decide)
    exact (AnyF.slices_SortFunc_none Tryz.laysSort A cap (.func (.func 58) #[] #[]) w).mono fun e w' ⟨he, hw⟩ => ⟨_, U [c, F], he, hw ▸ hs, rfl, [], c, hO, rfl, hD, .refl _, List.Pairwise.nil⟩
  · obtain ⟨g, cap, sp, rfl, rfl, hsp, hcap, hcm⟩ := hO.some_ encT_len (by decide) (List.length_pos_iff.2 hne)
    have hg : w.heap[g]? = some (.cells (rows encT l ++ sp).toArray 32 (0, 0)) := hs.h g _ (U_head (Go.Aw.one_self _ _))
    have hglt := (Array.getElem?_eq_some_iff.1 hg).1
    have hgF : F g = none := by
      have := hD.1 g (by rw [Go.Aw.one_self]; simp)
      rwa [U_single] at this
    have hF : ∀ q o, F q = some o → w.heap[q]? = some o ∧ q ≠ g := fun q o hq => ⟨hs.h q o (le_at 1 hD rfl q o hq), fun e => by rw [e, hgF] at hq; cases hq⟩
    obtain ⟨d, hdl⟩ : ∃ d : Array (Gd F N), d.toList.map (fun x => x.1) = l := ⟨(l.attachWith (fun t => t.Ok F ∧ t.toks.length ≤ N) hok).toArray, List.attachWith_map_subtype_val hok⟩
    have hds : d.size = l.length := by
      have := congrArg List.length hdl
      rwa [List.length_map, Array.length_toList] at this
    have hH : HoldsK (encG F N) 2 w g 0 d := fun j hj => by
      rw [size_flatK] at hj
      have h1 := flat_rows d j hj
      rw [hdl] at h1
      have hjl := (List.getElem?_eq_some_iff.1 h1).1
      have h2 : (rows encT l ++ sp).toArray[j]? = some (flatK (encG F N) 2 d)[j]! := by rw [List.getElem?_toArray, List.getElem?_append_left hjl, h1]
      refine ⟨?_, frozen_of_row w g (0 + j) _ _ hg⟩
      simp only [World.cell?, hg, Nat.zero_add]
      exact h2
    have hcall := AnyQ.slices_SortFunc Tryz.laysSort 2 Tryz.isAgg32 Tryz.sizeOf32 (encG F N) (fun x => rfl) (fun x => encT_one x.1) (cmpG F N) (swoG F N) 58 #[] g 0 cap d w ez58 (cmpLaysG F N hN g sg w d.size hF) hH hglt (by omega)
    rw [hds] at hcall
    refine hcall.mono fun e w' ⟨he, d', n, os, hp, hsd, hw⟩ => ?_
    have hds' : d'.size = l.length := hp.1.trans hds
    have hperm : (d'.toList.map (·.1)).Perm l := by
      have h1 := hp.2.2
      rw [show d'.extract 0 l.length = d' by rw [← hds']; simp, show d.extract 0 l.length = d by rw [← hds]; simp] at h1
      have h2 := h1.map (·.1)
      rwa [hdl] at h2
    have hlen : (d'.toList.map (·.1)).length = l.length := hperm.length_eq
    have hat := sortW_at (enc := encG F N) (k := 2) (off := 0) (m := n) (dk := d') (os := os) hg
    rw [put_rows d' l sp hds'] at hat
    refine ⟨_, U [Go.Aw.one g (.cells (rows encT (d'.toList.map (·.1)) ++ sp).toArray 32 (0, 0)), F], he, ?_, rfl, d'.toList.map (·.1), _, ?_, rfl, ?_, hperm, ?_⟩
    · subst hw
      refine ⟨hs.os, hs.tape, hs.out, by simp [Drw], fun q o hq => ?_⟩
      simp only [U, hp0, Option.or_none] at hq
      by_cases e : q = g
      · subst e
        rw [Go.Aw.one_self, Option.some_or] at hq
        cases hq
        exact hat
      · rw [Go.Aw.one_ne _ e, Option.none_or] at hq
        exact sortW_other (hF q o hq).1 e
    · rw [← hlen]
      refine Own.mk_ encT_len ?_ (by rw [hlen]; exact hcap) hcm
      rw [List.length_append, rows_length encT_len] at hsp ⊢
      rw [hlen]; exact hsp
    · exact Dj.one (Dj_single F) (by rw [U_single]; exact hgF)
    · refine List.pairwise_iff_getElem.2 fun i j hi hj hij => ?_
      have hj' : j < d'.size := by simpa [keys] using hj
      have h1 := hsd i j (Nat.zero_le _) hij (by omega)
      rw [getElem!_pos d' j hj', getElem!_pos d' i (by omega)] at h1
      have h2 := of_decide_eq_false h1
      simpa [keys, cmpG] using h2
end Go.Proofs.YtmofaabndjnhjaaGreat
/- The program's side: Of. -/
set_option linter.unusedVariables false
namespace Go.Proofs.YtmofaabndjnhjaaGreat
open Go Go.Aw Go.Pl Go.RowKit
/-- A group of the map: its number of tokens, the value, its elements, its row. -/
structure G4 where
  n : Nat
  v : Value
  l : List Tm
  c : Hp
def gm (GS : List G4) : List (Int × Value) := GS.map fun g => ((g.n : Int), g.v)
def grpT (n : Nat) (l : List Tm) : List Tm := l.filter fun t => vE t.key && decide (t.toks.length = n)
theorem grpT_keys (n : Nat) (l : List Tm) : keys (grpT n l) = grpQ n (keys l) := by
  rw [keys, keys, grpQ, List.filter_map]; rfl
theorem grpT_mem {n : Nat} {l : List Tm} {t : Tm} : t ∈ grpT n l ↔ t ∈ l ∧ vE t.key = true ∧ t.toks.length = n := by simp [grpT]
theorem grpT_snoc (n : Nat) (l : List Tm) (x : Tm) : grpT n (l ++ [x]) = grpT n l ++ (if vE x.key = true ∧ x.toks.length = n then [x] else []) := by
  rw [grpT, List.filter_append]
  congr 1
  by_cases h : vE x.key = true ∧ x.toks.length = n
  · rw [if_pos h]; simp [h.1, h.2]
  · rw [if_neg h]
    simp only [List.filter_cons, List.filter_nil, Bool.and_eq_true, decide_eq_true_eq]
    rw [if_neg h]
structure GI (l : List Tm) (GS : List G4) : Prop where
  nd : (GS.map (·.n)).Nodup
  at_ : ∀ g ∈ GS, g.l = grpT g.n l ∧ g.l ≠ [] ∧ Own 32 2 g.c g.v (rows encT g.l)
  all : ∀ t ∈ l, vE t.key = true → ∃ g ∈ GS, g.n = t.toks.length
theorem GI.start : GI [] [] := ⟨List.Pairwise.nil, by simp, by simp⟩
theorem GI.skip {l : List Tm} {GS : List G4} {x : Tm} (h : GI l GS) (hx : vE x.key = false) : GI (l ++ [x]) GS :=
  ⟨h.nd, fun g hg => by rw [grpT_snoc, if_neg (by simp [hx]), List.append_nil]; exact h.at_ g hg, fun t ht hv => by
    rcases List.mem_append.1 ht with ht | ht
    · exact h.all t ht hv
    · rw [List.mem_singleton.1 ht, hx] at hv; cases hv⟩
theorem gm_get {GS : List G4} {j : Nat} {a : Int × Value} (h : (gm GS)[j]? = some a) : ∃ g, GS[j]? = some g ∧ a = ((g.n : Int), g.v) := by
  rw [gm, List.getElem?_map] at h
  cases hg : GS[j]? with
  | none => simp [hg] at h
  | some g => rw [hg] at h; exact ⟨g, rfl, by simpa using h.symm⟩
theorem GI.put {l : List Tm} {GS : List G4} {x : Tm} {j : Nat} {g : G4} {v' : Value} {c' : Hp} (h : GI l GS) (hx : vE x.key = true) (hj : GS[j]? = some g) (hn : g.n = x.toks.length) (hO : Own 32 2 c' v' (rows encT (g.l ++ [x]))) : GI (l ++ [x]) (GS.set j ⟨g.n, v', g.l ++ [x], c'⟩) := by
  have hjl := (List.getElem?_eq_some_iff.1 hj).1
  have hns : (GS.set j ⟨g.n, v', g.l ++ [x], c'⟩).map (·.n) = GS.map (·.n) := by
    rw [List.map_set]
    apply List.ext_getElem?
    intro i
    rw [List.getElem?_set]
    split
    · rename_i e; subst e; rw [List.getElem?_map, hj]; simp [hjl]
    · rfl
  refine ⟨by rw [hns]; exact h.nd, fun q hq => ?_, fun t ht hv => ?_⟩
  · obtain ⟨i, hi⟩ := List.mem_iff_getElem?.1 hq
    rw [List.getElem?_set] at hi
    split at hi
    · obtain rfl := Option.some.inj hi
      have hg := h.at_ g (List.mem_of_getElem? hj)
      exact ⟨by show g.l ++ [x] = grpT g.n (l ++ [x]); rw [grpT_snoc, if_pos ⟨hx, hn.symm⟩, hg.1], by simp, hO⟩
    · rename_i hne
      have hg := h.at_ q (List.mem_of_getElem? hi)
      have hqn : q.n ≠ g.n := fun e => by
        have h1 : (GS.map (·.n))[i]? = some q.n := by rw [List.getElem?_map, hi]; rfl
        have h2 : (GS.map (·.n))[j]? = some g.n := by rw [List.getElem?_map, hj]; rfl
        obtain ⟨a1, a2⟩ := List.getElem?_eq_some_iff.1 h1
        obtain ⟨b1, b2⟩ := List.getElem?_eq_some_iff.1 h2
        rcases Nat.lt_or_gt_of_ne hne with hlt | hlt
        · exact List.pairwise_iff_getElem.1 h.nd j i b1 a1 hlt (by rw [a2, b2, e])
        · exact List.pairwise_iff_getElem.1 h.nd i j a1 b1 hlt (by rw [a2, b2, e])
      rw [grpT_snoc, if_neg (fun e => hqn (by rw [hn, e.2])), List.append_nil]
      exact hg
  · have : ∃ g' ∈ GS, g'.n = t.toks.length := by
      rcases List.mem_append.1 ht with ht | ht
      · exact h.all t ht hv
      · rw [List.mem_singleton.1 ht]; exact ⟨g, List.mem_of_getElem? hj, hn⟩
    obtain ⟨g', hg', he⟩ := this
    have : g'.n ∈ (GS.set j ⟨g.n, v', g.l ++ [x], c'⟩).map (·.n) := by rw [hns]; exact List.mem_map_of_mem hg'
    obtain ⟨g2, h2, e2⟩ := List.mem_map.1 this
    exact ⟨g2, h2, e2.trans he⟩
theorem GI.new {l : List Tm} {GS : List G4} {x : Tm} {v' : Value} {c' : Hp} (h : GI l GS) (hx : vE x.key = true) (hn : ∀ g ∈ GS, g.n ≠ x.toks.length) (hO : Own 32 2 c' v' (rows encT [x])) : GI (l ++ [x]) (GS ++ [⟨x.toks.length, v', [x], c'⟩]) := by
  refine ⟨?_, fun g hg => ?_, fun t ht hv => ?_⟩
  · rw [List.map_append]
    refine List.nodup_append.2 ⟨h.nd, by simp, fun a ha b hb => ?_⟩
    obtain ⟨g, hg, rfl⟩ := List.mem_map.1 ha
    simp at hb
    rw [hb]; exact hn g hg
  · rcases List.mem_append.1 hg with hg | hg
    · rw [grpT_snoc, if_neg (fun e => hn g hg e.2.symm), List.append_nil]; exact h.at_ g hg
    · obtain rfl := List.mem_singleton.1 hg
      refine ⟨?_, by simp, hO⟩
      show [x] = grpT x.toks.length (l ++ [x])
      rw [grpT_snoc, if_pos ⟨hx, rfl⟩]
      have : grpT x.toks.length l = [] := List.eq_nil_iff_forall_not_mem.2 fun t ht => by
        obtain ⟨h1, h2, h3⟩ := grpT_mem.1 ht
        obtain ⟨g, hg, e⟩ := h.all t h1 h2
        exact hn g hg (e.trans h3)
      rw [this]; rfl
  · rcases List.mem_append.1 ht with ht | ht
    · obtain ⟨g, hg, e⟩ := h.all t ht hv
      exact ⟨g, List.mem_append_left _ hg, e⟩
    · rw [List.mem_singleton.1 ht]; exact ⟨_, List.mem_append_right _ (List.mem_singleton.2 rfl), rfl⟩
/-- A piece from the front goes to what is only read. -/
theorem sink1 {x M F : Hp} {cs : List Hp} (hD : Dj (x :: M :: (cs ++ [F]))) : U (x :: M :: (cs ++ [F])) = U (M :: (cs ++ [U [x, F]])) ∧ Dj (M :: (cs ++ [U [x, F]])) ∧ HpLe F (U [x, F]) := by
  have hp : (x :: M :: (cs ++ [F])).Perm ((M :: cs) ++ [x, F]) := (List.Perm.swap M x _).trans ((List.perm_middle (l₁ := cs) (l₂ := [F])).symm.cons M)
  obtain ⟨e1, h1⟩ := U_perm hp hD
  exact ⟨e1.trans (U_flat (M :: cs) [x, F]).symm, Dj_unflat (A := M :: cs) h1, le_at 1 (Dj_tail (A := M :: cs) h1) rfl⟩
theorem sink2 {c x M F : Hp} {cs : List Hp} (hD : Dj (c :: x :: M :: (cs ++ [F]))) : U (c :: x :: M :: (cs ++ [F])) = U (M :: ((cs ++ [c]) ++ [U [x, F]])) ∧ Dj (M :: ((cs ++ [c]) ++ [U [x, F]])) ∧ HpLe F (U [x, F]) := by
  have hp : (c :: x :: M :: (cs ++ [F])).Perm ((M :: (cs ++ [c])) ++ [x, F]) := by
    have h1 : (c :: x :: M :: (cs ++ [F])).Perm (M :: (c :: x :: (cs ++ [F]))) := (List.perm_middle (l₁ := [c, x]) (l₂ := cs ++ [F]) (a := M))
    refine h1.trans (List.Perm.cons M ?_)
    have h2 : (x :: (cs ++ [F])).Perm (cs ++ [x, F]) := (List.perm_middle (l₁ := cs) (l₂ := [F])).symm
    refine (h2.cons c).trans ?_
    show (c :: (cs ++ [x, F])).Perm ((cs ++ [c]) ++ [x, F])
    rw [List.append_assoc]
    exact (List.perm_middle (l₁ := cs) (l₂ := [x, F])).symm
  obtain ⟨e1, h1⟩ := U_perm hp hD
  exact ⟨e1.trans (U_flat (M :: (cs ++ [c])) [x, F]).symm, Dj_unflat (A := M :: (cs ++ [c])) h1, le_at 1 (Dj_tail (A := M :: (cs ++ [c])) h1) rfl⟩
theorem grow_c {M F m' : Hp} {cs : List Hp} (hD : Dj (M :: (cs ++ [F]))) (h : HpLe (U (M :: (cs ++ [F]))) m') : ∃ F', HpLe F F' ∧ Dj (M :: (cs ++ [F'])) ∧ m' = U (M :: (cs ++ [F'])) := grow_last (cs := M :: cs) hD h
theorem set_app {cs : List Hp} {F c : Hp} {j : Nat} (h : j < cs.length) : (cs ++ [F]).set j c = cs.set j c ++ [F] := by rw [List.set_append_left _ _ h]
set_option maxHeartbeats 4000000 in
set_option maxRecDepth 100000 in
theorem L21_0 (bm : Nat) (l : List Tm) (A : Option Addr) (ca : Nat) (F : Hp) (ha : Tms F (.slice A l.length ca) l) (hok : ∀ t ∈ l, t.Ok F) (hl : l.length ≤ 1048576) (hD : Dj [Go.Aw.one bm (mapO []), F]) :
    AWp Tryz.prog 53 (blkOf Tryz.f34 0) (fun e r mm => e = .normal ∧ EnvLe [(3, .map (some bm))] r ∧ ∃ GS F1, mm = U (Go.Aw.one bm (mapO (gm GS)) :: (GS.map (·.c) ++ [F1])) ∧ Dj (Go.Aw.one bm (mapO (gm GS)) :: (GS.map (·.c) ++ [F1])) ∧ HpLe F F1 ∧ GI l GS)
      [(3, .map (some bm)), (11, .slice A l.length ca), (12, .int .i64 l.length), (13, .int .i64 (0 : Nat))] (U [Go.Aw.one bm (mapO []), F]) := by
  refine awp_block ?_
  refine awp_loop (fun kk r mm => ∃ (i : Nat) (GS : List G4) (F1 : Hp), i ≤ l.length ∧ kk = l.length - i ∧ r = [(3, .map (some bm)), (11, .slice A l.length ca), (12, .int .i64 l.length), (13, .int .i64 i)] ∧ mm = U (Go.Aw.one bm (mapO (gm GS)) :: (GS.map (·.c) ++ [F1])) ∧ Dj (Go.Aw.one bm (mapO (gm GS)) :: (GS.map (·.c) ++ [F1])) ∧ HpLe F F1 ∧ GI (l.take i) GS) _
    ⟨0, [], F, by omega, rfl, rfl, rfl, hD, HpLe.refl _, GI.start⟩ ?_
  clear hD
  rintro kk r mm ⟨i, GS, F1, hi, rfl, rfl, rfl, hD, hF, hG⟩
  refine awp_rs (ao_r (rig_lss rfl rfl rfl) rfl (ao_nil ?_))
  refine awp_sk fun K2 hK2 => ?_
  refine awp_if rfl (fun h => ?_) (fun h => ?_)
  · refine awp_skip (hK2 _ _ (awp_sk fun K3 hK3 => awp_block (awp_rs ?_)))
    have hil : i < l.length := by omega
    obtain ⟨x, hx⟩ := get_lt hil
    have hxm := List.mem_of_getElem? hx
    have hFU : HpLe F1 (U (Go.Aw.one bm (mapO (gm GS)) :: (GS.map (·.c) ++ [F1]))) := U_le_at (i := (GS.map (·.c)).length + 1) hD (by simp)
    obtain ⟨b, off, cap', e, hxc⟩ := Tms.get (RdSl.le ha (hF.trans hFU)) hx
    simp only [Value.slice.injEq] at e
    obtain ⟨rfl, _, rfl⟩ := e
    refine ao_r (rig_ix i rfl rfl rfl Tryz.underlying23 Tryz.sizeOf32 rfl rfl hil) rfl (ao_r (rig_loadN (vs := encT x) rfl rfl Tryz.isAgg32 Tryz.sizeOf32 hxc) rfl ?_)
    refine ao_var Tryz.zeroValue32 rfl rfl (fun t h => by cases h; rfl) Tryz.sizeOf32 rfl (encT_one x) fun b5 m5 hl5 hc5 => ao_nil ?_
    obtain ⟨F2, hF12, hD2, rfl⟩ := grow_c hD hl5
    obtain ⟨x0, x1, _⟩ := id hc5
    have hn : x.n = x.toks.length := (hok x hxm).len
    refine awp_rs (ao_r (rig_fieldAddr rfl rfl Tryz.underlying32 rfl Tryz.sizeOf27 rfl) rfl (ao_r (rig_load1 rfl rfl Tryz.isAgg27 x0) rfl (ao_r (rig_lenSl rfl rfl Tryz.underlying27) rfl (ao_r (rig_assign rfl rfl) rfl (ao_nil ?_)))))
    rw [hn]
    have htk := take_succ_get hx
    refine awp_mid (fun r mm => r = [(3, .map (some bm)), (5, .pointer (some ⟨b5, 0, none⟩)), (6, .int .i64 x.toks.length), (11, .slice (some ⟨b, off, none⟩) l.length ca), (12, .int .i64 l.length), (13, .int .i64 i), (30, .bool (vE x.key))] ∧ mm = U (Go.Aw.one bm (mapO (gm GS)) :: (GS.map (·.c) ++ [F2]))) (awp_region ?_) ?_
    · refine ao_r (rig_fieldAddr rfl rfl Tryz.underlying32 rfl Tryz.sizeOf3 rfl) rfl (ao_r (rig_load1 rfl rfl Tryz.isAgg3 x1) rfl (ao_r (rig_geq rfl rfl rfl) rfl (ao_r (rig_move rfl rfl) rfl ?_)))
      by_cases c1 : 1 ≤ x.cnt
      · rw [decide_eq_true c1]
        refine ao_on rfl rfl (ao_r (rig_move rfl rfl) rfl (ao_on rfl rfl (ao_r (rig_geq rfl rfl rfl) rfl (ao_r (rig_pickT rfl rfl rfl) rfl (ao_r (rig_move rfl rfl) rfl ?_)))))
        by_cases c2 : (1 : Int) ≤ (x.toks.length : Int)
        · rw [decide_eq_true c2]
          refine ao_on rfl rfl (ao_r (rig_move rfl rfl) rfl (ao_on rfl rfl (ao_r (rig_leq rfl rfl rfl) rfl (ao_r (rig_pickT rfl rfl rfl) rfl (ao_nil ?_)))))
          refine ⟨[(3, .map (some bm)), (5, .pointer (some ⟨b5, 0, none⟩)), (6, .int .i64 x.toks.length), (11, .slice (some ⟨b, off, none⟩) l.length ca), (12, .int .i64 l.length), (13, .int .i64 i), (30, .bool (vE x.key))], ⟨rfl, rfl, rfl, rfl, rfl, rfl, ?_, trivial⟩, rfl, rfl⟩
          show some (Value.bool (decide ((x.toks.length : Int) ≤ 60))) = some (.bool (vE x.key))
          have : vE x.key = decide ((x.toks.length : Int) ≤ 60) := by
            rw [Bool.eq_iff_iff, vE_iff, decide_eq_true_eq]
            show 1 ≤ x.cnt ∧ 1 ≤ x.toks.length ∧ x.toks.length ≤ 60 ↔ _
            omega
          rw [this]
        · rw [decide_eq_false c2]
          refine ao_no rfl rfl rfl rfl (ao_no rfl rfl rfl rfl (ao_r (rig_pickF rfl rfl rfl) rfl (ao_nil ?_)))
          refine ⟨[(3, .map (some bm)), (5, .pointer (some ⟨b5, 0, none⟩)), (6, .int .i64 x.toks.length), (11, .slice (some ⟨b, off, none⟩) l.length ca), (12, .int .i64 l.length), (13, .int .i64 i), (30, .bool (vE x.key))], ⟨rfl, rfl, rfl, rfl, rfl, rfl, ?_, trivial⟩, rfl, rfl⟩
          show some (Value.bool false) = some (.bool (vE x.key))
          have : vE x.key = false := by
            rw [Bool.eq_false_iff, ne_eq, vE_iff]
            show ¬ (1 ≤ x.cnt ∧ 1 ≤ x.toks.length ∧ x.toks.length ≤ 60)
            omega
          rw [this]
      · rw [decide_eq_false c1]
        refine ao_no rfl rfl rfl rfl (ao_no rfl rfl rfl rfl (ao_r (rig_pickF rfl rfl rfl) rfl (ao_r (rig_move rfl rfl) rfl (ao_no rfl rfl rfl rfl (ao_no rfl rfl rfl rfl (ao_r (rig_pickF rfl rfl rfl) rfl (ao_nil ?_)))))))
        refine ⟨[(3, .map (some bm)), (5, .pointer (some ⟨b5, 0, none⟩)), (6, .int .i64 x.toks.length), (11, .slice (some ⟨b, off, none⟩) l.length ca), (12, .int .i64 l.length), (13, .int .i64 i), (30, .bool (vE x.key))], ⟨rfl, rfl, rfl, rfl, rfl, rfl, ?_, trivial⟩, rfl, rfl⟩
        show some (Value.bool false) = some (.bool (vE x.key))
        have : vE x.key = false := by
          rw [Bool.eq_false_iff, ne_eq, vE_iff]
          show ¬ (1 ≤ x.cnt ∧ 1 ≤ x.toks.length ∧ x.toks.length ≤ 60)
          omega
        rw [this]
    · rintro r mm ⟨rfl, rfl⟩
      have hfin : ∀ (GS' : List G4) (F' : Hp), Dj (Go.Aw.one bm (mapO (gm GS')) :: (GS'.map (·.c) ++ [F'])) → HpLe F1 F' → GI (l.take (i + 1)) GS' → ∀ r', EnvLe [(3, .map (some bm)), (11, .slice (some ⟨b, off, none⟩) l.length ca), (12, .int .i64 l.length), (13, .int .i64 i)] r' → K3 r' (U (Go.Aw.one bm (mapO (gm GS')) :: (GS'.map (·.c) ++ [F']))) := fun GS' F' hD' hF' hG' r' hr => by
        refine hK3 _ _ (awp_le _ hr (awp_region ?_))
        refine ao_r (rig_add (c := ((i + 1 : Nat) : Int)) rfl rfl rfl (w64 _ (by omega) (by omega))) rfl (ao_r (rig_move rfl rfl) rfl (ao_nil ?_))
        exact ⟨[(3, .map (some bm)), (11, .slice (some ⟨b, off, none⟩) l.length ca), (12, .int .i64 l.length), (13, .int .i64 (i + 1 : Nat))], _, ⟨rfl, rfl, rfl, rfl, trivial⟩, by omega, i + 1, GS', F', by omega, rfl, rfl, rfl, hD', hF.trans hF', hG'⟩
      refine awp_cond rfl (fun hv => ?_) (fun hv => ?_)
      · refine awp_region ?_
        refine ao_r (rig_move rfl rfl) rfl (ao_r (rig_move rfl rfl) rfl (ao_r (rig_move rfl rfl) rfl (ao_r (rig_move rfl rfl) rfl ?_)))
        refine ao_r (rig_lookup rfl rfl rfl Tryz.underlying68 Tryz.underlying3 Tryz.zeroValue23 (U_head (Go.Aw.one_self _ _))) rfl ?_
        refine ao_r (rig_loadN (vs := encT x) rfl rfl Tryz.isAgg32 Tryz.sizeOf32 hc5) rfl ?_
        refine ao_x (ex_buildSlice rfl hD2 rfl Tryz.underlying23 Tryz.sizeOf32 Tryz.zeroValue32 (by decide) (by decide) (fill_one rfl (rangeMap_size _ _))) rfl fun u m3 ⟨b3, hu3, hm3, hD3⟩ => ?_
        subst hu3 hm3
        have hsrc : Go.Aw.Src (U (Go.Aw.one b3 (.cells (Value.agg (encT x).toArray).cells 32 (0, 0)) :: (Go.Aw.one bm (mapO (gm GS)) :: (GS.map (·.c) ++ [F2])))) 2 (.slice (some ⟨b3, 0, none⟩) 1 1) (rows encT [x]) := src_one encT_len ((cellsAt_one b3 (encT x).toArray 32).le U_le_head)
        cases hfd : fndG (x.toks.length : Int) (gm GS) 0 with
        | some p =>
          obtain ⟨j, v⟩ := p
          have hg0 := (fndG_get hfd).2
          rw [Nat.sub_zero] at hg0
          obtain ⟨g, hgj, hge⟩ := gm_get hg0
          simp only [Prod.mk.injEq] at hge
          obtain ⟨hgn, rfl⟩ := hge
          have hgn : g.n = x.toks.length := by omega
          have hjl := (List.getElem?_eq_some_iff.1 hgj).1
          obtain ⟨hgl, hgne, hgO⟩ := hG.at_ g (List.mem_of_getElem? hgj)
          have hglen : g.l.length ≤ l.length := by
            rw [hgl]
            exact Nat.le_trans (List.length_filter_le ..) (by rw [List.length_take]; omega)
          have hcj : (Go.Aw.one b3 (.cells (Value.agg (encT x).toArray).cells 32 (0, 0)) :: (Go.Aw.one bm (mapO (gm GS)) :: (GS.map (·.c) ++ [F2])))[j + 1 + 1]? = some g.c := by
            rw [List.getElem?_cons_succ, List.getElem?_cons_succ, List.getElem?_append_left (by simpa using hjl), List.getElem?_map, hgj]; rfl
          refine ao_x (ex_append (j + 1 + 1) (by_ := 32) rfl hD3 rfl rfl Tryz.underlying23 inf32 rfl (by decide) (by decide) hgO hcj hsrc (one_rows encT_one _) (by rw [rows_length encT_len, rows_length encT_len]; simp; omega)) rfl fun u m4 ⟨c', hO', hm4, hD4⟩ => ?_
          subst hm4
          rw [← rows_append] at hO'
          rw [List.set_cons_succ, List.set_cons_succ, set_app (by simpa using hjl)] at hD4 ⊢
          refine ao_x0 (ex_mapUpdate 1 rfl hD4 rfl rfl rfl Tryz.underlying68 Tryz.underlying3 rfl) fun u2 m5 ⟨hm5, hD5⟩ => ao_nil ?_
          subst hm5
          have hput : putG (x.toks.length : Int) u (gm GS) = gm (GS.set j ⟨g.n, u, g.l ++ [x], c'⟩) := by
            unfold putG
            rw [hfd]
            show (gm GS).set j ((x.toks.length : Int), u) = _
            rw [gm, gm, List.map_set, hgn]
          have hcs : (GS.map (·.c)).set j c' = (GS.set j ⟨g.n, u, g.l ++ [x], c'⟩).map (·.c) := by rw [List.map_set]
          rw [List.set_cons_succ, List.set_cons_zero, hput, hcs] at hD5 ⊢
          obtain ⟨e6, hD6, hF6⟩ := sink1 hD5
          rw [e6]
          exact hfin _ _ hD6 (hF12.trans hF6) (by rw [htk]; exact hG.put hv hgj hgn hO') _ ⟨rfl, rfl, rfl, rfl, trivial⟩
        | none =>
          have hno := fndG_none hfd
          refine ao_x (ex_appendNil (by_ := 32) rfl hD3 rfl rfl Tryz.underlying23 inf32 rfl (by decide) (by decide) hsrc (one_rows encT_one _) (by rw [rows_length encT_len]; simp)) rfl fun u m4 ⟨c', hO', hm4, hD4⟩ => ?_
          subst hm4
          refine ao_x0 (ex_mapUpdate 2 rfl hD4 rfl rfl rfl Tryz.underlying68 Tryz.underlying3 rfl) fun u2 m5 ⟨hm5, hD5⟩ => ao_nil ?_
          subst hm5
          have hput : putG (x.toks.length : Int) u (gm GS) = gm (GS ++ [⟨x.toks.length, u, [x], c'⟩]) := by
            unfold putG
            rw [hfd]
            show gm GS ++ [((x.toks.length : Int), u)] = _
            rw [gm, gm, List.map_append]; rfl
          have hcs : GS.map (fun g : G4 => g.c) ++ [c'] = (GS ++ [(⟨x.toks.length, u, [x], c'⟩ : G4)]).map (fun g : G4 => g.c) := by rw [List.map_append]; rfl
          rw [List.set_cons_succ, List.set_cons_succ, List.set_cons_zero, hput] at hD5 ⊢
          obtain ⟨e6, hD6, hF6⟩ := sink2 hD5
          rw [e6]
          rw [hcs] at hD6 ⊢
          exact hfin _ _ hD6 (hF12.trans hF6) (by rw [htk]; exact hG.new hv (fun g hg e => hno _ (List.mem_map_of_mem (f := fun g : G4 => ((g.n : Int), g.v)) hg) (by show (g.n : Int) = _; rw [e])) hO') _ ⟨rfl, rfl, rfl, rfl, trivial⟩
      · exact awp_skip (hfin GS F2 hD2 hF12 (by rw [htk]; exact hG.skip hv) _ ⟨rfl, rfl, rfl, rfl, trivial⟩)
  · obtain rfl : i = l.length := by omega
    rw [List.take_length] at hG
    exact awp_exit ⟨rfl, ⟨rfl, trivial⟩, GS, F1, rfl, hD, hF, hG⟩
end Go.Proofs.YtmofaabndjnhjaaGreat
/- The program's side: Of, the second loop and the whole. -/
set_option linter.unusedVariables false
namespace Go.Proofs.YtmofaabndjnhjaaGreat
open Go Go.Aw Go.Pl Go.RowKit
theorem cut_at {α : Type} {l : List α} {j : Nat} {x : α} (h : l[j]? = some x) : l = l.take j ++ x :: l.drop (j + 1) := by
  obtain ⟨h1, h2⟩ := List.getElem?_eq_some_iff.1 h
  rw [← h2, ← List.drop_eq_getElem_cons h1, List.take_append_drop]
/-- One row of many is taken out. -/
theorem take1 {I M c r F : Hp} {xs ys : List Hp} (hD : Dj (I :: M :: c :: (xs ++ r :: ys ++ [F]))) : U (I :: M :: c :: (xs ++ r :: ys ++ [F])) = U [r, U (I :: M :: c :: (xs ++ ys ++ [F]))] ∧ Dj [r, U (I :: M :: c :: (xs ++ ys ++ [F]))] ∧ Dj (I :: M :: c :: (xs ++ ys ++ [F])) := by
  have hp : (I :: M :: c :: (xs ++ r :: ys ++ [F])).Perm ([r] ++ I :: M :: c :: (xs ++ ys ++ [F])) := by
    have h := List.perm_middle (l₁ := I :: M :: c :: xs) (l₂ := ys ++ [F]) (a := r)
    simpa using h
  obtain ⟨e1, h1⟩ := U_perm hp hD
  exact ⟨e1.trans (U_flat [r] _).symm, Dj_unflat (A := [r]) h1, h1.2⟩
theorem grow3 {I M c F m' : Hp} {cs : List Hp} (hD : Dj (I :: M :: c :: (cs ++ [F]))) (h : HpLe (U (I :: M :: c :: (cs ++ [F]))) m') : ∃ F', HpLe F F' ∧ Dj (I :: M :: c :: (cs ++ [F'])) ∧ m' = U (I :: M :: c :: (cs ++ [F'])) := grow_last (cs := I :: M :: c :: cs) hD h
theorem back1 {a r I M c F : Hp} {xs ys : List Hp} (hD : Dj (a :: r :: I :: M :: c :: (xs ++ ys ++ [F]))) : U (a :: r :: I :: M :: c :: (xs ++ ys ++ [F])) = U (I :: M :: c :: (xs ++ r :: ys ++ [U [a, F]])) ∧ Dj (I :: M :: c :: (xs ++ r :: ys ++ [U [a, F]])) ∧ HpLe F (U [a, F]) := by
  have hp : (a :: r :: I :: M :: c :: (xs ++ ys ++ [F])).Perm ((I :: M :: c :: (xs ++ r :: ys)) ++ [a, F]) := by
    have h1 : (r :: I :: M :: c :: (xs ++ ys ++ [F])).Perm (I :: M :: c :: (xs ++ r :: ys ++ [F])) := by
      have h := (List.perm_middle (l₁ := I :: M :: c :: xs) (l₂ := ys ++ [F]) (a := r)).symm
      simpa using h
    have h2 : (a :: (I :: M :: c :: (xs ++ r :: ys ++ [F]))).Perm ((I :: M :: c :: (xs ++ r :: ys)) ++ [a, F]) := by
      have h := (List.perm_middle (l₁ := I :: M :: c :: (xs ++ r :: ys)) (l₂ := [F]) (a := a)).symm
      simpa using h
    exact (h1.cons a).trans h2
  obtain ⟨e1, h1⟩ := U_perm hp hD
  exact ⟨e1.trans (U_flat (I :: M :: c :: (xs ++ r :: ys)) [a, F]).symm, Dj_unflat (A := I :: M :: c :: (xs ++ r :: ys)) h1, le_at 1 (Dj_tail (A := I :: M :: c :: (xs ++ r :: ys)) h1) rfl⟩
def gq (GS : List G4) (j : Nat) : List El := (GS[j]?.map fun g => mineQ g.l.length (keys g.l)).getD []
theorem gq_all {l : List Tm} {GS : List G4} (hG : GI l GS) {S : List Nat} (h1 : S.Nodup) (h2 : ∀ j ∈ S, j < GS.length) (h3 : ∀ j, j < GS.length → j ∈ S) : (S.flatMap (gq GS)).Perm (allQ (keys l)) := by
  have hne : ∀ g ∈ GS, grpQ g.n (keys l) ≠ [] := fun g hg => by
    obtain ⟨e, hne, _⟩ := hG.at_ g hg
    rw [← grpT_keys, ← e, keys]; simpa using hne
  refine ((range_perm h1 h2 h3).flatMap_right _).trans ?_
  rw [show (List.range GS.length).flatMap (gq GS) = GS.flatMap fun g => mineQ g.l.length (keys g.l) from range_get GS _]
  have e : (GS.flatMap fun g => mineQ g.l.length (keys g.l)) = (GS.map (·.n)).flatMap fun n => mineG (grpQ n (keys l)) := by
    rw [List.flatMap_map]
    have : ∀ (L : List G4), (∀ g ∈ L, g ∈ GS) → (L.flatMap fun g => mineQ g.l.length (keys g.l)) = L.flatMap fun g => mineG (grpQ g.n (keys l)) := by
      intro L
      induction L with
      | nil => intro _; rfl
      | cons g L ih =>
        intro hL
        have hg := hL g (List.mem_cons_self ..)
        rw [List.flatMap_cons, List.flatMap_cons, ih fun x hx => hL x (List.mem_cons_of_mem _ hx)]
        congr 1
        have h0 := hne g hg
        rw [mineG, if_neg h0, ← grpT_keys, ← (hG.at_ g hg).1]
        simp [keys]
    exact this GS fun g hg => hg
  rw [e]
  refine ns_all hG.nd (fun n hn => ?_) fun n hn => ?_
  · obtain ⟨g, hg, rfl⟩ := List.mem_map.1 hn
    exact hne g hg
  · obtain ⟨a, ha⟩ := List.exists_mem_of_ne_nil _ hn
    obtain ⟨h4, h5, h6⟩ := grpQ_mem.1 ha
    obtain ⟨t, ht, rfl⟩ := List.mem_map.1 h4
    obtain ⟨g, hg, e⟩ := hG.all t ht h5
    exact List.mem_map.2 ⟨g, hg, e.trans h6⟩
theorem gi_len {l : List Tm} {GS : List G4} (hG : GI l GS) : GS.length ≤ 61 := by
  have := ns_le (q := keys l) hG.nd (fun n hn => by
    obtain ⟨g, hg, rfl⟩ := List.mem_map.1 hn
    obtain ⟨e, hne, _⟩ := hG.at_ g hg
    rw [← grpT_keys, ← e, keys]; simpa using hne) fun n hn => by
    obtain ⟨a, ha⟩ := List.exists_mem_of_ne_nil _ hn
    obtain ⟨h4, h5, h6⟩ := grpQ_mem.1 ha
    obtain ⟨t, ht, rfl⟩ := List.mem_map.1 h4
    obtain ⟨g, hg, e⟩ := hG.all t ht h5
    exact List.mem_map.2 ⟨g, hg, e.trans h6⟩
  rwa [List.length_map] at this
set_option maxHeartbeats 4000000 in
set_option maxRecDepth 100000 in
theorem L21_2 (bm bi : Nat) (l : List Tm) (GS : List G4) (F : Hp) (hok : ∀ t ∈ l, t.Ok F) (hcn : ∀ t ∈ l, t.cnt ≤ 9223372036854775807) (hl : l.length ≤ 1048576) (hG : GI l GS) (hD : Dj (Go.Aw.one bi (itO bm (gm GS).length []) :: Go.Aw.one bm (mapO (gm GS)) :: hp0 :: (GS.map (fun g : G4 => g.c) ++ [F]))) :
    AWp Tryz.prog 53 (blkOf Tryz.f34 2) (fun e r mm => e = .normal ∧ EnvLe [] r ∧ ∃ v out c F', EnvLe [(7, v)] r ∧ mm = U [c, F'] ∧ Dj [c, F'] ∧ HpLe F F' ∧ Own 32 2 c v (rows encT out) ∧ (∀ t ∈ out, t.Ok F') ∧ (keys out).Perm (allQ (keys l)) ∧ out.length ≤ 63963136)
      [(7, .slice none 0 0), (41, .pointer (some ⟨bi, 0, none⟩))] (U (Go.Aw.one bi (itO bm (gm GS).length []) :: Go.Aw.one bm (mapO (gm GS)) :: hp0 :: (GS.map (fun g : G4 => g.c) ++ [F]))) := by
  have hgl : (gm GS).length = GS.length := by rw [gm, List.length_map]
  have hG61 := gi_len hG
  refine awp_block ?_
  refine awp_loop (fun kk r mm => ∃ (S : List Nat) (v : Value) (out : List Tm) (c : Hp) (rs : List Hp) (F1 : Hp), S.Nodup ∧ (∀ j ∈ S, j < GS.length) ∧ kk = GS.length - S.length ∧ r = [(7, v), (41, .pointer (some ⟨bi, 0, none⟩))] ∧ mm = U (Go.Aw.one bi (itO bm (gm GS).length S) :: Go.Aw.one bm (mapO (gm GS)) :: c :: (rs ++ [F1])) ∧
      Dj (Go.Aw.one bi (itO bm (gm GS).length S) :: Go.Aw.one bm (mapO (gm GS)) :: c :: (rs ++ [F1])) ∧ HpLe F F1 ∧ (∀ j, j < GS.length → j ∉ S → rs[j]? = (GS.map (fun g : G4 => g.c))[j]?) ∧ Own 32 2 c v (rows encT out) ∧ (∀ t ∈ out, t.Ok F1) ∧ keys out = S.flatMap (gq GS) ∧ out.length ≤ S.length * 1048576) _
    ⟨[], _, [], hp0, GS.map (fun g : G4 => g.c), F, List.Pairwise.nil, by simp, rfl, rfl, rfl, hD, HpLe.refl _, fun _ _ _ => rfl, Own.nil 32 2, by simp, rfl, by simp⟩ ?_
  clear hD
  rintro kk r mm ⟨S, v, out, c, rs, F1, hS1, hS2, rfl, rfl, rfl, hD, hF, hrs, hO, hTo, hkey, hlen⟩
  have hSl := nodup_len hS1 hS2
  refine awp_rs (ao_x (ex_next 0 rfl hD rfl rfl (U_le_at (i := 1) hD rfl _ _ (Go.Aw.one_self _ _))) rfl fun u m1 hnx => ?_)
  rcases hnx with ⟨hall, rfl, rfl⟩ | ⟨j, a, hja, hjS, rfl, rfl, hD1⟩
  · refine ao_r (rig_extract rfl rfl rfl) rfl (ao_nil ?_)
    refine awp_sk fun K5 hK5 => awp_false rfl ?_
    have hU : U (Go.Aw.one bi (itO bm (gm GS).length S) :: Go.Aw.one bm (mapO (gm GS)) :: c :: (rs ++ [F1])) = U [c, U (Go.Aw.one bi (itO bm (gm GS).length S) :: Go.Aw.one bm (mapO (gm GS)) :: (rs ++ [F1]))] ∧ Dj [c, U (Go.Aw.one bi (itO bm (gm GS).length S) :: Go.Aw.one bm (mapO (gm GS)) :: (rs ++ [F1]))] ∧ HpLe F1 (U (Go.Aw.one bi (itO bm (gm GS).length S) :: Go.Aw.one bm (mapO (gm GS)) :: (rs ++ [F1]))) := by
      have hp : (Go.Aw.one bi (itO bm (gm GS).length S) :: Go.Aw.one bm (mapO (gm GS)) :: c :: (rs ++ [F1])).Perm ([c] ++ Go.Aw.one bi (itO bm (gm GS).length S) :: Go.Aw.one bm (mapO (gm GS)) :: (rs ++ [F1])) := by
        have h := List.perm_middle (l₁ := [Go.Aw.one bi (itO bm (gm GS).length S), Go.Aw.one bm (mapO (gm GS))]) (l₂ := rs ++ [F1]) (a := c)
        simpa using h
      obtain ⟨e1, h1⟩ := U_perm hp hD
      exact ⟨e1.trans (U_flat [c] _).symm, Dj_unflat (A := [c]) h1, U_le_at (i := rs.length + 2) h1.2 (by simp)⟩
    refine awp_exit ⟨rfl, trivial, v, out, c, _, ⟨rfl, trivial⟩, hU.1, hU.2.1, hF.trans hU.2.2, hO, fun t ht => (hTo t ht).le hU.2.2, ?_, by omega⟩
    rw [hkey]
    exact gq_all hG hS1 hS2 fun j hj => hall j (by omega)
  · refine ao_r (rig_extract rfl rfl rfl) rfl (ao_nil ?_)
    refine awp_sk fun K5 hK5 => awp_true rfl (awp_skip (hK5 _ _ (awp_block ?_)))
    obtain ⟨g, hgj, rfl⟩ := gm_get hja
    have hjl := (List.getElem?_eq_some_iff.1 hgj).1
    obtain ⟨hgl2, hgne, hgO⟩ := hG.at_ g (List.mem_of_getElem? hgj)
    rw [List.set_cons_zero] at hD1 ⊢
    have hrj : rs[j]? = some g.c := by rw [hrs j hjl hjS, List.getElem?_map, hgj]; rfl
    refine awp_rs (ao_r (rig_entry rfl rfl (U_head (Go.Aw.one_self _ _)) (U_le_at (i := 1) hD1 rfl _ _ (Go.Aw.one_self _ _)) hja) rfl (ao_r (rig_extract rfl rfl rfl) rfl (ao_r (rig_assign rfl rfl) rfl (ao_nil ?_))))
    have hcut := cut_at hrj
    have hrl := (List.getElem?_eq_some_iff.1 hrj).1
    have hgT : ∀ t ∈ g.l, t ∈ l ∧ t.toks.length = g.n ∧ Cnt t := fun t ht => by
      rw [hgl2] at ht
      obtain ⟨h1, h2, h3⟩ := grpT_mem.1 ht
      have h4 : 1 ≤ t.cnt := (vE_iff.1 h2).1
      exact ⟨h1, h3, by omega, hcn t h1⟩
    have hgn : g.n ≤ 60 := by
      obtain ⟨t, ht⟩ := List.exists_mem_of_ne_nil _ hgne
      rw [hgl2] at ht
      obtain ⟨_, h2, h3⟩ := grpT_mem.1 ht
      have h4 : t.toks.length ≤ 60 := (vE_iff.1 h2).2.2
      omega
    have hgll : g.l.length ≤ l.length := by rw [hgl2]; exact List.length_filter_le ..
    generalize hxs : rs.take j = xs at *
    generalize hys : rs.drop (j + 1) = ys at *
    rw [hcut] at hD1 ⊢
    obtain ⟨e1, hD2, hD3⟩ := take1 hD1
    rw [e1]
    have hFo : HpLe F1 (U (Go.Aw.one bi (itO bm (gm GS).length (S ++ [j])) :: Go.Aw.one bm (mapO (gm GS)) :: c :: (xs ++ ys ++ [F1]))) := U_le_at (i := (xs ++ ys).length + 3) hD3 (by simp)
    have h43 := Fz56 g.c (U (Go.Aw.one bi (itO bm (gm GS).length (S ++ [j])) :: Go.Aw.one bm (mapO (gm GS)) :: c :: (xs ++ ys ++ [F1]))) g.v g.l g.n hgO hD2 hgne (fun t ht => (hgT t ht).2) (fun t ht => ((hok t (hgT t ht).1).le hF).le hFo) (by omega) (by omega)
    refine awp_region (ao_r (rig_move rfl rfl) rfl (ao_r (rig_move rfl rfl) rfl ?_))
    refine ao_x (ex_call rfl rfl ez56 h43) rfl fun u m4 ⟨c5, c6, F', news, hO5, hm4, hD4, hF4, hnk, hkn, hnl⟩ => ?_
    subst hm4
    obtain ⟨F2, hF2, hD5, rfl⟩ := grow3 hD3 hF4
    have hD6 : Dj (c5 :: c6 :: Go.Aw.one bi (itO bm (gm GS).length (S ++ [j])) :: Go.Aw.one bm (mapO (gm GS)) :: c :: (xs ++ ys ++ [F2])) := Dj_flat (A := [c5, c6]) hD4 hD5
    have e6 : U [c5, c6, U (Go.Aw.one bi (itO bm (gm GS).length (S ++ [j])) :: Go.Aw.one bm (mapO (gm GS)) :: c :: (xs ++ ys ++ [F2]))] = U (c5 :: c6 :: Go.Aw.one bi (itO bm (gm GS).length (S ++ [j])) :: Go.Aw.one bm (mapO (gm GS)) :: c :: (xs ++ ys ++ [F2])) := U_flat [c5, c6] _
    rw [e6]
    refine ao_x (ex_append 4 (by_ := 32) rfl hD6 rfl rfl Tryz.underlying23 inf32 rfl (by decide) (by decide) hO rfl (Go.Aw.Src.le hO5.src U_le_head) (one_rows encT_one _) (by rw [rows_length encT_len, rows_length encT_len]; omega)) rfl fun u7 m7 ⟨c7, hO7, hm7, hD7⟩ => ?_
    subst hm7
    rw [← rows_append] at hO7
    refine ao_r (rig_assign rfl rfl) rfl (ao_nil ?_)
    obtain ⟨e8, hD8, hF8⟩ := back1 (a := c5) (r := c6) (I := Go.Aw.one bi (itO bm (gm GS).length (S ++ [j]))) (M := Go.Aw.one bm (mapO (gm GS))) (c := c7) hD7
    have hUo : HpLe (U (Go.Aw.one bi (itO bm (gm GS).length (S ++ [j])) :: Go.Aw.one bm (mapO (gm GS)) :: c :: (xs ++ ys ++ [F2]))) (U (c5 :: c6 :: Go.Aw.one bi (itO bm (gm GS).length (S ++ [j])) :: Go.Aw.one bm (mapO (gm GS)) :: c :: (xs ++ ys ++ [F2]))) := le_tail (A := [c5, c6]) hD6
    have hset : rs.set j c6 = xs ++ c6 :: ys := by rw [List.set_eq_take_append_cons_drop, if_pos hrl, hxs, hys]
    have hSn : (S ++ [j]).Nodup := List.nodup_append.2 ⟨hS1, by simp, fun a ha b hb => by simp at hb; rw [hb]; exact fun e => hjS (e ▸ ha)⟩
    have hSm : ∀ q ∈ S ++ [j], q < GS.length := fun q hq => by
      rcases List.mem_append.1 hq with h | h
      · exact hS2 q h
      · rw [List.mem_singleton.1 h]; exact hjl
    have hlt : S.length < GS.length := by
      have h1 := nodup_len hSn hSm
      rw [List.length_append] at h1; simp at h1; omega
    rw [← hset] at e8 hD8
    refine ⟨[(7, u7), (41, .pointer (some ⟨bi, 0, none⟩))], _, ⟨rfl, rfl, trivial⟩, by rw [List.length_append]; simp; omega, S ++ [j], u7, out ++ news, c7, rs.set j c6, U [c5, F2], hSn, hSm, rfl, rfl, e8, hD8, hF.trans (hF2.trans hF8), ?_, hO7, ?_, ?_, ?_⟩
    · intro q hq hqS
      rw [List.mem_append, not_or] at hqS
      have hqj : q ≠ j := fun e => hqS.2 (by simp [e])
      rw [List.getElem?_set_ne (fun e => hqj e.symm)]
      exact hrs q hq hqS.1
    · intro t ht
      rcases List.mem_append.1 ht with h | h
      · exact (hTo t h).le (hF2.trans hF8)
      · exact ((hnk t h).le (diff_last (cs := Go.Aw.one bi (itO bm (gm GS).length (S ++ [j])) :: Go.Aw.one bm (mapO (gm GS)) :: c :: (xs ++ ys)))).le hF8
    · rw [List.flatMap_append, keys, List.map_append]
      show keys out ++ keys news = _
      rw [hkey, hkn]
      simp [gq, hgj]
    · simp only [List.length_append, List.length_singleton]; omega
theorem ez34 : Enters Tryz.prog 34 := enters_of Tryz.func34 (by kernel_rfl) rfl
end Go.Proofs.YtmofaabndjnhjaaGreat
/- The program's side: Of, Mine. -/
set_option linter.unusedVariables false
namespace Go.Proofs.YtmofaabndjnhjaaGreat
open Go Go.Aw Go.Pl Go.RowKit
theorem ins2 {I M : Hp} {L : List Hp} (h : Dj (I :: M :: L)) : U (I :: M :: L) = U (I :: M :: hp0 :: L) ∧ Dj (I :: M :: hp0 :: L) := by
  have e : U (hp0 :: L) = U L := U_hp0 L
  refine ⟨by funext k; simp only [U, hp0, Option.none_or], fun k hk => ?_, fun k hk => ?_, Dj_hp0 h.2.2⟩
  · have := h.1 k hk
    simpa only [U, hp0, Option.none_or] using this
  · have := h.2.1 k hk
    simpa only [U, hp0, Option.none_or] using this
set_option maxHeartbeats 4000000 in
set_option maxRecDepth 100000 in
theorem Fz34 (F : Hp) (va : Value) (l : List Tm) (ha : Tms F va l) (hok : ∀ t ∈ l, t.Ok F) (hcn : ∀ t ∈ l, t.cnt ≤ 9223372036854775807) (hl : l.length ≤ 1048576) :
    GC Tryz.prog 34 #[va] F (fun u m' => ∃ out c F', Own 32 2 c u (rows encT out) ∧ m' = U [c, F'] ∧ Dj [c, F'] ∧ HpLe F F' ∧ (∀ t ∈ out, t.Ok F') ∧ keys out = ofQ (keys l) ∧ out.length ≤ 63963136) := by
  obtain ⟨A, ca, rfl, _⟩ := RdSl.form encT_len (by decide) ha
  refine gc_intro (vs := [_]) Tryz.func34 rfl Tryz.ntmps34 (by simp) ?_
  refine awp_u ?_
  refine awp_rs (ao_r (rig_assign rfl rfl) rfl (ao_nil ?_))
  refine awp_rs (ao_x (ex_makeMap rfl (Dj_single F)) rfl fun u m1 ⟨bm, hu, hm1, hD1⟩ => ?_)
  subst hu hm1
  refine ao_r (rig_assign rfl rfl) rfl (ao_nil ?_)
  refine awp_sk fun K1 hK1 => awp_rs ?_
  refine ao_r (rig_move rfl rfl) rfl (ao_r (rig_lenSl rfl rfl Tryz.underlying23) rfl (ao_r (rig_move rfl rfl) rfl (ao_nil ?_)))
  refine awp_lemma (s := [(3, .map (some bm)), (11, .slice A l.length ca), (12, .int .i64 l.length), (13, .int .i64 (0 : Nat))]) ⟨rfl, rfl, rfl, rfl, trivial⟩ (L21_0 bm l A ca F ha hok hl hD1) fun r mm ⟨hE, GS, F1, hmm, hD2, hF, hG⟩ => ?_
  subst hmm
  refine hK1 _ _ (awp_le _ hE (awp_rs (ao_r (rig_assign rfl rfl) rfl (ao_nil ?_))))
  refine awp_sk fun K4 hK4 => awp_rs (ao_r (rig_move rfl rfl) rfl ?_)
  refine ao_x (ex_range rfl hD2 rfl Tryz.underlying68 (U_head (Go.Aw.one_self _ _))) rfl fun u m3 ⟨bi, hu, hm3, hD3⟩ => ao_nil ?_
  subst hu hm3
  obtain ⟨e4, hD4⟩ := ins2 hD3
  refine awp_L e4 ?_
  refine awp_lemma (s := [(7, .slice none 0 0), (41, .pointer (some ⟨bi, 0, none⟩))]) ⟨rfl, rfl, trivial⟩ (L21_2 bm bi l GS F1 (fun t ht => (hok t ht).le hF) hcn hl hG hD4) fun r mm ⟨_, v, out, c, F2, hE2, hmm, hD5, hF2, hO, hTo, hperm, hlen⟩ => ?_
  subst hmm
  refine hK4 _ _ (awp_le _ hE2 (awp_rs (ao_r (rig_move rfl rfl) rfl ?_)))
  have hlen60 : ∀ t ∈ out, t.toks.length ≤ 60 := fun t ht => by
    have h1 : t.key ∈ keys out := List.mem_map_of_mem ht
    exact (allQ_len (hperm.mem_iff.1 h1)).2
  refine ao_x (ex_call rfl rfl ez57 (Fz57 c F2 v out 60 (by decide) hO hD5 (fun t ht => ⟨hTo t ht, hlen60 t ht⟩) (by omega))) rfl fun u m6 ⟨_, out', c', hO', hm6, hD6, hp6, hs6⟩ => ao_nil ?_
  subst hm6
  refine awp_rs (ao_r (rig_move rfl rfl) rfl (ao_r (rig_assign rfl rfl) rfl (ao_nil ?_)))
  refine awp_ret ⟨_, res1 Tryz.results34 rfl, out', c', F2, hO', rfl, hD6, hF.trans hF2, fun t ht => hTo t (hp6.mem_iff.1 ht), ?_, by rw [hp6.length_eq]; exact hlen⟩
  exact srtE_of ((hp6.map Tm.key).trans hperm) hs6
/-- The elements of lines. -/
def lineE (ls : List ByteArray) : List El := ls.filterMap fun s => (toksOf s).map fun ts => (ts, 1)
def mineL (ls : List ByteArray) : List El := ofQ (lineE ls)
theorem lineE_snoc (ls : List ByteArray) (s : ByteArray) : lineE (ls ++ [s]) = lineE ls ++ ((toksOf s).map fun ts => (ts, 1)).toList := by
  rw [lineE, List.filterMap_append]
  congr 1
theorem lineE_len (ls : List ByteArray) : (lineE ls).length ≤ ls.length := List.length_filterMap_le _ _
end Go.Proofs.YtmofaabndjnhjaaGreat
/- The program's side: Clone, Join, Text. -/
set_option linter.unusedVariables false
namespace Go.Proofs.YtmofaabndjnhjaaGreat
open Go Go.Aw Go.Pl Go.RowKit
theorem ez54 : Enters Tryz.prog 54 := enters_of Tryz.func54 (by kernel_rfl) rfl
set_option maxRecDepth 100000 in
theorem Fz54 (m : Hp) (va : Value) (ss : List ByteArray) (ha : Strs m va ss) (hl : ss.length ≤ 1048576) : GC Tryz.prog 54 #[va] m (Fresh m fun u c F => Own 9 1 c u (rows encS ss)) := by
  obtain ⟨A, ca, rfl, hA⟩ := RdSl.form encS_len (by decide) ha
  refine gc_intro (vs := [_]) Tryz.func54 rfl Tryz.ntmps54 (by simp) ?_
  refine awp_u ?_
  refine awp_rs (ao_r (rig_assign rfl rfl) rfl (ao_nil ?_))
  refine awp_sk fun K9 hK9 => awp_rs ?_
  refine ao_r (rig_move rfl rfl) rfl (ao_r (rig_slNil rfl rfl rfl Tryz.underlying27) rfl (ao_nil ?_))
  refine awp_cond rfl (fun h => ?_) (fun h => ?_)
  · refine awp_rs (ao_r (rig_assign rfl rfl) rfl (ao_nil ?_))
    have hss : ss = [] := hA.resolve_right (fun ⟨b, off, e, _⟩ => by rw [e] at h; cases h)
    subst hss
    exact awp_ret ⟨_, res1 Tryz.results54 rfl, hp0, hp0, Dj_hp0 (Dj_hp0 (Dj_single m)), by rw [U_hp0, U_hp0], Own.nil 9 1⟩
  · refine awp_skip (hK9 _ _ (awp_rs ?_))
    refine ao_x (ex_build0 rfl (Dj_single m) Tryz.underlying27 Tryz.sizeOf9) rfl fun u m2 ⟨b, hu, hm2, hD2⟩ => ?_
    subst hu hm2
    have hsrc : Go.Aw.Src (U [Go.Aw.one b (.cells #[] 9 (0, 0)), m]) 1 (.slice A ss.length ca) (rows encS ss) := Go.Aw.Src.le ha (le_at 1 hD2 rfl)
    refine ao_r (rig_move rfl rfl) rfl ?_
    refine ao_x (ex_append 0 (by_ := 16) rfl hD2 rfl rfl Tryz.underlying27 inf9 rfl (by decide) (by decide) (Own.empty 9 1 b) rfl hsrc (one_rows encS_one _) (by rw [rows_length encS_len]; simp; omega)) rfl fun u3 m3 ⟨c, hO, hm3, hD3⟩ => ?_
    subst hm3
    refine ao_r (rig_assign rfl rfl) rfl (ao_nil ?_)
    rw [List.nil_append] at hO
    have e : U [c, m] = U [c, hp0, m] := by funext k; simp [U, hp0]
    exact awp_ret ⟨_, res1 Tryz.results54 rfl, c, hp0, ⟨fun k hk => by have := hD3.1 k hk; simpa [U, hp0] using this, Dj_hp0 (Dj_single m)⟩, e, hO⟩
/-- A template's token as text. -/
def starB (t : ByteArray) : ByteArray := if t = em then B [60, 42, 62] else t
def starH (l : List ByteArray) (i : Nat) : List ByteArray := (l.take i).map starB ++ l.drop i
theorem starH_length (l : List ByteArray) (i : Nat) : (starH l i).length = l.length := by simp [starH]; omega
theorem starH_get {l : List ByteArray} {i : Nat} {x : ByteArray} (h : l[i]? = some x) : (starH l i)[i]? = some x := by
  have hlt := (List.getElem?_eq_some_iff.1 h).1
  rw [starH, List.getElem?_append_right (by simp; omega)]
  simp [Nat.min_eq_left (Nat.le_of_lt hlt), h]
theorem starH_succ {l : List ByteArray} {i : Nat} {x : ByteArray} (h : l[i]? = some x) : starH l (i + 1) = (starH l i).set i (starB x) := by
  have hlt := (List.getElem?_eq_some_iff.1 h).1
  have hx := (List.getElem?_eq_some_iff.1 h).2
  rw [starH, starH, List.set_append_right _ _ (by simp; omega), List.take_succ_eq_append_getElem hlt, hx, List.drop_eq_getElem_cons hlt]
  simp [Nat.min_eq_left (Nat.le_of_lt hlt), hx]
theorem starH_same {l : List ByteArray} {i : Nat} {x : ByteArray} (h : l[i]? = some x) (hd : x ≠ em) : starH l (i + 1) = starH l i := by
  rw [starH_succ h, starB, if_neg hd]
  apply List.ext_getElem?
  intro j
  rw [List.getElem?_set]
  split
  · rename_i e
    subst e
    rw [starH_get h]
    have := (List.getElem?_eq_some_iff.1 (starH_get h)).1
    simp [this]
  · rfl
end Go.Proofs.YtmofaabndjnhjaaGreat
/- The law of chapter 14: awake. -/
set_option linter.unusedVariables false
namespace Go.Proofs.YtmofaabndjnhjaaGreat
open Go Go.Aw Go.Pl Go.RowKit
def lnA : ByteArray := ⟨#[117, 115, 101, 114, 32, 97, 32, 108, 111, 103, 103, 101, 100, 32, 105, 110]⟩
def lnB : ByteArray := ⟨#[117, 115, 101, 114, 32, 98, 32, 108, 111, 103, 103, 101, 100, 32, 105, 110]⟩
def awT : List ByteArray := [B [117, 115, 101, 114], em, B [108, 111, 103, 103, 101, 100], B [105, 110]]
set_option maxRecDepth 100000 in
theorem awQ : mineL [lnA, lnB, lnA] = [(awT, 3)] := by decide +kernel
end Go.Proofs.YtmofaabndjnhjaaGreat
