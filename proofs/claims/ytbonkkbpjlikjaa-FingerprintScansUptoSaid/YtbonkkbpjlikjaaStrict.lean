/- The core of this work's own logic over the model: known heaps, frames as association lists, rules for code; and regions that draw their order. -/
import Derived.Calls
import Derived.Orders
import Derived.Still
import Derived.Deep.Quiet
import Derived.Tactics
import Derived.Below
import Derived.Shelf.Abstract
import Derived.KernelRfl
import Derived.WalkKit
import Derived.OwnWalk
import Derived.Laws.AppendOwn
import Derived.Laws.Slices
import Derived.Test.YtbonkkbpjlikjaaPlain
import Derived.Test.YtbonkkbpjlikjaaProg
set_option linter.unusedVariables false
set_option linter.unusedSimpArgs false
namespace Go.As
open Go Go.RowKit

/-! ### 1. Partial heaps -/
abbrev Hp := Nat → Option Obj
/-- What is known of the draws: nothing here; in the strict copy of this logic (lay.py: B for A): a ≤ b. -/
def Drw (a b : Nat) : Prop := a ≤ b
theorem Drw.refl (a : Nat) : Drw a a := by simp [Drw]
theorem Drw.trans {a b c : Nat} (h : Drw a b) (k : Drw b c) : Drw a c := by simp [Drw] at *; try omega
theorem Drw.add (a k : Nat) : Drw a (a + k) := by simp [Drw]
/-- Below, and no draw is taken back. -/
structure Bel (B : Nat) (w w' : World) : Prop extends Below B w w' where
  dr : Drw w.drawn w'.drawn
theorem Bel.refl (B : Nat) (w : World) : Bel B w w := ⟨Below.refl B w, .refl _⟩
/-- The world holds what the known heap says; its streams are those of the world sg. -/
structure Sat (sg w : World) (m : Hp) : Prop where
  os : w.os = sg.os
  tape : w.tape = sg.tape
  out : w.output = sg.output
  dr : Drw sg.drawn w.drawn
  h : ∀ k o, m k = some o → w.heap[k]? = some o
theorem Sat.lt {sg w : World} {m : Hp} (s : Sat sg w m) {k : Nat} {o : Obj} (h : m k = some o) : k < w.heap.size :=
  (Array.getElem?_eq_some_iff.1 (s.h k o h)).1
theorem Sat.below {sg w w' : World} {m : Hp} (s : Sat sg w m) (b : Bel w.heap.size w w') : Sat sg w' m :=
  ⟨b.os.trans s.os, b.tape.trans s.tape, b.output.trans s.out, s.dr.trans b.dr, fun k o hk => (b.block k (s.lt hk)).trans (s.h k o hk)⟩
theorem Sat.mono {sg w : World} {m m' : Hp} (s : Sat sg w m') (h : ∀ k o, m k = some o → m' k = some o) : Sat sg w m :=
  ⟨s.os, s.tape, s.out, s.dr, fun k o hk => s.h k o (h k o hk)⟩
theorem Sat.drawn {sg w : World} {m : Hp} (s : Sat sg w m) (n : Nat) (hn : Drw w.drawn n) : Sat sg { w with drawn := n } m := ⟨s.os, s.tape, s.out, s.dr.trans hn, s.h⟩
/-- The whole heap of a world. -/
def all (w : World) : Hp := fun k => w.heap[k]?
theorem sat_all (w : World) : Sat w w (all w) := ⟨rfl, rfl, rfl, .refl _, fun _ _ h => h⟩

/-! ### 2. Frames -/
abbrev Env := List (Nat × Value)
def Env.get : Env → Nat → Option Value
  | [], _ => none
  | (k, v) :: r, t => bif Nat.beq k t then some v else Env.get r t
def Env.put (n : Nat) (r : Env) (d : Option Tmp) (v : Value) : Env :=
  match d with
  | none => r
  | some d => bif Nat.blt d n then (d, v) :: r else r
def ev (r : Env) : Operand → Option Value
  | .tmp t => r.get t
  | .const v => some v
  | .global g => some (.pointer (some ⟨g, 0, none⟩))
  | .func f => some (.func (.func f) #[] #[])
def evs (r : Env) : List Operand → Option (List Value)
  | [] => some []
  | x :: xs => (ev r x).bind fun v => (evs r xs).map (v :: ·)
structure Fr (n : Nat) (r : Env) (a : Act) : Prop where
  size : a.tmps.size = n
  defers : a.defers = []
  rep : ∀ t v, r.get t = some v → a.tmps[t]? = some v
theorem Fr.eval {n : Nat} {r : Env} {a : Act} (h : Fr n r a) {x : Operand} {v : Value} (e : ev r x = some v) : a.eval x = v := by
  cases x with
  | tmp t => have := h.rep t v e; simp [Act.eval, this]
  | const c => simpa [ev, Act.eval] using e
  | global g => simpa [ev, Act.eval] using e
  | func f => simpa [ev, Act.eval] using e
theorem Fr.evals {n : Nat} {r : Env} {a : Act} (h : Fr n r a) : ∀ {xs : List Operand} {vs : List Value}, evs r xs = some vs → xs.map a.eval = vs
  | [], vs, e => by simpa [evs] using e
  | x :: xs, vs, e => by
    simp only [evs] at e
    cases hx : ev r x with
    | none => simp [hx] at e
    | some v =>
      cases hxs : evs r xs with
      | none => simp [hx, hxs] at e
      | some l =>
        simp only [hx, hxs, Option.bind_some, Option.map_some, Option.some.injEq] at e
        subst e
        simp [h.eval hx, Fr.evals h hxs]
theorem Env.get_cons (k t : Nat) (v : Value) (r : Env) : Env.get ((k, v) :: r) t = bif Nat.beq k t then some v else r.get t := rfl
theorem Fr.put {n : Nat} {r : Env} {a : Act} (h : Fr n r a) (d : Option Tmp) (v : Value) : Fr n (r.put n d v) (a.put d v) := by
  cases d with
  | none => exact h
  | some d =>
    refine ⟨by simpa [Act.put] using h.size, by simpa [Act.put] using h.defers, fun t u e => ?_⟩
    simp only [Env.put] at e
    simp only [Act.put]
    by_cases hd : d < n
    · have hb : Nat.blt d n = true := by rw [Nat.blt_eq]; exact hd
      rw [hb, cond_true, Env.get_cons] at e
      by_cases hk : d = t
      · subst hk
        rw [Nat.beq_refl, cond_true, Option.some.injEq] at e
        subst e
        rw [Array.getElem?_setIfInBounds_self, if_pos (by rw [h.size]; exact hd)]
      · have hb2 : Nat.beq d t = false := by
          cases hq : Nat.beq d t with
          | false => rfl
          | true => exact absurd (Nat.eq_of_beq_eq_true hq) hk
        rw [hb2, cond_false] at e
        rw [Array.getElem?_setIfInBounds_ne hk]
        exact h.rep t u e
    · have hb : Nat.blt d n = false := by
        cases hq : Nat.blt d n with
        | false => rfl
        | true => rw [Nat.blt_eq] at hq; exact absurd hq hd
      rw [hb, cond_false] at e
      by_cases hk : d = t
      · subst hk
        have := h.rep _ _ e
        have hlt := (Array.getElem?_eq_some_iff.1 this).1
        rw [h.size] at hlt
        exact absurd hlt hd
      · rw [Array.getElem?_setIfInBounds_ne hk]
        exact h.rep t u e
/-- A smaller frame. -/
def EnvLe : Env → Env → Prop
  | [], _ => True
  | (t, v) :: s, r => r.get t = some v ∧ EnvLe s r
theorem EnvLe.get : ∀ {s r : Env}, EnvLe s r → ∀ t v, s.get t = some v → r.get t = some v
  | [], _, _, t, v, e => by simp [Env.get] at e
  | (k, u) :: s, r, h, t, v, e => by
    rw [Env.get_cons] at e
    by_cases hk : Nat.beq k t = true
    · rw [hk, cond_true, Option.some.injEq] at e
      subst e
      rw [← Nat.eq_of_beq_eq_true hk]
      exact h.1
    · rw [Bool.not_eq_true] at hk
      rw [hk, cond_false] at e
      exact EnvLe.get h.2 t v e
theorem Fr.le {n : Nat} {s r : Env} {a : Act} (h : Fr n r a) (hl : EnvLe s r) : Fr n s a := ⟨h.size, h.defers, fun t v e => h.rep t v (hl.get t v e)⟩

/-! ### 3. Code -/
def Ok (n : Nat) (sg : World) (K : Env → Hp → Prop) (a : Act) (w : World) : Prop := ∃ r m, Fr n r a ∧ Sat sg w m ∧ K r m
theorem Ok.mono {n : Nat} {sg : World} {K K' : Env → Hp → Prop} {a : Act} {w : World} (h : Ok n sg K a w) (hk : ∀ r m, K r m → K' r m) : Ok n sg K' a w :=
  let ⟨r, m, f, s, k⟩ := h; ⟨r, m, f, s, hk r m k⟩
def noQ : Exit → Act → World → Prop := fun _ _ _ => False
abbrev Post := Exit → Env → Hp → Prop
def lift (n : Nat) (sg : World) (Q : Post) : Exit → Act → World → Prop
  | .normal, a, w => Ok n sg (Q .normal) a w
  | .exit i, a, w => Ok n sg (Q (.exit i)) a w
  | .ret, a, w => Ok n sg (Q .ret) a w
  | _, _, _ => False
def AWp (P : Program) (n : Nat) (c : Code) (Q : Post) (r : Env) (m : Hp) : Prop :=
  ∀ sg a w, Fr n r a → Sat sg w m → c.wp P (lift n sg Q) a w
def qseq (K : Env → Hp → Prop) (Q : Post) : Post
  | .normal => K
  | e => Q e
def qblock (id : Nat) (Q : Post) : Post
  | .exit i => bif Nat.beq i id then Q .normal else Q (.exit i)
  | e => Q e
section
variable {P : Program} {n : Nat} {Q : Post} {r : Env} {m : Hp}
theorem awp_le {c : Code} (s : Env) (hs : EnvLe s r) (h : AWp P n c Q s m) : AWp P n c Q r m := fun sg a w hf hw => h sg a w (hf.le hs) hw
theorem awp_sub {c : Code} (m' : Hp) (hs : ∀ k o, m' k = some o → m k = some o) (h : AWp P n c Q r m') : AWp P n c Q r m := fun sg a w hf hw => h sg a w hf (hw.mono hs)
theorem awp_mono {c : Code} {Q' : Post} (h : AWp P n c Q r m) (hq : ∀ e r m, Q e r m → Q' e r m) : AWp P n c Q' r m := fun sg a w hf hw =>
  wp_mono (h sg a w hf hw) fun e a w q => by
    cases e <;> first | exact Ok.mono q (hq _) | exact q
theorem awp_seq {x y : Code} (h : AWp P n x (qseq (fun r m => AWp P n y Q r m) Q) r m) : AWp P n (.seq x y) Q r m := fun sg a w hf hw =>
  wp_seq (wp_mono (h sg a w hf hw) fun e a w q => by
    cases e with
    | normal =>
      obtain ⟨r', m', hf', hw', k⟩ := q
      exact k sg a w hf' hw'
    | exit i => exact q
    | ret => exact q
    | goto l => exact q
    | panic c => exact q
    | outgrown => exact q)
theorem awp_skip (h : Q .normal r m) : AWp P n .skip Q r m := fun sg a w hf hw => wp_skip ⟨r, m, hf, hw, h⟩
theorem awp_ret (h : Q .ret r m) : AWp P n .ret Q r m := fun sg a w hf hw => wp_ret ⟨r, m, hf, hw, h⟩
theorem awp_exit {id : Nat} (h : Q (.exit id) r m) : AWp P n (.exit id) Q r m := fun sg a w hf hw => wp_exit ⟨r, m, hf, hw, h⟩
theorem awp_block {id : Nat} {c : Code} (h : AWp P n c (qblock id Q) r m) : AWp P n (.block id c) Q r m := fun sg a w hf hw =>
  wp_block (wp_mono (h sg a w hf hw) fun e a w q => by
    cases e with
    | exit i =>
      by_cases hi : i = id
      · subst hi
        simp only [lift, qblock, Nat.beq_refl, cond_true] at q
        simp only [Exit.inBlock, if_true]
        exact q
      · have hb : Nat.beq i id = false := by
          cases hq : Nat.beq i id with
          | false => rfl
          | true => exact absurd (Nat.eq_of_beq_eq_true hq) hi
        simp only [lift, qblock, hb, cond_false] at q
        simp only [Exit.inBlock, hi, if_false]
        exact q
    | normal => exact q
    | ret => exact q
    | goto l => exact q
    | panic c => exact q
    | outgrown => exact q)
theorem awp_cond {c : Operand} {x y : Code} {t : Bool} (hc : ev r c = some (.bool t)) (hx : t = true → AWp P n x Q r m) (hy : t = false → AWp P n y Q r m) : AWp P n (.cond c x y) Q r m := fun sg a w hf hw =>
  wp_cond_split (hf.eval hc) (fun ht => hx ht sg a w hf hw) (fun ht => hy ht sg a w hf hw)
theorem awp_true {c : Operand} {x y : Code} (hc : ev r c = some (.bool true)) (hx : AWp P n x Q r m) : AWp P n (.cond c x y) Q r m :=
  awp_cond hc (fun _ => hx) (fun h => by cases h)
theorem awp_false {c : Operand} {x y : Code} (hc : ev r c = some (.bool false)) (hy : AWp P n y Q r m) : AWp P n (.cond c x y) Q r m :=
  awp_cond hc (fun h => by cases h) (fun _ => hy)
theorem awp_if {c : Operand} {x y : Code} {p : Prop} [Decidable p] (hc : ev r c = some (.bool (decide p))) (hx : p → AWp P n x Q r m) (hy : ¬p → AWp P n y Q r m) : AWp P n (.cond c x y) Q r m :=
  awp_cond hc (fun h => hx (of_decide_eq_true h)) (fun h => hy (of_decide_eq_false h))
theorem awp_ifn {c : Operand} {x y : Code} {p : Prop} [Decidable p] (hc : ev r c = some (.bool (!decide p))) (hx : ¬p → AWp P n x Q r m) (hy : p → AWp P n y Q r m) : AWp P n (.cond c x y) Q r m :=
  awp_cond hc (fun h => hx (by simpa using h)) (fun h => hy (by simpa using h))
/-- A loop, by a number that every round lowers. -/
theorem awp_loop {c : Code} (I : Nat → Env → Hp → Prop) (k : Nat) (h0 : I k r m)
    (round : ∀ k r m, I k r m → AWp P n c (qseq (fun r' m' => ∃ s k', EnvLe s r' ∧ k' < k ∧ I k' s m') Q) r m) : AWp P n (.loop c) Q r m := by
  intro sg a w hf hw b kk cs
  have key : ∀ k a w, Ok n sg (I k) a w → ∃ e a' w', lift n sg Q e a' w' ∧ Arrives P (lone (b.at a (.code c :: .inLoop c :: kk)) cs w) b kk cs e a' w' := by
    intro k
    induction k using Nat.strongRecOn with
    | _ k ih =>
      rintro a w ⟨r, m, hf, hw, hI⟩
      obtain ⟨e, a₁, w₁, hq, harr⟩ := round k r m hI sg a w hf hw b (.inLoop c :: kk) cs
      cases e with
      | normal =>
        obtain ⟨r', m', hf', hw', s, k', hle, hlt, hI'⟩ := hq
        obtain ⟨e₂, a₂, w₂, hq₂, harr₂⟩ := ih k' hlt a₁ w₁ ⟨s, m', hf'.le hle, hw', hI'⟩
        exact ⟨e₂, a₂, w₂, hq₂, .of_steps (Steps.trans harr (.one step_inLoop)) harr₂⟩
      | exit id => exact ⟨.exit id, a₁, w₁, (show lift n sg Q (.exit id) a₁ w₁ from hq), .pass (x := .inLoop c) rfl (fun _ _ => .inl (by simp)) harr⟩
      | ret => exact ⟨.ret, a₁, w₁, (show lift n sg Q .ret a₁ w₁ from hq), .pass (x := .inLoop c) rfl (fun _ _ => .inl (by simp)) harr⟩
      | goto l => exact hq.elim
      | panic ch => exact hq.elim
      | outgrown => exact hq.elim
  obtain ⟨e, a', w', hq, harr⟩ := key k a w ⟨r, m, hf, hw, h0⟩
  exact ⟨e, a', w', hq, .of_steps (.one step_loop) harr⟩
end

/-! ### 4. Operations, one after the other -/
def AOp (P : Program) (n : Nat) (ops : Array Oper) (o : Oper) (r : Env) (m : Hp) (K : Env → Hp → Prop) : Prop :=
  ∀ sg a w, Fr n r a → Sat sg w m → if Region.wanted o (yielded ops a.tmps) then o.wp P a w (Ok n sg K) noQ else Ok n sg K (a.put o.dst undef) w
def AOps (P : Program) (n : Nat) (ops : Array Oper) : List Oper → Env → Hp → (Env → Hp → Prop) → Prop
  | [], r, m, K => K r m
  | o :: os, r, m, K => AOp P n ops o r m fun r' m' => AOps P n ops os r' m' K
/-- What an operation does, whatever its place. -/
def Ex (P : Program) (o : Oper) (r : Env) (m : Hp) (F : Value → Hp → Prop) : Prop :=
  ∀ n sg a w, Fr n r a → Sat sg w m → o.wp P a w (fun a' w' => ∃ v m', a' = a.put o.dst v ∧ Sat sg w' m' ∧ F v m') noQ
/-- It yields v, and leaves what is known of the heap. -/
def Rig (P : Program) (o : Oper) (r : Env) (m : Hp) (v : Value) : Prop :=
  ∀ n sg a w, Fr n r a → Sat sg w m → o.quietAt P a (fun w' => Bel w.heap.size w w') w v
section
variable {P : Program} {n : Nat} {ops : Array Oper} {r : Env} {m : Hp} {K : Env → Hp → Prop} {o : Oper} {os : List Oper}
theorem wp_of_quietAt {a : Act} {w : World} {C : World → Prop} {v : Value} (hw : C w) (h : o.quietAt P a C w v) {K : Act → World → Prop} {Q : Exit → Act → World → Prop} (hk : ∀ w', C w' → K (a.put o.dst v) w') : o.wp P a w K Q := by
  unfold Oper.quietAt at h
  unfold Oper.wp
  generalize (execOp a.eval o).run P w = x at *
  cases x with
  | ok nx w' =>
    cases nx <;> simp only [Oper.quietUpon] at h <;> simp only [Oper.upon]
    case value u =>
      obtain ⟨e1, e2⟩ := h
      rw [e1, e2]
      exact hk _ hw
    case skip =>
      obtain ⟨e1, e2⟩ := h
      rw [e1, ← e2]
      exact hk _ hw
    case enter f args =>
      obtain ⟨e1, hc⟩ := h
      rw [e1]
      exact hc.mono fun e w'' ⟨he, hw''⟩ => by subst he; exact hk _ hw''
  | halt x w' => simp only [Oper.quietUpon] at h
theorem Rig.ex {v : Value} (h : Rig P o r m v) : Ex P o r m (fun v' m' => v' = v ∧ m' = m) := fun n sg a w hf hw =>
  wp_of_quietAt (C := fun w' => Bel w.heap.size w w') (Bel.refl _ _) (h n sg a w hf hw) fun w' hw' => ⟨v, m, rfl, hw.below hw', rfl, rfl⟩
theorem wp_mono2 {a : Act} {w : World} {K K' : Act → World → Prop} {Q Q' : Exit → Act → World → Prop} (h : o.wp P a w K Q) (hk : ∀ a w, K a w → K' a w) (hq : ∀ e a w, Q e a w → Q' e a w) : o.wp P a w K' Q' := by
  unfold Oper.wp at *
  generalize (execOp a.eval o).run P w = x at *
  cases x with
  | ok nx w' =>
    cases nx <;> simp only [Oper.upon] at h ⊢ <;>
      first
        | exact hk _ _ h
        | exact Calls.mono h (fun e w'' he => by
            cases e with
            | returned v => exact hk _ _ he
            | panicked c => exact hq _ _ _ he
            | outgrown => obtain ⟨a', w3, he⟩ := he; exact ⟨a', w3, hq _ _ _ he⟩)
        | exact Rows.mono h (fun _ _ he => hk _ _ he)
  | halt x w' => cases x <;> simp only [Oper.upon] at h ⊢ <;> first | exact hq _ _ _ h | exact h
theorem wanted_none {a : Act} (h : o.guard = none) : Region.wanted o (yielded ops a.tmps) = true := by simp [Region.wanted, h]
theorem wanted_some {a : Act} {j : Nat} {b : Bool} {t : Tmp} {u : Bool} (h : o.guard = some (j, b)) (hd : (ops[j]?).bind (·.dst) = some t) (hf : Fr n r a) (hv : r.get t = some (.bool u)) : Region.wanted o (yielded ops a.tmps) = (u == b) := by
  have ht := hf.rep t _ hv
  have hy : yielded ops a.tmps j = some u := by
    unfold yielded
    cases ho : ops[j]? with
    | none => simp [ho] at hd
    | some oj =>
      simp only [ho, Option.bind_some] at hd
      simp [hd, ht]
  simp [Region.wanted, h, hy]
theorem ao_ex {F : Value → Hp → Prop} (hg : o.guard = none) (h : Ex P o r m F) (k : ∀ v m', F v m' → AOps P n ops os (r.put n o.dst v) m' K) : AOps P n ops (o :: os) r m K := fun sg a w hf hw => by
  rw [if_pos (wanted_none hg)]
  exact wp_mono2 (h n sg a w hf hw) (fun a' w' ⟨v, m', ha, hs, hF⟩ => ⟨_, m', ha ▸ hf.put o.dst v, hs, k v m' hF⟩) (fun _ _ _ q => q)
theorem ao_rig {v : Value} (hg : o.guard = none) (h : Rig P o r m v) (k : AOps P n ops os (r.put n o.dst v) m K) : AOps P n ops (o :: os) r m K :=
  ao_ex hg h.ex fun v' m' ⟨h1, h2⟩ => by rw [h1, h2]; exact k
/-- The guard says yes. -/
theorem ao_on {dst : Option Tmp} {op : Op} {ty : TypeId} {pos : String} {af : Array Edge} {j : Nat} {b : Bool} {t : Tmp} (hd : (ops[j]?).bind (·.dst) = some t) (hv : r.get t = some (.bool b))
    (k : AOps P n ops ({ dst, op, type := ty, pos, after := af, guard := none } :: os) r m K) : AOps P n ops ({ dst, op, type := ty, pos, after := af, guard := some (j, b) } :: os) r m K := fun sg a w hf hw => by
  rw [wanted_some rfl hd hf hv, if_pos (by simp)]
  have := k sg a w hf hw
  rw [if_pos (wanted_none rfl)] at this
  exact this
/-- The guard says no. -/
theorem ao_off {dst : Option Tmp} {op : Op} {ty : TypeId} {pos : String} {af : Array Edge} {j : Nat} {b u : Bool} {t : Tmp} (hd : (ops[j]?).bind (·.dst) = some t) (hv : r.get t = some (.bool u)) (hn : (u == b) = false)
    (k : AOps P n ops os (r.put n dst undef) m K) : AOps P n ops ({ dst, op, type := ty, pos, after := af, guard := some (j, b) } :: os) r m K := fun sg a w hf hw => by
  rw [wanted_some rfl hd hf hv, hn]
  exact ⟨_, m, hf.put dst undef, hw, k⟩
section
variable {d : Tmp} {op : Op} {ty : TypeId} {pos : String} {af : Array Edge}
theorem put_lt {v : Value} (hd : Nat.blt d n = true) : r.put n (some d) v = (d, v) :: r := by simp only [Env.put, hd, cond_true]
/-- A step that leaves the heap, into slot d. -/
theorem ao_r {v : Value} (h : Rig P { dst := some d, op, type := ty, pos, after := af, guard := none } r m v) (hd : Nat.blt d n = true) (k : AOps P n ops os ((d, v) :: r) m K) : AOps P n ops ({ dst := some d, op, type := ty, pos, after := af, guard := none } :: os) r m K :=
  ao_rig rfl h (by rw [put_lt hd]; exact k)
/-- A step that may turn the heap, into slot d. -/
theorem ao_x {F : Value → Hp → Prop} (h : Ex P { dst := some d, op, type := ty, pos, after := af, guard := none } r m F) (hd : Nat.blt d n = true) (k : ∀ v m', F v m' → AOps P n ops os ((d, v) :: r) m' K) : AOps P n ops ({ dst := some d, op, type := ty, pos, after := af, guard := none } :: os) r m K :=
  ao_ex rfl h fun v m' hF => by rw [put_lt hd]; exact k v m' hF
/-- A step without a slot. -/
theorem ao_x0 {F : Value → Hp → Prop} (h : Ex P { dst := none, op, type := ty, pos, after := af, guard := none } r m F) (k : ∀ v m', F v m' → AOps P n ops os r m' K) : AOps P n ops ({ dst := none, op, type := ty, pos, after := af, guard := none } :: os) r m K :=
  ao_ex rfl h k
/-- The guard says no. -/
theorem ao_no {j : Nat} {b u : Bool} {t : Tmp} (hd : (ops[j]?).bind (·.dst) = some t) (hv : r.get t = some (.bool u)) (hn : (u == b) = false) (hd' : Nat.blt d n = true)
    (k : AOps P n ops os ((d, undef) :: r) m K) : AOps P n ops ({ dst := some d, op, type := ty, pos, after := af, guard := some (j, b) } :: os) r m K :=
  ao_off hd hv hn (by rw [put_lt hd']; exact k)
end
theorem ao_nil (h : K r m) : AOps P n ops [] r m K := h
theorem ao_le (s : Env) (hs : EnvLe s r) (h : AOps P n ops (o :: os) s m K) : AOps P n ops (o :: os) r m K := fun sg a w hf hw => h sg a w (hf.le hs) hw
theorem aops_sound {Q : Post} {sg : World} : ∀ {l : List Oper} {r : Env} {m : Hp} {a : Act} {w : World}, AOps P n ops l r m (Q .normal) → Fr n r a → Sat sg w m → wpList P ops (lift n sg Q) l a w
  | [], r, m, a, w, h, hf, hw => ⟨r, m, hf, hw, h⟩
  | o :: l, r, m, a, w, h, hf, hw => by
    have h1 := h sg a w hf hw
    unfold wpList
    by_cases hwt : Region.wanted o (yielded ops a.tmps) = true
    · simp only [hwt, if_true] at h1 ⊢
      exact .inl (wp_mono2 h1 (fun a' w' ⟨r', m', hf', hw', k⟩ => aops_sound k hf' hw') (fun _ _ _ q => q.elim))
    · simp only [hwt, Bool.false_eq_true, if_false] at h1 ⊢
      obtain ⟨r', m', hf', hw', k⟩ := h1
      exact aops_sound k hf' hw'
theorem awp_region {id : Nat} {l : List Oper} {Q : Post} (h : AOps P n l.toArray l r m (Q .normal)) : AWp P n (.region id l.toArray false) Q r m := fun sg a w hf hw =>
  wp_region_lit (aops_sound h hf hw)
end
end Go.As
/- Regions that draw their order: one walk along a given order serves every order. -/
set_option linter.unusedVariables false
set_option linter.unusedSimpArgs false
namespace Go.As
open Go Go.RowKit
def HpLe (m m' : Hp) : Prop := ∀ k o, m k = some o → m' k = some o
theorem HpLe.refl (m : Hp) : HpLe m m := fun _ _ h => h
theorem HpLe.trans {a b c : Hp} (h : HpLe a b) (k : HpLe b c) : HpLe a c := fun i o e => k i o (h i o e)

/-- The operation is passed over, or yields v in every world of W. -/
def YieldsW (P : Program) (ops : Array Oper) (o : Oper) (v : Value) (a : Act) (W : World → Prop) : Prop :=
  (Region.wanted o (yielded ops a.tmps) = true ∧ ∀ w, W w → o.quietAt P a (fun w' => Bel w.heap.size w w') w v) ∨
  (Region.wanted o (yielded ops a.tmps) = false ∧ v = undef)
theorem YieldsW.of_same {P : Program} {ops : Array Oper} {o : Oper} {v : Value} {a a' : Act} {W : World → Prop} (hy : YieldsW P ops o v a W) (he : execOp a'.eval o = execOp a.eval o)
    (hw : Region.wanted o (yielded ops a'.tmps) = Region.wanted o (yielded ops a.tmps)) : YieldsW P ops o v a' W := by
  unfold YieldsW Oper.quietAt at *
  rw [he, hw]
  exact hy
theorem YieldsW.sub {P : Program} {ops : Array Oper} {o : Oper} {v : Value} {a : Act} {W W' : World → Prop} (hy : YieldsW P ops o v a W) (h : ∀ w, W' w → W w) : YieldsW P ops o v a W' :=
  hy.imp (fun ⟨h1, h2⟩ => ⟨h1, fun w hw => h2 w (h w hw)⟩) id
section
variable {P : Program} {ops : Array Oper} {mu : List Nat} {sg : World} {Q : Act → Hp → Prop}
/-- One step, from what is known of the heap to what is then known. -/
def mStep (P : Program) (ops : Array Oper) (mu : List Nat) (sg : World) (i : Nat) (K : Act → Hp → Prop) (a : Act) (m : Hp) : Prop :=
  match ops[i]? with
  | none => K a m
  | some o => if Region.wanted o (yielded ops a.tmps) then ∀ w, Sat sg w m → o.wp P a w (fun a' w' => ∃ m', (mu.contains i = false → HpLe m m') ∧ Sat sg w' m' ∧ K a' m') noQ else K (a.put o.dst undef) m
theorem mStep_mono {i : Nat} {K K' : Act → Hp → Prop} {a : Act} {m : Hp} (h : mStep P ops mu sg i K a m) (hk : ∀ a m, K a m → K' a m) : mStep P ops mu sg i K' a m := by
  unfold mStep at *
  split
  · rename_i ho; simp only [ho] at h; exact hk _ _ h
  · rename_i o ho
    simp only [ho] at h
    split
    · rename_i hw
      simp only [hw, if_true] at h
      exact fun w hs => wp_mono2 (h w hs) (fun a' w' ⟨m', h1, h2, h3⟩ => ⟨m', h1, h2, hk _ _ h3⟩) (fun _ _ _ q => q)
    · rename_i hw
      simp only [hw] at h
      exact hk _ _ h
def wpAnyM (P : Program) (ops : Array Oper) (mu : List Nat) (sg : World) (Q : Act → Hp → Prop) : Nat → Array Bool → Act → Hp → Prop
  | 0, listed, a, m => Region.ready .any ops listed = [] ∧ Q a m
  | fuel + 1, listed, a, m => (Region.ready .any ops listed = [] → Q a m) ∧
    ∀ i ∈ Region.ready .any ops listed, mStep P ops mu sg i (fun a' m' => wpAnyM P ops mu sg Q fuel (listed.setIfInBounds i true) a' m') a m
theorem wpAny_of_M {Q' : Exit → Act → World → Prop} (hQ : ∀ a m w, Sat sg w m → Q a m → Q' .normal a w) : ∀ (fuel : Nat) (listed : Array Bool) (a : Act) (m : Hp) (w : World), Sat sg w m →
    wpAnyM P ops mu sg Q fuel listed a m → wpAny P .any ops Q' fuel listed a w
  | 0, _, a, m, w, hs, h => ⟨h.1, hQ a m w hs h.2⟩
  | fuel + 1, listed, a, m, w, hs, h => ⟨fun h0 => hQ a m w hs (h.1 h0), fun i hi => by
      have h1 := h.2 i hi
      unfold mStep at h1
      unfold wpOp
      split
      · rename_i ho; simp only [ho] at h1; exact wpAny_of_M hQ fuel _ a m w hs h1
      · rename_i o ho
        simp only [ho] at h1
        split
        · rename_i hw
          simp only [hw, if_true] at h1
          exact .inl (wp_mono2 (h1 w hs) (fun a' w' ⟨m', _, h2, h3⟩ => wpAny_of_M hQ fuel _ a' m' w' h2 h3) (fun _ _ _ q => q.elim))
        · rename_i hw
          simp only [hw] at h1
          exact wpAny_of_M hQ fuel _ _ m w hs h1⟩
/-- Where it is quiet: everywhere, or in the worlds that hold m. -/
def Wd (pu : Bool) (sg : World) (m : Hp) : World → Prop := fun w => pu = true ∨ Sat sg w m
theorem YieldsW.step {i : Nat} {o : Oper} {v : Value} {a : Act} {m : Hp} {pu : Bool} (hi : ops[i]? = some o) (hy : YieldsW P ops o v a (Wd pu sg m)) {K : Act → Hp → Prop} (h : K (a.put o.dst v) m) : mStep P ops mu sg i K a m := by
  unfold mStep
  simp only [hi]
  rcases hy with ⟨hw, hv⟩ | ⟨hw, rfl⟩
  · simp only [hw, if_true]
    exact fun w hs => wp_of_quietAt (C := fun w' => Bel w.heap.size w w') (Bel.refl _ _) (hv w (.inr hs)) fun w' hw' => ⟨m, fun _ => HpLe.refl m, hs.below hw', h⟩
  · simp only [hw, Bool.false_eq_true, if_false]; exact h
theorem mStep_put {j : Nat} {oi oj : Oper} {v : Value} {pu : Bool} (hj : ops[j]? = some oj) (hap : oi.apart ops oj = true) (hm : pu = true ∨ mu.contains j = false)
    (hsi : ∀ cs b, oi.op ≠ .select cs b) (hsj : ∀ cs b, oj.op ≠ .select cs b) {K : Act → Hp → Prop} {a : Act} {m : Hp}
    (hy : YieldsW P ops oi v a (Wd pu sg m)) (h : mStep P ops mu sg j K (a.put oi.dst v) m) :
    mStep P ops mu sg j (fun a' m' => YieldsW P ops oi v a' (Wd pu sg m') ∧ K (a'.put oi.dst v) m') a m := by
  obtain ⟨h1, h2, h3⟩ := Oper.apart_spec hap
  have keep : ∀ (a : Act) (m' : Hp), YieldsW P ops oi v a (Wd pu sg m) → (mu.contains j = false → HpLe m m') → ∀ u, YieldsW P ops oi v (a.put oj.dst u) (Wd pu sg m') := fun a m' hy hle u =>
    (hy.of_same (execOp_put oi hsi a oj.dst u h3) (wanted_put oi a oj.dst u h3)).sub fun w hw => by
      rcases hm with hm | hm
      · exact .inl hm
      · rcases hw with hw | hw
        · exact .inl hw
        · exact .inr (hw.mono (hle hm))
  have keepD : ∀ d, YieldsW P ops oi v { a with defers := d :: a.defers } (Wd pu sg m) := fun d => hy.of_same rfl rfl
  unfold mStep at *
  simp only [hj] at *
  rw [wanted_put oj a oi.dst v h1] at h
  split
  · rename_i hw
    simp only [hw, if_true] at h
    intro w hs
    have h' := h w hs
    unfold Oper.wp at *
    rw [execOp_put oj hsj a oi.dst v h1] at h'
    generalize (execOp a.eval oj).run P w = x at *
    cases x with
    | ok n w' =>
      cases n <;> simp only [Oper.upon] at h' ⊢
      case value u => obtain ⟨m', e1, e2, e3⟩ := h'; exact ⟨m', e1, e2, keep a m' hy e1 u, by rw [← Act.put_comm a v u h2]; exact e3⟩
      case skip => obtain ⟨m', e1, e2, e3⟩ := h'; exact ⟨m', e1, e2, keep a m' hy e1 _, by rw [← Act.put_comm a v undef h2]; exact e3⟩
      case defer d =>
        obtain ⟨m', e1, e2, e3⟩ := h'
        refine ⟨m', e1, e2, keep _ m' (keepD d) e1 _, ?_⟩
        rw [← Act.put_comm _ v undef h2, ← Act.put_defers]
        exact e3
      case enter f args =>
        refine Calls.mono h' fun e w'' he => ?_
        cases e with
        | returned u => obtain ⟨m', e1, e2, e3⟩ := he; exact ⟨m', e1, e2, keep a m' hy e1 u, by rw [← Act.put_comm a v u h2]; exact e3⟩
        | panicked c => exact he.elim
        | outgrown => obtain ⟨_, _, he⟩ := he; exact he.elim
      case row row args => exact Rows.mono h' fun u w'' he => by obtain ⟨m', e1, e2, e3⟩ := he; exact ⟨m', e1, e2, keep a m' hy e1 u, by rw [← Act.put_comm a v u h2]; exact e3⟩
    | halt x w' =>
      cases x <;> simp only [Oper.upon] at h' ⊢
      case panic u => exact h'.elim
  · rename_i hw
    simp only [hw] at h
    exact ⟨keep a m hy (fun _ => HpLe.refl m) _, by rw [← Act.put_comm a v undef h2]; exact h⟩
/-- What is listed has all it waits for listed. -/
def Dc (ops : Array Oper) (listed : Array Bool) : Prop := ∀ j oj, ops[j]? = some oj → listed.getD j false = true → ∀ e ∈ oj.after, Region.binds .any e = true → listed.getD e.on false = true
theorem Dc.set {listed : Array Bool} {i : Nat} (h : Dc ops listed) (hr : i ∈ Region.ready .any ops listed) : Dc ops (listed.setIfInBounds i true) := fun j oj hj hl e he hb => by
  by_cases hij : i = j
  · subst hij
    obtain ⟨_, o, ho, hall⟩ := mem_ready.1 hr
    obtain rfl : oj = o := Option.some.inj (hj.symm.trans ho)
    exact getD_set_true (hall e he hb)
  · rw [getD_set_ne false hij] at hl
    exact getD_set_true (h j oj hj hl e he hb)
def twB (ops : Array Oper) : Nat → Nat → Nat → Bool
  | 0, _, _ => false
  | f + 1, j, i => match ops[j]? with
    | some oj => oj.after.any fun e => Region.binds .any e && (Nat.beq e.on i || twB ops f e.on i)
    | none => false
theorem twB_spec {listed : Array Bool} (h : Dc ops listed) : ∀ (f j i : Nat), twB ops f j i = true → (∀ oj, ops[j]? = some oj → ∀ e ∈ oj.after, Region.binds .any e = true → listed.getD e.on false = true) → listed.getD i false = true
  | 0, _, _, ht, _ => by simp [twB] at ht
  | f + 1, j, i, ht, hj => by
    unfold twB at ht
    split at ht
    · rename_i oj hoj
      obtain ⟨e, he, hb⟩ := Array.any_eq_true'.1 ht
      simp only [Bool.and_eq_true, Bool.or_eq_true] at hb
      have h1 := hj oj hoj e he hb.1
      rcases hb.2 with h2 | h2
      · rw [← Nat.eq_of_beq_eq_true h2]; exact h1
      · exact twB_spec h f e.on i h2 fun o2 ho2 e2 he2 hb2 => h e.on o2 ho2 h1 e2 he2 hb2
    · cases ht
theorem firstM {i : Nat} {oi : Oper} {v : Value} {pu : Bool} (hi : ops[i]? = some oi) (hsel : ∀ (j : Nat) (o : Oper) cs b, ops[j]? = some o → o.op ≠ .select cs b)
    :
    ∀ (fuel : Nat) (listed : Array Bool) (a : Act) (m : Hp), Dc ops listed → (pu = true ∨ ∀ j ∈ mu, j = i ∨ listed.getD j true = true ∨ ∃ f, twB ops f j i = true) →
      (∀ j oj, ops[j]? = some oj → j ≠ i → listed.getD j true = false → (∀ e ∈ oj.after, Region.binds .any e = true → e.on ≠ i) → oi.apart ops oj = true) →
      i ∈ Region.ready .any ops listed → YieldsW P ops oi v a (Wd pu sg m) →
      wpAnyM P ops mu sg Q fuel (listed.setIfInBounds i true) (a.put oi.dst v) m → wpAnyM P ops mu sg Q (fuel + 1) listed a m := by
  intro fuel
  induction fuel with
  | zero =>
    intro listed a m _ _ _ hr hy H
    refine ⟨fun h => (by rw [h] at hr; cases hr), fun j hj => ?_⟩
    by_cases hji : j = i
    · subst hji; exact hy.step hi H
    · have := ready_mono hj hji
      rw [H.1] at this
      cases this
  | succ fuel ih =>
    intro listed a m hdc hmu hfree hr hy H
    refine ⟨fun h => (by rw [h] at hr; cases hr), fun j hj => ?_⟩
    by_cases hji : j = i
    · subst hji; exact hy.step hi H
    · have h1 := H.2 j (ready_mono hj hji)
      obtain ⟨hjun, oj, hoj, hall⟩ := mem_ready.1 hj
      have hnot : ∀ e ∈ oj.after, Region.binds .any e = true → e.on ≠ i := fun e he hb heq => by
        have h1 := hall e he hb
        have h0 := (mem_ready.1 hr).1
        rw [heq] at h1
        rcases Nat.lt_or_ge i listed.size with h' | h'
        · simp [h'] at h0 h1; rw [h0] at h1; cases h1
        · simp [Array.getElem?_eq_none h'] at h1
      have hm : pu = true ∨ mu.contains j = false := by
        rcases hmu with h | h
        · exact .inl h
        · refine .inr ?_
          cases hc : mu.contains j with
          | false => rfl
          | true =>
            rcases h j (List.contains_iff_mem.1 hc) with e | e | ⟨f, ht⟩
            · exact absurd e hji
            · rw [hjun] at e; cases e
            · have h1 := twB_spec hdc f j i ht fun o2 ho2 e2 he2 hb2 => by
                obtain rfl : o2 = oj := Option.some.inj (ho2.symm.trans hoj)
                exact hall e2 he2 hb2
              have h0 := (mem_ready.1 hr).1
              rcases Nat.lt_or_ge i listed.size with h' | h'
              · simp [h'] at h0 h1; rw [h0] at h1; cases h1
              · simp [Array.getElem?_eq_none h'] at h1
      have h2 := mStep_put hoj (hfree j oj hoj hji hjun hnot) hm (fun cs b => hsel i oi cs b hi) (fun cs b => hsel j oj cs b hoj) hy h1
      have hfree' : ∀ k ok, ops[k]? = some ok → k ≠ i → (listed.setIfInBounds j true).getD k true = false →
          (∀ e ∈ ok.after, Region.binds .any e = true → e.on ≠ i) → oi.apart ops ok = true := fun k ok hk hki hun hno => by
        refine hfree k ok hk hki ?_ hno
        by_cases hjk : j = k
        · subst hjk; exact hjun
        · rw [getD_set_ne true hjk] at hun; exact hun
      have hmu' : pu = true ∨ ∀ k ∈ mu, k = i ∨ (listed.setIfInBounds j true).getD k true = true ∨ ∃ f, twB ops f k i = true := hmu.imp id fun h k hk => (h k hk).imp id fun h => h.imp (fun h => by
        by_cases e : j = k
        · subst e
          rcases Nat.lt_or_ge j listed.size with h' | h' <;> simp [h']
        · rw [getD_set_ne true e]; exact h) id
      refine mStep_mono h2 fun a' m' h3 => ih (listed.setIfInBounds j true) a' m' (hdc.set hj) hmu' hfree' (ready_mono hr (Ne.symm hji)) h3.1 ?_
      rw [Array.setIfInBounds_comm _ _ hji]
      exact h3.2
end

/-! ### An order, and what is asked along it -/
inductive Ord where
  | fin
  | q (i : Nat) (x : Ord)
  | p (i : Nat) (x : Ord)
  | s (i : Nat) (x : Ord)
  | b (i : Nat) (x : Ord) (j : Nat) (y : Ord)
def waitsB (ops : Array Oper) (j i : Nat) : Bool :=
  match ops[j]? with
  | some oj => oj.after.any fun e => Region.binds .any e && Nat.beq e.on i
  | none => false
def okB (ops : Array Oper) (mu : List Nat) : Nat → Ord → Array Bool → Bool
  | _, .fin, l => (Region.ready .any ops l).isEmpty
  | f + 1, .q i x, l => (Region.ready .any ops l).contains i && Region.free .any ops l i && mu.all (fun j => Nat.beq j i || (l.getD j true || twB ops ops.size j i)) && okB ops mu f x (l.setIfInBounds i true)
  | f + 1, .p i x, l => (Region.ready .any ops l).contains i && Region.free .any ops l i && okB ops mu f x (l.setIfInBounds i true)
  | f + 1, .s i x, l => (Region.ready .any ops l == [i]) && okB ops mu f x (l.setIfInBounds i true)
  | f + 1, .b i x j y, l => (Region.ready .any ops l == [i, j]) && okB ops mu f x (l.setIfInBounds i true) && okB ops mu f y (l.setIfInBounds j true)
  | 0, _, _ => false
/-- The guard's word, and what the operation yields. -/
def GRig (P : Program) (ops : Array Oper) (o : Oper) (r : Env) (m : Hp) (v : Value) : Prop :=
  ((∀ n a, Fr n r a → Region.wanted o (yielded ops a.tmps) = true) ∧ Rig P o r m v) ∨ ((∀ n a, Fr n r a → Region.wanted o (yielded ops a.tmps) = false) ∧ v = undef)
def hp0 : Hp := fun _ => none
def AStep (P : Program) (n : Nat) (ops : Array Oper) (o : Oper) (r : Env) (m : Hp) (K : Env → Hp → Prop) : Prop :=
  (∀ n a, Fr n r a → Region.wanted o (yielded ops a.tmps) = true) ∧ ∃ F, Ex P o r m F ∧ ∀ v m', F v m' → K (r.put n o.dst v) m'
def AOrd (P : Program) (n : Nat) (ops : Array Oper) (mu : List Nat) (K : Env → Hp → Prop) : Ord → Env → Hp → Prop
  | .fin, r, m => K r m
  | .q i x, r, m => ∃ o, ops[i]? = some o ∧ ∃ v, GRig P ops o r m v ∧ AOrd P n ops mu K x (r.put n o.dst v) m
  | .p i x, r, m => ∃ o, ops[i]? = some o ∧ ∃ v, GRig P ops o r hp0 v ∧ (∀ n a w, Fr n r a → Region.wanted o (yielded ops a.tmps) = true → o.quietAt P a (fun w' => Bel w.heap.size w w') w v) ∧ AOrd P n ops mu K x (r.put n o.dst v) m
  | .s i x, r, m => ∃ o, ops[i]? = some o ∧ AStep P n ops o r m (fun r' m' => (mu.contains i = false → HpLe m m') ∧ AOrd P n ops mu K x r' m')
  | .b i x j y, r, m => (∃ o, ops[i]? = some o ∧ AStep P n ops o r m (fun r' m' => (mu.contains i = false → HpLe m m') ∧ AOrd P n ops mu K x r' m')) ∧
      (∃ o, ops[j]? = some o ∧ AStep P n ops o r m (fun r' m' => (mu.contains j = false → HpLe m m') ∧ AOrd P n ops mu K y r' m'))
section
variable {P : Program} {n : Nat} {ops : Array Oper} {mu : List Nat} {K : Env → Hp → Prop} {sg : World}
theorem mStep_of {i : Nat} {o : Oper} {r : Env} {m : Hp} {a : Act} {K' : Act → Hp → Prop} {K : Env → Hp → Prop} (hi : ops[i]? = some o) (hf : Fr n r a)
    (h : AStep P n ops o r m (fun r' m' => (mu.contains i = false → HpLe m m') ∧ K r' m')) (hk : ∀ r' a' m', Fr n r' a' → K r' m' → K' a' m') : mStep P ops mu sg i K' a m := by
  obtain ⟨hw, F, hE, hF⟩ := h
  unfold mStep
  simp only [hi, hw n a hf, if_true]
  exact fun w hs => wp_mono2 (hE n sg a w hf hs) (fun a' w' ⟨v, m', ha, hs', hv⟩ => ⟨m', (hF v m' hv).1, hs', hk _ _ _ (ha ▸ hf.put o.dst v) (hF v m' hv).2⟩) (fun _ _ _ q => q)
theorem aord_sound (hsel : ∀ (j : Nat) (o : Oper) cs b, ops[j]? = some o → o.op ≠ .select cs b) : ∀ (x : Ord) (f : Nat) (l : Array Bool) (r : Env) (a : Act) (m : Hp), Dc ops l → okB ops mu f x l = true → AOrd P n ops mu K x r m → Fr n r a →
    wpAnyM P ops mu sg (fun a m => ∃ r, Fr n r a ∧ K r m) f l a m
  | .fin, 0, l, r, a, m, _, hB, h, hf => ⟨by simpa [okB] using hB, r, hf, h⟩
  | .fin, f + 1, l, r, a, m, _, hB, h, hf => by
    have he : Region.ready .any ops l = [] := by simpa [okB] using hB
    exact ⟨fun _ => ⟨r, hf, h⟩, fun i hi => by rw [he] at hi; cases hi⟩
  | .q i x, f + 1, l, r, a, m, hdc, hB, ⟨o, ho, v, hg, hk⟩, hf => by
    simp only [okB, Bool.and_eq_true, List.all_eq_true, Bool.or_eq_true] at hB
    obtain ⟨⟨⟨hr, hfr⟩, hmu⟩, hB'⟩ := hB
    have hy : YieldsW P ops o v a (Wd false sg m) := by
      rcases hg with ⟨h1, h2⟩ | ⟨h1, h2⟩
      · exact .inl ⟨h1 n a hf, fun w hw => h2 n sg a w hf (hw.resolve_left (by simp))⟩
      · exact .inr ⟨h1 n a hf, h2⟩
    refine firstM ho hsel f l a m hdc (.inr fun j hj => ?_) (Region.free_spec ho hfr) (List.contains_iff_mem.1 hr) hy (aord_sound hsel x f _ _ _ m (hdc.set (List.contains_iff_mem.1 hr)) hB' hk (hf.put o.dst v))
    rcases hmu j hj with e | e | e
    · exact .inl (Nat.eq_of_beq_eq_true e)
    · exact .inr (.inl e)
    · exact .inr (.inr ⟨_, e⟩)
  | .p i x, f + 1, l, r, a, m, hdc, hB, ⟨o, ho, v, hg, hp, hk⟩, hf => by
    simp only [okB, Bool.and_eq_true] at hB
    obtain ⟨⟨hr, hfr⟩, hB'⟩ := hB
    have hy : YieldsW P ops o v a (Wd true sg m) := by
      rcases hg with ⟨h1, h2⟩ | ⟨h1, h2⟩
      · exact .inl ⟨h1 n a hf, fun w _ => hp n a w hf (h1 n a hf)⟩
      · exact .inr ⟨h1 n a hf, h2⟩
    exact firstM ho hsel f l a m hdc (.inl rfl) (Region.free_spec ho hfr) (List.contains_iff_mem.1 hr) hy (aord_sound hsel x f _ _ _ m (hdc.set (List.contains_iff_mem.1 hr)) hB' hk (hf.put o.dst v))
  | .s i x, f + 1, l, r, a, m, hdc, hB, ⟨o, ho, hk⟩, hf => by
    simp only [okB, Bool.and_eq_true, beq_iff_eq] at hB
    obtain ⟨hr, hB'⟩ := hB
    refine ⟨fun h => (by rw [h] at hr; cases hr), fun j hj => ?_⟩
    rw [hr] at hj
    obtain rfl : j = i := by simpa using hj
    exact mStep_of ho hf hk fun r' a' m' hf' hA => aord_sound hsel x f _ r' a' m' (hdc.set (by rw [hr]; simp)) hB' hA hf'
  | .b i x j y, f + 1, l, r, a, m, hdc, hB, ⟨⟨o, ho, hk⟩, ⟨o2, ho2, hk2⟩⟩, hf => by
    simp only [okB, Bool.and_eq_true, beq_iff_eq] at hB
    obtain ⟨⟨hr, hB'⟩, hB2⟩ := hB
    refine ⟨fun h => (by rw [h] at hr; cases hr), fun z hz => ?_⟩
    rw [hr] at hz
    have hz' : z = i ∨ z = j := by simpa using hz
    rcases hz' with rfl | rfl
    · exact mStep_of ho hf hk fun r' a' m' hf' hA => aord_sound hsel x f _ r' a' m' (hdc.set (by rw [hr]; simp)) hB' hA hf'
    · exact mStep_of ho2 hf hk2 fun r' a' m' hf' hA => aord_sound hsel y f _ r' a' m' (hdc.set (by rw [hr]; simp)) hB2 hA hf'
  | .q .., 0, _, _, _, _, _, hB, _, _ => by simp [okB] at hB
  | .p .., 0, _, _, _, _, _, hB, _, _ => by simp [okB] at hB
  | .s .., 0, _, _, _, _, _, hB, _, _ => by simp [okB] at hB
  | .b .., 0, _, _, _, _, _, hB, _, _ => by simp [okB] at hB
/-- All that is asked of a region's text and of an order, by one Bool. -/
def drawB (ops : Array Oper) (mu : List Nat) (x : Ord) : Bool := Region.noSelect ops && okB ops mu ops.size x (Array.replicate ops.size false)
theorem awp_draw {id : Nat} {l : List Oper} {Q : Post} {r : Env} {m : Hp} (x : Ord) (mu : List Nat) (hm : P.follows .mixedOrders = true) (hB : drawB l.toArray mu x = true) (h : AOrd P n l.toArray mu (Q .normal) x r m) : AWp P n (.region id l.toArray true) Q r m := fun sg a w hf hw => by
  simp only [drawB, Bool.and_eq_true] at hB
  refine wp_region_any hm (wpAny_of_M (sg := sg) (mu := mu) (Q := fun a m => ∃ r, Fr n r a ∧ Q .normal r m) (fun a m w hs ⟨r, hr, hq⟩ => ⟨r, m, hr, hs, hq⟩) _ _ a m _ (hw.drawn _ (.add _ _)) ?_)
  exact aord_sound (Region.noSelect_spec hB.1) x _ _ r a m (fun j oj _ hl => by rw [show (Array.replicate l.toArray.size false).getD j false = false by rcases Nat.lt_or_ge j l.toArray.size with h | h <;> simp_all] at hl; cases hl) hB.2 h hf
/-! ### The steps along an order -/
variable {r : Env} {m : Hp} {o : Oper} {x : Ord} {i : Nat}
theorem wn_none (hg : o.guard = none) : ∀ (n : Nat) (a : Act), Fr n r a → Region.wanted o (yielded ops a.tmps) = true := fun _ _ _ => wanted_none hg
theorem wn_on {j : Nat} {b : Bool} {t : Tmp} (hg : o.guard = some (j, b)) (hd : (ops[j]?).bind (·.dst) = some t) (hv : r.get t = some (.bool b)) : ∀ (n : Nat) (a : Act), Fr n r a → Region.wanted o (yielded ops a.tmps) = true := fun n a hf => by
  rw [wanted_some hg hd hf hv]; simp
theorem wn_off {j : Nat} {b u : Bool} {t : Tmp} (hg : o.guard = some (j, b)) (hd : (ops[j]?).bind (·.dst) = some t) (hv : r.get t = some (.bool u)) (hn : (u == b) = false) : ∀ (n : Nat) (a : Act), Fr n r a → Region.wanted o (yielded ops a.tmps) = false := fun n a hf => by
  rw [wanted_some hg hd hf hv, hn]
theorem od_fin (h : K r m) : AOrd P n ops mu K .fin r m := h
theorem od_q {v : Value} (hi : ops[i]? = some o) (hg : o.guard = none) (h : Rig P o r m v) (k : AOrd P n ops mu K x (r.put n o.dst v) m) : AOrd P n ops mu K (.q i x) r m :=
  ⟨o, hi, v, .inl ⟨wn_none hg, h⟩, k⟩
theorem od_qon {v : Value} {j : Nat} {b : Bool} {t : Tmp} (hi : ops[i]? = some o) (hg : o.guard = some (j, b)) (hd : (ops[j]?).bind (·.dst) = some t) (hv : r.get t = some (.bool b)) (h : Rig P o r m v) (k : AOrd P n ops mu K x (r.put n o.dst v) m) : AOrd P n ops mu K (.q i x) r m :=
  ⟨o, hi, v, .inl ⟨wn_on hg hd hv, h⟩, k⟩
theorem od_off {j : Nat} {b u : Bool} {t : Tmp} (hi : ops[i]? = some o) (hg : o.guard = some (j, b)) (hd : (ops[j]?).bind (·.dst) = some t) (hv : r.get t = some (.bool u)) (hn : (u == b) = false) (k : AOrd P n ops mu K x (r.put n o.dst undef) m) : AOrd P n ops mu K (.q i x) r m :=
  ⟨o, hi, undef, .inr ⟨wn_off hg hd hv hn, rfl⟩, k⟩
/-- A pure step: what it asks holds in every world. -/
theorem od_p {v : Value} (hi : ops[i]? = some o) (hg : o.guard = none) (h : Rig P o r hp0 v) (k : AOrd P n ops mu K x (r.put n o.dst v) m) : AOrd P n ops mu K (.p i x) r m :=
  ⟨o, hi, v, .inl ⟨wn_none hg, h⟩, fun n a w hf _ => h n w a w hf ⟨rfl, rfl, rfl, .refl _, fun _ _ e => by cases e⟩, k⟩
theorem od_s {F : Value → Hp → Prop} (hi : ops[i]? = some o) (hg : o.guard = none) (h : Ex P o r m F) (k : ∀ v m', F v m' → (mu.contains i = false → HpLe m m') ∧ AOrd P n ops mu K x (r.put n o.dst v) m') : AOrd P n ops mu K (.s i x) r m :=
  ⟨o, hi, wn_none hg, F, h, k⟩
theorem od_son {F : Value → Hp → Prop} {j : Nat} {b : Bool} {t : Tmp} (hi : ops[i]? = some o) (hg : o.guard = some (j, b)) (hd : (ops[j]?).bind (·.dst) = some t) (hv : r.get t = some (.bool b)) (h : Ex P o r m F) (k : ∀ v m', F v m' → (mu.contains i = false → HpLe m m') ∧ AOrd P n ops mu K x (r.put n o.dst v) m') : AOrd P n ops mu K (.s i x) r m :=
  ⟨o, hi, wn_on hg hd hv, F, h, k⟩
theorem od_b {j : Nat} {y : Ord} (h1 : AOrd P n ops mu K (.s i x) r m) (h2 : AOrd P n ops mu K (.s j y) r m) : AOrd P n ops mu K (.b i x j y) r m := ⟨h1, h2⟩
section
variable {d : Tmp} {op : Op} {ty : TypeId} {pos : String} {af : Array Edge}
theorem oq {v : Value} (hi : ops[i]? = some { dst := some d, op, type := ty, pos, after := af, guard := none }) (h : Rig P { dst := some d, op, type := ty, pos, after := af, guard := none } r m v) (hd : Nat.blt d n = true) (k : AOrd P n ops mu K x ((d, v) :: r) m) : AOrd P n ops mu K (.q i x) r m :=
  od_q hi rfl h (by rw [put_lt hd]; exact k)
theorem oqon {v : Value} {j : Nat} {b : Bool} {t : Tmp} (hi : ops[i]? = some { dst := some d, op, type := ty, pos, after := af, guard := some (j, b) }) (hj : (ops[j]?).bind (·.dst) = some t) (hv : r.get t = some (.bool b)) (h : Rig P { dst := some d, op, type := ty, pos, after := af, guard := some (j, b) } r m v) (hd : Nat.blt d n = true) (k : AOrd P n ops mu K x ((d, v) :: r) m) : AOrd P n ops mu K (.q i x) r m :=
  od_qon hi rfl hj hv h (by rw [put_lt hd]; exact k)
theorem oqno {j : Nat} {b u : Bool} {t : Tmp} (hi : ops[i]? = some { dst := some d, op, type := ty, pos, after := af, guard := some (j, b) }) (hj : (ops[j]?).bind (·.dst) = some t) (hv : r.get t = some (.bool u)) (hn : (u == b) = false) (hd : Nat.blt d n = true) (k : AOrd P n ops mu K x ((d, undef) :: r) m) : AOrd P n ops mu K (.q i x) r m :=
  od_off hi rfl hj hv hn (by rw [put_lt hd]; exact k)
theorem opu {v : Value} (hi : ops[i]? = some { dst := some d, op, type := ty, pos, after := af, guard := none }) (h : Rig P { dst := some d, op, type := ty, pos, after := af, guard := none } r hp0 v) (hd : Nat.blt d n = true) (k : AOrd P n ops mu K x ((d, v) :: r) m) : AOrd P n ops mu K (.p i x) r m :=
  od_p hi rfl h (by rw [put_lt hd]; exact k)
theorem os {F : Value → Hp → Prop} (hi : ops[i]? = some { dst := some d, op, type := ty, pos, after := af, guard := none }) (h : Ex P { dst := some d, op, type := ty, pos, after := af, guard := none } r m F) (hd : Nat.blt d n = true) (k : ∀ v m', F v m' → (mu.contains i = false → HpLe m m') ∧ AOrd P n ops mu K x ((d, v) :: r) m') : AOrd P n ops mu K (.s i x) r m :=
  od_s hi rfl h fun v m' hF => by rw [put_lt hd]; exact k v m' hF
theorem os0 {F : Value → Hp → Prop} (hi : ops[i]? = some { dst := none, op, type := ty, pos, after := af, guard := none }) (h : Ex P { dst := none, op, type := ty, pos, after := af, guard := none } r m F) (k : ∀ v m', F v m' → (mu.contains i = false → HpLe m m') ∧ AOrd P n ops mu K x r m') : AOrd P n ops mu K (.s i x) r m :=
  od_s hi rfl h k
end
end
end Go.As
/- Contracts of functions, the way into a function, and the rules of the single operations that leave the heap as it is. -/
set_option linter.unusedVariables false
set_option linter.unusedSimpArgs false
namespace Go.As
open Go Go.RowKit

/-! ### 1. Contracts -/
def RC (P : Program) (f : FuncId) (args : Array Value) (m : Hp) (v : Value) : Prop :=
  ∀ sg w, Sat sg w m → Calls P f args w fun e w' => e = .returned v ∧ Bel w.heap.size w w'
def GC (P : Program) (f : FuncId) (args : Array Value) (m : Hp) (R : Value → Hp → Prop) : Prop :=
  ∀ sg w, Sat sg w m → Calls P f args w fun e w' => ∃ v m', e = .returned v ∧ Sat sg w' m' ∧ R v m'
section
variable {P : Program} {f : FuncId} {args : Array Value} {m : Hp}
theorem below_of_all {w w' : World} {m' : Hp} (h : HpLe (all w) m') (s : Sat w w' m') : Bel w.heap.size w w' :=
  ⟨⟨s.os, s.tape, s.out, by
    rcases Nat.eq_zero_or_pos w.heap.size with h0 | h0
    · omega
    · have hk : w.heap.size - 1 < w.heap.size := by omega
      have h1 := s.h (w.heap.size - 1) _ (h _ _ (show all w (w.heap.size - 1) = some (w.heap[w.heap.size - 1]) by simp [all, hk]))
      have := (Array.getElem?_eq_some_iff.1 h1).1
      omega, fun k hk => by
    rw [s.h k _ (h _ _ (show all w k = some (w.heap[k]) by simp [all, hk]))]
    simp [hk]⟩, s.dr⟩
theorem rc_of_gc {v : Value} (h : ∀ m', HpLe m m' → GC P f args m' (fun u m'' => u = v ∧ HpLe m' m'')) : RC P f args m v := fun sg w hs =>
  (h (all w) hs.h w w (sat_all w)).mono fun e w' ⟨u, m'', he, hs', hu, hl⟩ => ⟨hu ▸ he, below_of_all hl hs'⟩
theorem RC.gc {v : Value} (h : RC P f args m v) : GC P f args m (fun u m' => u = v ∧ m' = m) := fun sg w hs =>
  (h sg w hs).mono fun e w' ⟨he, hb⟩ => ⟨v, m, he, hs.below hb, rfl, rfl⟩
theorem GC.mono {R R' : Value → Hp → Prop} (h : GC P f args m R) (hr : ∀ v m', R v m' → R' v m') : GC P f args m R' := fun sg w hs =>
  (h sg w hs).mono fun e w' ⟨u, m'', he, hs', hu⟩ => ⟨u, m'', he, hs', hr _ _ hu⟩
theorem RC.le {v : Value} {m' : Hp} (h : RC P f args m v) (hl : HpLe m m') : RC P f args m' v := fun sg w hs => h sg w (hs.mono hl)
end

/-! ### 2. Into a function, and out of it -/
def argEnv : Nat → List Value → Env
  | _, [] => []
  | i, v :: vs => (i, v) :: argEnv (i + 1) vs
theorem argEnv_get : ∀ (vs : List Value) (i t : Nat) (v : Value), (argEnv i vs).get t = some v → i ≤ t ∧ vs[t - i]? = some v
  | [], i, t, v, h => by simp [argEnv, Env.get] at h
  | u :: vs, i, t, v, h => by
    simp only [argEnv, Env.get_cons] at h
    by_cases hk : Nat.beq i t = true
    · rw [hk, cond_true, Option.some.injEq] at h
      have := Nat.eq_of_beq_eq_true hk
      subst this
      simp [h]
    · rw [Bool.not_eq_true] at hk
      rw [hk, cond_false] at h
      obtain ⟨h1, h2⟩ := argEnv_get vs (i + 1) t v h
      refine ⟨by omega, ?_⟩
      rw [show t - i = (t - (i + 1)) + 1 by omega]
      simpa using h2
/-- The results, as the frame has them. -/
def Res (P : Program) (fn : Func) (r : Env) (m : Hp) (v : Value) : Prop := ∀ n sg a w, Fr n r a → Sat sg w m → (results fn a.tmps).run P w = .ok v w
def qbody (P : Program) (fn : Func) (R : Value → Hp → Prop) : Post
  | .normal => fun r m => ∃ v, Res P fn r m v ∧ R v m
  | .ret => fun r m => ∃ v, Res P fn r m v ∧ R v m
  | _ => fun _ _ => False
section
variable {P : Program} {f : FuncId} {fn : Func} {m : Hp} {r : Env} {R : Value → Hp → Prop}
theorem gc_intro {n : Nat} {c : Code} {vs : List Value} (hf : P.funcs[f]? = some fn) (hb : fn.body = some c) (hn : fn.ntmps = n) (hl : vs.length ≤ n) (h : AWp P n c (qbody P fn R) (argEnv 0 vs) m) : GC P f vs.toArray m R := fun sg w hs => by
  refine calls_of_wp hf hb (wp_mono (h sg _ w ?_ hs) fun e a w' q => ?_)
  · refine ⟨by simp [hn]; omega, rfl, fun t v e => ?_⟩
    obtain ⟨_, h2⟩ := argEnv_get vs 0 t v e
    have hlt := (List.getElem?_eq_some_iff.1 h2).1
    simp only [Nat.sub_zero] at h2 hlt
    simp [Array.getElem?_append, hlt]
    simpa [hlt] using h2
  · cases e with
    | normal => obtain ⟨r', m', hf', hs', v, hv, hR⟩ := q; exact ⟨hf'.defers, v, hv n sg a w' hf' hs', v, m', rfl, hs', hR⟩
    | ret => obtain ⟨r', m', hf', hs', v, hv, hR⟩ := q; exact ⟨hf'.defers, v, hv n sg a w' hf' hs', v, m', rfl, hs', hR⟩
    | exit i => obtain ⟨r', m', hf', hs', hR⟩ := q; exact hR.elim
    | goto l => exact q.elim
    | panic c => exact q.elim
    | outgrown => exact q.elim
theorem getD_rep {n : Nat} {a : Act} {t : Tmp} {v : Value} (hf : Fr n r a) (h : r.get t = some v) : a.tmps.getD t undef = v := by simp [hf.rep t v h]
theorem res0 (hr : fn.results = #[]) : Res P fn r m (.tuple #[]) := fun n sg a w hf hs => by simp [results, hr, go_sem]
theorem res1 {t : Tmp} {v : Value} (hr : fn.results = #[.tmp t]) (h : r.get t = some v) : Res P fn r m v := fun n sg a w hf hs => by simp [results, hr, go_sem, hf.rep t v h]
theorem res2 {t t2 : Tmp} {v v2 : Value} (hr : fn.results = #[.tmp t, .tmp t2]) (h : r.get t = some v) (h2 : r.get t2 = some v2) : Res P fn r m (.tuple #[v, v2]) := fun n sg a w hf hs => by
  simp [results, hr, go_sem, hf.rep t v h, hf.rep t2 v2 h2]
theorem res3 {t t2 t3 : Tmp} {v v2 v3 : Value} (hr : fn.results = #[.tmp t, .tmp t2, .tmp t3]) (h : r.get t = some v) (h2 : r.get t2 = some v2) (h3 : r.get t3 = some v3) : Res P fn r m (.tuple #[v, v2, v3]) := fun n sg a w hf hs => by
  simp [results, hr, go_sem, hf.rep t v h, hf.rep t2 v2 h2, hf.rep t3 v3 h3]
end

/-! ### 3. Operations that leave the heap as it is -/
theorem wrap64_i (x : Int) (h1 : -9223372036854775808 ≤ x) (h2 : x ≤ 9223372036854775807) : IntKind.i64.wrap x = x := by
  have := IntWalk.i64_in x ⟨h1, h2⟩
  exact this
section
variable {P : Program} {r : Env} {m : Hp} {o : Oper}
theorem rig_val {v : Value} (h : ∀ n sg a w, Fr n r a → Sat sg w m → (execOp a.eval o).run P w = .ok (.value v) w) : Rig P o r m v := fun n sg a w hf hs => by
  unfold Oper.quietAt
  rw [h n sg a w hf hs]
  exact ⟨rfl, rfl⟩
theorem rig_move {x : Operand} {v : Value} (h : o.op = .move x) (e : ev r x = some v) : Rig P o r m v := rig_val fun n sg a w hf hs => by simp [execOp, h, hf.eval e]
theorem rig_assign {x : Operand} {v : Value} (h : o.op = .assign x) (e : ev r x = some v) : Rig P o r m v := rig_val fun n sg a w hf hs => by simp [execOp, h, hf.eval e]
theorem rig_pick {c x y : Operand} {b : Bool} {u : Value} (h : o.op = .pick c x y) (ec : ev r c = some (.bool b)) (ex : b = true → ev r x = some u) (ey : b = false → ev r y = some u) : Rig P o r m u := rig_val fun n sg a w hf hs => by
  cases b
  · simp [execOp, h, hf.eval ec, asBool, hf.eval (ey rfl)]
  · simp [execOp, h, hf.eval ec, asBool, hf.eval (ex rfl)]
theorem rig_pickT {c x y : Operand} {u : Value} (h : o.op = .pick c x y) (ec : ev r c = some (.bool true)) (ex : ev r x = some u) : Rig P o r m u := rig_pick h ec (fun _ => ex) (fun h => by cases h)
theorem rig_pickF {c x y : Operand} {u : Value} (h : o.op = .pick c x y) (ec : ev r c = some (.bool false)) (ey : ev r y = some u) : Rig P o r m u := rig_pick h ec (fun h => by cases h) (fun _ => ey)
theorem rig_not {T : TypeId} {x : Operand} {b : Bool} (h : o.op = .unOp .not T x) (e : ev r x = some (.bool b)) : Rig P o r m (.bool (!b)) := rig_val fun n sg a w hf hs => by simp [execOp, h, hf.eval e, Op.unary]
theorem rig_neg {T : TypeId} {x : Operand} {k : IntKind} {z c : Int} (h : o.op = .unOp .neg T x) (e : ev r x = some (.int k z)) (hc : k.wrap (0 - z) = c) : Rig P o r m (.int k c) := rig_val fun n sg a w hf hs => by simp [execOp, h, hf.eval e, Op.unary, Op.intArith, ← hc]
theorem rig_extract {x : Operand} {vs : Array Value} {i : Nat} {v : Value} (h : o.op = .extract x i) (e : ev r x = some (.tuple vs)) (hi : vs[i]? = some v) : Rig P o r m v := rig_val fun n sg a w hf hs => by simp [execOp, h, hf.eval e, Instr.extract, hi]
section
variable {T T' : TypeId} {x y : Operand} {k : IntKind} {z u c : Int}
theorem rig_add (h : o.op = .binOp .add T x y T') (ex : ev r x = some (.int k z)) (ey : ev r y = some (.int k u)) (hc : k.wrap (z + u) = c) : Rig P o r m (.int k c) := rig_val fun n sg a w hf hs => by simp only [execOp, h, hf.eval ex, hf.eval ey]; simp [eqGuard_at_int, binOp, Op.intArith, ← hc]
theorem rig_sub (h : o.op = .binOp .sub T x y T') (ex : ev r x = some (.int k z)) (ey : ev r y = some (.int k u)) (hc : k.wrap (z - u) = c) : Rig P o r m (.int k c) := rig_val fun n sg a w hf hs => by simp only [execOp, h, hf.eval ex, hf.eval ey]; simp [eqGuard_at_int, binOp, Op.intArith, ← hc]
theorem rig_mul (h : o.op = .binOp .mul T x y T') (ex : ev r x = some (.int k z)) (ey : ev r y = some (.int k u)) (hc : k.wrap (z * u) = c) : Rig P o r m (.int k c) := rig_val fun n sg a w hf hs => by simp only [execOp, h, hf.eval ex, hf.eval ey]; simp [eqGuard_at_int, binOp, Op.intArith, ← hc]
theorem rig_rem (h : o.op = .binOp .rem T x y T') (ex : ev r x = some (.int k z)) (ey : ev r y = some (.int k u)) (h0 : u ≠ 0) (hc : z.tmod u = c) : Rig P o r m (.int k c) := rig_val fun n sg a w hf hs => by simp [execOp, h, hf.eval ex, hf.eval ey, binOp, eqGuard_at_int, Op.intDiv, h0, ← hc]
theorem rig_quo (h : o.op = .binOp .quo T x y T') (ex : ev r x = some (.int k z)) (ey : ev r y = some (.int k u)) (h0 : u ≠ 0) (hc : k.wrap (z.tdiv u) = c) : Rig P o r m (.int k c) := rig_val fun n sg a w hf hs => by simp [execOp, h, hf.eval ex, hf.eval ey, binOp, eqGuard_at_int, Op.intDiv, h0, ← hc]
theorem rig_lss (h : o.op = .binOp .lss T x y T') (ex : ev r x = some (.int k z)) (ey : ev r y = some (.int k u)) : Rig P o r m (.bool (decide (z < u))) := rig_val fun n sg a w hf hs => by simp only [execOp, h, hf.eval ex, hf.eval ey]; simp [eqGuard_at_int, binOp, Op.intCmp]
theorem rig_leq (h : o.op = .binOp .leq T x y T') (ex : ev r x = some (.int k z)) (ey : ev r y = some (.int k u)) : Rig P o r m (.bool (decide (z ≤ u))) := rig_val fun n sg a w hf hs => by simp only [execOp, h, hf.eval ex, hf.eval ey]; simp [eqGuard_at_int, binOp, Op.intCmp]
theorem rig_gtr (h : o.op = .binOp .gtr T x y T') (ex : ev r x = some (.int k z)) (ey : ev r y = some (.int k u)) : Rig P o r m (.bool (decide (u < z))) := rig_val fun n sg a w hf hs => by simp only [execOp, h, hf.eval ex, hf.eval ey]; simp [eqGuard_at_int, binOp, Op.intCmp]
theorem rig_geq (h : o.op = .binOp .geq T x y T') (ex : ev r x = some (.int k z)) (ey : ev r y = some (.int k u)) : Rig P o r m (.bool (decide (u ≤ z))) := rig_val fun n sg a w hf hs => by simp only [execOp, h, hf.eval ex, hf.eval ey]; simp [eqGuard_at_int, binOp, Op.intCmp]
theorem rig_eql (h : o.op = .binOp .eql T x y T') (ex : ev r x = some (.int k z)) (ey : ev r y = some (.int k u)) : Rig P o r m (.bool (decide (z = u))) := rig_val fun n sg a w hf hs => by simp only [execOp, h, hf.eval ex, hf.eval ey]; simp [eqGuard_at_int, binOp, Op.intCmp]; try rfl
theorem rig_neq (h : o.op = .binOp .neq T x y T') (ex : ev r x = some (.int k z)) (ey : ev r y = some (.int k u)) : Rig P o r m (.bool (!decide (z = u))) := rig_val fun n sg a w hf hs => by simp only [execOp, h, hf.eval ex, hf.eval ey]; simp [eqGuard_at_int, binOp, Op.intCmp]; try rfl
end
section
variable {T T' : TypeId} {x y : Operand} {s t : ByteArray}
theorem bytes_toList (s : ByteArray) : s.toList = s.data.toList := ByteArray.toList_eq s
theorem rig_seql (h : o.op = .binOp .eql T x y T') (ex : ev r x = some (.string s)) (ey : ev r y = some (.string t)) : Rig P o r m (.bool (decide (s = t))) := rig_val fun n sg a w hf hs => by
  have : (s.toList == t.toList) = decide (s = t) := by
    rw [Bool.eq_iff_iff]
    simp only [beq_iff_eq, decide_eq_true_eq, bytes_toList]
    exact ⟨fun h => by cases s; cases t; simpa [ByteArray.ext_iff, Array.toList_inj] using h, fun h => by rw [h]⟩
  simp only [execOp, h, hf.eval ex, hf.eval ey]
  simp [eqGuard_at_string, binOp, Op.stringOp, this]
theorem rig_sneq (h : o.op = .binOp .neq T x y T') (ex : ev r x = some (.string s)) (ey : ev r y = some (.string t)) : Rig P o r m (.bool (!decide (s = t))) := rig_val fun n sg a w hf hs => by
  have : (s.toList == t.toList) = decide (s = t) := by
    rw [Bool.eq_iff_iff]
    simp only [beq_iff_eq, decide_eq_true_eq, bytes_toList]
    exact ⟨fun h => by cases s; cases t; simpa [ByteArray.ext_iff, Array.toList_inj] using h, fun h => by rw [h]⟩
  simp only [execOp, h, hf.eval ex, hf.eval ey]
  simp [eqGuard_at_string, binOp, Op.stringOp, this]
theorem rig_slss (h : o.op = .binOp .lss T x y T') (ex : ev r x = some (.string s)) (ey : ev r y = some (.string t)) : Rig P o r m (.bool (Op.bytesLess s.toList t.toList)) := rig_val fun n sg a w hf hs => by
  simp [execOp, h, hf.eval ex, hf.eval ey, eqGuard_at_string, binOp, Op.stringOp]
theorem rig_sadd (h : o.op = .binOp .add T x y T') (ex : ev r x = some (.string s)) (ey : ev r y = some (.string t)) (hl : s.size + t.size ≤ 9223372036854775807) : Rig P o r m (.string (s ++ t)) := rig_val fun n sg a w hf hs => by
  have : ¬ ((9223372036854775807 : Int) < ((s.size : Int) + (t.size : Int))) := by omega
  simp [execOp, h, hf.eval ex, hf.eval ey, eqGuard_at_string, binOp, Op.stringOp, this]
theorem rig_beql {b c : Bool} (h : o.op = .binOp .eql T x y T') (hT : P.underlying T = some .bool) (ex : ev r x = some (.bool b)) (ey : ev r y = some (.bool c)) : Rig P o r m (.bool (decide (b = c))) := rig_val fun n sg a w hf hs => by
  simp only [execOp, h, hf.eval ex, hf.eval ey]
  simp only [eqGuard_at_bool, Sem.run_bind, Sem.run_pure, Result.andThen_ok, run_eql_bool w T b c hT]
  cases b <;> cases c <;> rfl
theorem rig_bneq {b c : Bool} (h : o.op = .binOp .neq T x y T') (hT : P.underlying T = some .bool) (ex : ev r x = some (.bool b)) (ey : ev r y = some (.bool c)) : Rig P o r m (.bool (!decide (b = c))) := rig_val fun n sg a w hf hs => by
  simp only [execOp, h, hf.eval ex, hf.eval ey]
  simp only [eqGuard_at_bool, Sem.run_bind, Sem.run_pure, Result.andThen_ok, run_neq_bool w T b c hT]
  cases b <;> cases c <;> rfl
end
end
end Go.As
/- Memory: cells of a partial heap, lists of disjoint pieces, and the operations that read, write and make memory. -/
set_option linter.unusedVariables false
set_option linter.unusedSimpArgs false
namespace Go.As
open Go Go.RowKit

/-! ### 1. Cells -/
def cell (m : Hp) (b o : Nat) : Option Value := match m b with
  | some (.cells c _ _) => c[o]?
  | _ => none
/-- A list of cells, one behind the other. -/
def CellsAt (m : Hp) (b : Nat) : Nat → List Value → Prop
  | _, [] => True
  | o, v :: vs => cell m b o = some v ∧ CellsAt m b (o + 1) vs
theorem cell_le {m m' : Hp} (h : HpLe m m') {b o : Nat} {v : Value} (hc : cell m b o = some v) : cell m' b o = some v := by
  unfold cell at *
  cases hb : m b with
  | none => simp [hb] at hc
  | some ob => rw [h b ob hb]; rw [hb] at hc; exact hc
theorem CellsAt.le {m m' : Hp} (h : HpLe m m') {b : Nat} : ∀ {o : Nat} {vs : List Value}, CellsAt m b o vs → CellsAt m' b o vs
  | _, [], _ => trivial
  | _, _ :: _, ⟨h1, h2⟩ => ⟨cell_le h h1, h2.le h⟩
theorem CellsAt.get {m : Hp} {b : Nat} : ∀ {o : Nat} {vs : List Value}, CellsAt m b o vs → ∀ j v, vs[j]? = some v → cell m b (o + j) = some v
  | _, [], _, j, v, h => by simp at h
  | o, u :: vs, ⟨h1, h2⟩, j, v, h => by
    cases j with
    | zero => simp at h; rw [← h]; exact h1
    | succ j => have := h2.get j v (by simpa using h); rwa [show o + 1 + j = o + (j + 1) by omega] at this
theorem CellsAt.of_get {m : Hp} {b : Nat} : ∀ {o : Nat} {vs : List Value}, (∀ j v, vs[j]? = some v → cell m b (o + j) = some v) → CellsAt m b o vs
  | _, [], _ => trivial
  | o, u :: vs, h => ⟨h 0 u rfl, CellsAt.of_get fun j v hj => by have := h (j + 1) v (by simpa using hj); rwa [show o + (j + 1) = o + 1 + j by omega] at this⟩
theorem Sat.cell {sg w : World} {m : Hp} (s : Sat sg w m) {b o : Nat} {v : Value} (h : cell m b o = some v) : w.cell? ⟨b, o, none⟩ = some v := by
  unfold As.cell at h
  cases hb : m b with
  | none => simp [hb] at h
  | some ob =>
    rw [hb] at h
    cases ob <;> simp at h
    rename_i c e fz
    simp [World.cell?, s.h b _ hb, h]
def upd (m : Hp) (b : Nat) (o : Obj) : Hp := fun k => if k = b then some o else m k
theorem Sat.alloc {sg w : World} {m : Hp} (s : Sat sg w m) (o : Obj) : Sat sg (w.alloc o) (upd m w.heap.size o) :=
  ⟨s.os, s.tape, s.out, s.dr, fun k o' h => by
    unfold upd at h
    by_cases hk : k = w.heap.size
    · subst hk; rw [if_pos rfl] at h; cases h; exact heap_alloc_new w o
    · rw [if_neg hk] at h
      rw [heap_alloc_old w o (s.lt h)]
      exact s.h k o' h⟩
theorem Sat.fresh {sg w : World} {m : Hp} (s : Sat sg w m) : m w.heap.size = none := by
  cases h : m w.heap.size with
  | none => rfl
  | some o => exact absurd (s.lt h) (Nat.lt_irrefl _)
/-- Values put into a row, one behind the other. -/
def putR (c : Array Value) : Nat → List Value → Array Value
  | _, [] => c
  | o, v :: vs => putR (c.setIfInBounds o v) (o + 1) vs
theorem putR_size (c : Array Value) : ∀ (o : Nat) (vs : List Value), (putR c o vs).size = c.size
  | _, [] => rfl
  | o, v :: vs => by simp [putR, putR_size (c.setIfInBounds o v) (o + 1) vs]
theorem Sat.setCell {sg w : World} {m : Hp} (s : Sat sg w m) {b o : Nat} {c : Array Value} {e : TypeId} (hb : m b = some (.cells c e (0, 0))) (v : Value) : Sat sg (w.setCell ⟨b, o, none⟩ v) (upd m b (.cells (c.setIfInBounds o v) e (0, 0))) :=
  ⟨s.os, s.tape, s.out, s.dr, fun k o' h => by
    unfold upd at h
    by_cases hk : k = b
    · subst hk
      rw [if_pos rfl] at h
      cases h
      exact heap_setCell_same w k o c e v (s.h k _ hb)
    · rw [if_neg hk] at h
      rw [heap_setCell_other w ⟨b, o, none⟩ k v hk]
      exact s.h k o' h⟩
theorem upd_upd (m : Hp) (b : Nat) (o o' : Obj) : upd (upd m b o) b o' = upd m b o' := by
  funext k; unfold upd; split <;> rfl
theorem upd_same (m : Hp) (b : Nat) (o : Obj) : upd m b o b = some o := by simp [upd]
theorem run_storeCells_Sat {P : Program} {sg : World} {b : Nat} {e : TypeId} : ∀ (vs : List Value) (o i : Nat) (c : Array Value) (w : World) (m : Hp), Sat sg w m → m b = some (.cells c e (0, 0)) → o + i + vs.length ≤ c.size → (∀ v ∈ vs, v.oneCell' = true) →
    ∃ w', (storeCells ⟨b, o, none⟩ vs i).run P w = .ok () w' ∧ Sat sg w' (upd m b (.cells (putR c (o + i) vs) e (0, 0)))
  | [], o, i, c, w, m, s, hb, hl, h1 => ⟨w, by simp [storeCells], by
      have : upd m b (.cells c e (0, 0)) = m := by funext k; unfold upd; split <;> simp_all
      simpa [putR, this] using s⟩
  | v :: vs, o, i, c, w, m, s, hb, hl, h1 => by
    have hl' : o + i < c.size := by simp at hl; omega
    have hc : w.cell? ⟨b, o + i, none⟩ = some c[o + i] := s.cell (m := m) (by simp [As.cell, hb, hl'])
    have hfz : w.frozen? ⟨b, o + i, none⟩ = false := frozen_of_row w b (o + i) c e (s.h b _ hb)
    have ha : (⟨b, o, none⟩ : Addr).add i = ⟨b, o + i, none⟩ := Addr.add_lit b o i
    obtain ⟨w', hr, hs'⟩ := run_storeCells_Sat (P := P) (sg := sg) (b := b) (e := e) vs o (i + 1) (c.setIfInBounds (o + i) v) (w.setCell ⟨b, o + i, none⟩ v) _ (s.setCell hb v) (upd_same _ _ _) (by simp at hl ⊢; omega) (fun u hu => h1 u (List.mem_cons_of_mem _ hu))
    refine ⟨w', ?_, by rw [upd_upd] at hs'; simpa [putR, Nat.add_assoc] using hs'⟩
    have hv : v.oneCell' = true := h1 v (List.mem_cons_self ..)
    have hst : (store ⟨b, o + i, none⟩ v).run P w = .ok () (w.setCell ⟨b, o + i, none⟩ v) := by
      cases v <;> first | (simp [Value.oneCell'] at hv; done) | simp [store, Sem.run, hc, hfz]
    simp [storeCells, ha, hst, hr]
theorem run_loadCells_Sat {P : Program} {sg w : World} {m : Hp} (s : Sat sg w m) {b o : Nat} {vs : List Value} (h : CellsAt m b o vs) : (loadCells ⟨b, o, none⟩ vs.length).run P w = .ok vs.toArray w :=
  run_loadCells_list (P := P) w ⟨b, o, none⟩ vs fun j v hj => by
    rw [Addr.add_lit]
    exact s.cell (h.get j v hj)

/-! ### 2. Pieces -/
def U : List Hp → Hp
  | [] => hp0
  | c :: cs => fun k => (c k).or (U cs k)
def Dj : List Hp → Prop
  | [] => True
  | c :: cs => (∀ k, c k ≠ none → U cs k = none) ∧ Dj cs
def one (b : Nat) (o : Obj) : Hp := fun k => if k = b then some o else none
theorem one_self (b : Nat) (o : Obj) : one b o b = some o := by simp [one]
theorem one_ne {b k : Nat} (o : Obj) (h : k ≠ b) : one b o k = none := by simp [one, h]
theorem U_head {c : Hp} {cs : List Hp} {k : Nat} {o : Obj} (h : c k = some o) : U (c :: cs) k = some o := by simp [U, h]
theorem U_tail {c : Hp} {cs : List Hp} {k : Nat} {o : Obj} (hd : Dj (c :: cs)) (h : U cs k = some o) : U (c :: cs) k = some o := by
  have : c k = none := by
    cases hc : c k with
    | none => rfl
    | some x => have := hd.1 k (by simp [hc]); rw [this] at h; cases h
  simp [U, this, h]
theorem U_le_tail {c : Hp} {cs : List Hp} (hd : Dj (c :: cs)) : HpLe (U cs) (U (c :: cs)) := fun k o h => U_tail hd h
theorem U_le_head {c : Hp} {cs : List Hp} : HpLe c (U (c :: cs)) := fun k o h => U_head h
/-- A piece of the list is part of the whole. -/
theorem U_le_at : ∀ {cs : List Hp} {i : Nat} {c : Hp}, Dj cs → cs[i]? = some c → HpLe c (U cs)
  | [], i, c, _, h => by simp at h
  | d :: cs, 0, c, hd, h => by simp at h; subst h; exact U_le_head
  | d :: cs, i + 1, c, hd, h => (U_le_at hd.2 (by simpa using h)).trans (U_le_tail hd)
theorem U_none : ∀ {cs : List Hp} {k : Nat}, U cs k = none ↔ ∀ c ∈ cs, c k = none
  | [], k => by simp [U, hp0]
  | c :: cs, k => by simp [U, U_none (cs := cs)]
theorem Dj.cons {c : Hp} {cs : List Hp} (hd : Dj cs) (h : ∀ k, c k ≠ none → U cs k = none) : Dj (c :: cs) := ⟨h, hd⟩
theorem Dj.one {b : Nat} {o : Obj} {cs : List Hp} (hd : Dj cs) (h : U cs b = none) : Dj (As.one b o :: cs) := ⟨fun k hk => by
  by_cases e : k = b
  · rw [e]; exact h
  · exact absurd (one_ne o e) hk, hd⟩
theorem upd_new {b : Nat} {o : Obj} {cs : List Hp} : upd (U cs) b o = U (one b o :: cs) := by
  funext k
  unfold upd
  by_cases e : k = b
  · subst e; simp [U, one]
  · simp [U, one, e]
/-- A block of its own at a place of the list is changed. -/
theorem upd_at : ∀ {cs : List Hp} {i b : Nat} {o : Obj} (o' : Obj), Dj cs → cs[i]? = some (one b o) → upd (U cs) b o' = U (cs.set i (one b o')) ∧ Dj (cs.set i (one b o'))
  | [], i, b, o, o', _, h => by simp at h
  | d :: cs, 0, b, o, o', hd, h => by
    simp at h
    subst h
    constructor
    · funext k
      unfold upd
      by_cases e : k = b
      · subst e; simp [U, one]
      · simp [U, one, e]
    · exact ⟨fun k hk => hd.1 k (by
        by_cases e : k = b
        · rw [e, one_self]; simp
        · exact absurd (one_ne o' e) hk), hd.2⟩
  | d :: cs, i + 1, b, o, o', hd, h => by
    have hi : cs[i]? = some (one b o) := by simpa using h
    obtain ⟨h1, h2⟩ := upd_at (cs := cs) (i := i) (b := b) (o := o) o' hd.2 hi
    have hb : U cs b = some o := U_le_at hd.2 hi b o (one_self b o)
    have hdb : d b = none := by
      cases hq : d b with
      | none => rfl
      | some x => have := hd.1 b (by simp [hq]); rw [this] at hb; cases hb
    constructor
    · funext k
      have := congrFun h1 k
      unfold upd at this ⊢
      simp only [List.set_cons_succ, U]
      by_cases e : k = b
      · subst e; simp [hdb] at this ⊢; exact this
      · rw [if_neg e] at this ⊢; rw [← this]
    · refine ⟨fun k hk => ?_, h2⟩
      have hn := hd.1 k hk
      have := congrFun h1 k
      unfold upd at this
      have e : k ≠ b := fun e => by subst e; exact hk hdb
      rw [if_neg e] at this
      rw [← this]
      exact hn
/-- A list as one piece. -/
theorem U_single (m : Hp) : U [m] = m := by funext k; simp [U, hp0]
theorem Dj_single (m : Hp) : Dj [m] := ⟨fun k _ => rfl, trivial⟩
/-- The heap has grown: the first piece takes it up. -/
theorem grow_last : ∀ {cs : List Hp} {m m' : Hp}, Dj (cs ++ [m]) → HpLe (U (cs ++ [m])) m' → ∃ M, HpLe m M ∧ Dj (cs ++ [M]) ∧ m' = U (cs ++ [M]) := by
  intro cs m m' hd hl
  refine ⟨fun k => if U cs k = none then m' k else none, ?_, ?_, ?_⟩
  · intro k o h
    have hn : U cs k = none := by
      clear hl
      induction cs with
      | nil => rfl
      | cons c cs ih =>
        have h1 := ih hd.2
        have hU : U (cs ++ [m]) k = some o := U_le_at (i := cs.length) hd.2 (by simp) k o h
        have hc : c k = none := by
          cases hq : c k with
          | none => rfl
          | some x => have : U (cs ++ [m]) k = none := hd.1 k (by simp [hq]); rw [this] at hU; cases hU
        simp [U, hc, h1]
    show (if U cs k = none then m' k else none) = some o
    rw [if_pos hn]
    exact hl k o (U_le_at (i := cs.length) hd (by simp) k o h)
  · have key : ∀ (ds : List Hp), (∀ k, U ds k ≠ none → U cs k ≠ none) → Dj (ds ++ [m]) → Dj (ds ++ [fun k => if U cs k = none then m' k else none]) := by
      intro ds
      induction ds with
      | nil => intro _ _; exact Dj_single _
      | cons d ds ih =>
        intro hs hdd
        refine ⟨fun k hk => ?_, ih (fun k hk => hs k (by cases hq : d k <;> simp [U, hq, hk])) hdd.2⟩
        have h1 := hdd.1 k hk
        rw [U_none] at h1 ⊢
        intro c hc
        rcases List.mem_append.1 hc with hc | hc
        · exact h1 c (List.mem_append_left _ hc)
        · obtain rfl : c = _ := by simpa using hc
          have : U cs k ≠ none := hs k (by cases hq : d k with | none => exact absurd hq hk | some x => simp [U, hq])
          simp [this]
    exact key cs (fun k h => h) hd
  · funext k
    by_cases hn : U cs k = none
    · have : U (cs ++ [fun k => if U cs k = none then m' k else none]) k = m' k := by
        have : ∀ (ds : List Hp), U ds k = none → U (ds ++ [fun k => if U cs k = none then m' k else none]) k = m' k := by
          intro ds
          induction ds with
          | nil => intro _; simp [U, hn]; cases m' k <;> rfl
          | cons d ds ih =>
            intro h
            simp only [U, Option.or_eq_none_iff] at h
            simp only [List.cons_append, U, h.1, Option.none_or]
            exact ih h.2
        exact this cs hn
      exact this.symm
    · obtain ⟨o, ho⟩ : ∃ o, U cs k = some o := by cases h : U cs k with | none => exact absurd h hn | some o => exact ⟨o, rfl⟩
      have key : ∀ (ds : List Hp) (x : Hp), U ds k = some o → U (ds ++ [x]) k = some o := by
        intro ds x
        induction ds with
        | nil => intro h; simp [U, hp0] at h
        | cons d ds ih =>
          intro h
          simp only [U] at h
          simp only [List.cons_append, U]
          cases hq : d k with
          | some z => rw [hq] at h; simpa using h
          | none => rw [hq] at h; simp at h ⊢; exact ih h
      rw [key cs _ ho]
      exact hl k o (key cs _ ho)
end Go.As
/- The rules of the operations that read, write and make memory. -/
set_option linter.unusedVariables false
set_option linter.unusedSimpArgs false
namespace Go.As
open Go Go.RowKit

/-- A type's row of the table. -/
def Inf (P : Program) (E : TypeId) (z : Value) (k by_ : Nat) : Prop := ∃ i, P.info? E = some i ∧ i.zero = some z ∧ i.size = k ∧ i.bytes = by_
theorem inf_of {P : Program} {E : TypeId} {z : Value} {k by_ : Nat} (h : (P.info? E).map (fun i => (i.zero, i.size, i.bytes)) = some (some z, k, by_)) : Inf P E z k by_ := by
  cases hi : P.info? E with
  | none => simp [hi] at h
  | some i =>
    simp only [hi, Option.map_some, Option.some.injEq, Prod.mk.injEq] at h
    exact ⟨i, hi, h.1, h.2.1, h.2.2⟩
section
variable {P : Program} {r : Env} {m : Hp} {o : Oper}
/-! ### 1. Reading -/
theorem rig_load1 {T : TypeId} {x : Operand} {b off : Nat} {v : Value} (h : o.op = .load T x) (e : ev r x = some (.pointer (some ⟨b, off, none⟩))) (hT : ∀ w, (isAgg T).run P w = .ok false w) (hc : cell m b off = some v) : Rig P o r m v := rig_val fun n sg a w hf hs => by
  simp [execOp, h, hf.eval e, Instr.loadAt, Instr.sureAddr, loadVar, hT, load, Sem.run, hs.cell hc]
theorem rig_loadN {T : TypeId} {x : Operand} {b off : Nat} {vs : List Value} (h : o.op = .load T x) (e : ev r x = some (.pointer (some ⟨b, off, none⟩))) (hT : ∀ w, (isAgg T).run P w = .ok true w) (hz : ∀ w, (sizeOf T).run P w = .ok vs.length w) (hc : CellsAt m b off vs) : Rig P o r m (.agg vs.toArray) := rig_val fun n sg a w hf hs => by
  simp [execOp, h, hf.eval e, Instr.loadAt, Instr.sureAddr, loadVar, hT, hz, run_loadCells_Sat hs hc]
theorem rig_fieldAddr {S : TypeId} {x : Operand} {i b off c k : Nat} {fs : Array Field} {f : Field} (h : o.op = .fieldAddr S x i) (e : ev r x = some (.pointer (some ⟨b, off, none⟩))) (hS : P.underlying S = some (.struct fs)) (hf' : fs[i]? = some f) (hz : ∀ w, (sizeOf f.type).run P w = .ok (k + 1) w) (hc : f.offset = c) : Rig P o r m (.pointer (some ⟨b, off + c, none⟩)) := rig_val fun n sg a w hf hs => by
  simp [execOp, h, hf.eval e, Instr.fieldAt, run_underlying hS, hf', Instr.sureAddr, fieldPlace, hz, hc, Addr.add_lit]
theorem rig_indexAddr {T E : TypeId} {x y : Operand} {b off n cap s : Nat} {k : IntKind} {i : Int} (j : Nat) (h : o.op = .indexAddr T x y) (ex : ev r x = some (.slice (some ⟨b, off, none⟩) n cap)) (ey : ev r y = some (.int k i)) (hT : P.underlying T = some (.slice E)) (hz : ∀ w, (sizeOf E).run P w = .ok s w) (hi : i = j) (hj : j < n) : Rig P o r m (.pointer (some ⟨b, off + j * s, none⟩)) := rig_val fun n' sg a w hf hs => by
  subst hi
  have h1 : (0 : Int) ≤ (j : Int) ∧ (j : Int) < (n : Int) := by omega
  simp [execOp, h, hf.eval ex, hf.eval ey, Instr.indexAt, asIntOf, run_underlying hT, h1, hz, Addr.add_lit, hj]
theorem rig_ix {T E : TypeId} {x y : Operand} {A : Option Addr} {b off n cap s : Nat} {k : IntKind} {i : Int} (j : Nat) (h : o.op = .indexAddr T x y) (ex : ev r x = some (.slice A n cap)) (ey : ev r y = some (.int k i)) (hT : P.underlying T = some (.slice E)) (hz : ∀ w, (sizeOf E).run P w = .ok s w) (hA : A = some ⟨b, off, none⟩) (hi : i = j) (hj : j < n) : Rig P o r m (.pointer (some ⟨b, off + j * s, none⟩)) := by
  subst hA
  exact rig_indexAddr j h ex ey hT hz hi hj
theorem rig_indexStr {T : TypeId} {x y : Operand} {s : ByteArray} {k : IntKind} {i : Int} (j : Nat) (h : o.op = .index T x y) (ex : ev r x = some (.string s)) (ey : ev r y = some (.int k i)) (hT : P.underlying T = some .string) (hi : i = j) (hj : j < s.size) : Rig P o r m (.int .u8 ((s.data.toList.getD j 0).toNat : Int)) := rig_val fun n' sg a w hf hs => by
  subst hi
  have h1 : s[j]? = some (s[j]'hj) := by simp [hj]
  have h2 : s.data.toList.getD j 0 = s[j]'hj := by
    have hj' : j < s.data.size := hj
    rw [List.getD_eq_getElem?_getD, List.getElem?_eq_getElem (by simpa using hj')]
    rfl
  rw [h2]
  simp [execOp, h, hf.eval ex, hf.eval ey, Instr.index, asIntOf, run_underlying hT, hj]
theorem rig_lenSl {T : TypeId} {E : TypeId} {x : Operand} {A : Option Addr} {n cap : Nat} (h : o.op = .call { callee := .builtin .len, args := #[x], argTypes := #[T] }) (e : ev r x = some (.slice A n cap)) (hT : P.underlying T = some (.slice E)) : Rig P o r m (.int .i64 n) := rig_val fun n' sg a w hf hs => by
  simp [execOp, h, resolve, invoke, builtin, hf.eval e, Builtin.len_, run_underlying hT, goInt]
theorem rig_capSl {T : TypeId} {E : TypeId} {x : Operand} {A : Option Addr} {n cap : Nat} (h : o.op = .call { callee := .builtin .cap, args := #[x], argTypes := #[T] }) (e : ev r x = some (.slice A n cap)) (hT : P.underlying T = some (.slice E)) : Rig P o r m (.int .i64 cap) := rig_val fun n' sg a w hf hs => by
  simp [execOp, h, resolve, invoke, builtin, hf.eval e, Builtin.cap_, run_underlying hT, goInt]
theorem rig_lenStr {T : TypeId} {x : Operand} {s : ByteArray} (h : o.op = .call { callee := .builtin .len, args := #[x], argTypes := #[T] }) (e : ev r x = some (.string s)) (hT : P.underlying T = some .string) : Rig P o r m (.int .i64 s.size) := rig_val fun n' sg a w hf hs => by
  simp [execOp, h, resolve, invoke, builtin, hf.eval e, Builtin.len_, run_underlying hT, goInt]
theorem rig_min {T1 T2 : TypeId} {x y : Operand} {k : IntKind} {u v : Int} (h : o.op = .call { callee := .builtin .min, args := #[x, y], argTypes := #[T1, T2] }) (ex : ev r x = some (.int k u)) (ey : ev r y = some (.int k v)) : Rig P o r m (.int k (if v < u then v else u)) := rig_val fun n' sg a w hf hs => by
  simp [execOp, h, resolve, invoke, builtin, hf.eval ex, hf.eval ey, run_min_int2]
theorem rig_max {T1 T2 : TypeId} {x y : Operand} {k : IntKind} {u v : Int} (h : o.op = .call { callee := .builtin .max, args := #[x, y], argTypes := #[T1, T2] }) (ex : ev r x = some (.int k u)) (ey : ev r y = some (.int k v)) : Rig P o r m (.int k (if v > u then v else u)) := rig_val fun n' sg a w hf hs => by
  simp [execOp, h, resolve, invoke, builtin, hf.eval ex, hf.eval ey, run_max_int2]
theorem rig_convInt {S D : TypeId} {x : Operand} {k k' : IntKind} {u c : Int} {d : TypeDesc} (h : o.op = .convert S D x) (ex : ev r x = some (.int k u)) (hS : P.underlying S = some d) (hD : P.underlying D = some (.int k')) (hc : k'.wrap u = c) : Rig P o r m (.int k' c) := rig_val fun n' sg a w hf hs => by
  simp [execOp, h, hf.eval ex, convert, run_underlying hS, run_underlying hD, Conv.intToInt, ← hc]
theorem rig_nilCheck {x : Operand} {a : Addr} (h : o.op = .nilCheck x) (e : ev r x = some (.pointer (some a))) : Rig P o r m (.pointer (some a)) := rig_val fun n' sg a' w hf hs => by
  simp [execOp, h, hf.eval e]
theorem rig_field1 {T : TypeId} {x : Operand} {i : Nat} {fs : Array Field} {f : Field} {cs : Array Value} {v : Value} (h : o.op = .field T x i) (e : ev r x = some (.agg cs)) (hT : P.underlying T = some (.struct fs)) (hf' : fs[i]? = some f) (hA : ∀ w, (isAgg f.type).run P w = .ok false w) (hv : cs[f.offset]? = some v) : Rig P o r m v := rig_val fun n' sg a' w hf hs => by
  simp [execOp, h, hf.eval e, Instr.field, run_underlying hT, hf', asAgg, part, hA, hv]
theorem rig_fieldN {T : TypeId} {x : Operand} {i k : Nat} {fs : Array Field} {f : Field} {cs vs : Array Value} (h : o.op = .field T x i) (e : ev r x = some (.agg cs)) (hT : P.underlying T = some (.struct fs)) (hf' : fs[i]? = some f) (hA : ∀ w, (isAgg f.type).run P w = .ok true w) (hz : ∀ w, (sizeOf f.type).run P w = .ok k w) (hv : cs.extract f.offset (f.offset + k) = vs) : Rig P o r m (.agg vs) := rig_val fun n' sg a' w hf hs => by
  simp [execOp, h, hf.eval e, Instr.field, run_underlying hT, hf', asAgg, part, hA, hz, ← hv]
theorem rig_slH {T E : TypeId} {x y : Operand} {A : Option Addr} {n cap : Nat} {k : IntKind} {i : Int} (j : Nat) {s : Nat} (h : o.op = .slice T x none (some y) none) (ex : ev r x = some (.slice A n cap)) (ey : ev r y = some (.int k i)) (hT : P.underlying T = some (.slice E)) (hz : ∀ w, (sizeOf E).run P w = .ok s w) (hi : i = j) (hj : j ≤ cap) : Rig P o r m (.slice A j cap) := rig_val fun n' sg a' w hf hs => by
  subst hi
  have h1 : (0 : Int) ≤ (j : Int) ∧ (j : Int) ≤ (cap : Int) := by omega
  have hA : (if cap = 0 then A else A.map fun a => a.add (0 * s)) = A := by
    split
    · rfl
    · cases A <;> simp [Addr.add]
  simp [execOp, h, hf.eval ex, hf.eval ey, Instr.sliceAt, Instr.slice, run_underlying hT, Instr.sliceBounds, Instr.sliceBound, asIntOf, h1, hz, hj]
  cases A <;> simp [Addr.add]
theorem rig_slL {T E : TypeId} {x y : Operand} {A : Option Addr} {n cap : Nat} {k : IntKind} {i : Int} (j : Nat) {s : Nat} (h : o.op = .slice T x (some y) none none) (ex : ev r x = some (.slice A n cap)) (ey : ev r y = some (.int k i)) (hT : P.underlying T = some (.slice E)) (hz : ∀ w, (sizeOf E).run P w = .ok s w) (hi : i = j) (hj : j ≤ n) : Rig P o r m (.slice (if cap = j then A else A.map (·.add (j * s))) (n - j) (cap - j)) := rig_val fun n' sg a' w hf hs => by
  subst hi
  have h1 : (0 : Int) ≤ (j : Int) ∧ (j : Int) ≤ (n : Int) := by omega
  simp [execOp, h, hf.eval ex, hf.eval ey, Instr.sliceAt, Instr.slice, run_underlying hT, Instr.sliceBounds, Instr.sliceBound, asIntOf, h1, hz, hj]
theorem rig_slLH {T E : TypeId} {x y z : Operand} {A : Option Addr} {n cap : Nat} {k k2 : IntKind} {i i2 : Int} (j j2 : Nat) {s : Nat} (h : o.op = .slice T x (some y) (some z) none) (ex : ev r x = some (.slice A n cap)) (ey : ev r y = some (.int k i)) (ez : ev r z = some (.int k2 i2)) (hT : P.underlying T = some (.slice E)) (hz : ∀ w, (sizeOf E).run P w = .ok s w) (hi : i = j) (hi2 : i2 = j2) (hj : j ≤ j2) (hj2 : j2 ≤ cap) : Rig P o r m (.slice (if cap = j then A else A.map (·.add (j * s))) (j2 - j) (cap - j)) := rig_val fun n' sg a' w hf hs => by
  subst hi hi2
  have h1 : (0 : Int) ≤ (j : Int) ∧ (j : Int) ≤ (j2 : Int) := by omega
  have h2 : (0 : Int) ≤ (j2 : Int) ∧ (j2 : Int) ≤ (cap : Int) := by omega
  simp [execOp, h, hf.eval ex, hf.eval ey, hf.eval ez, Instr.sliceAt, Instr.slice, run_underlying hT, Instr.sliceBounds, Instr.sliceBound, asIntOf, h1, h2, hz, hj, hj2]
theorem rig_strLH {T : TypeId} {x y z : Operand} {s : ByteArray} {k k2 : IntKind} {i i2 : Int} (j j2 : Nat) (h : o.op = .slice T x (some y) (some z) none) (ex : ev r x = some (.string s)) (ey : ev r y = some (.int k i)) (ez : ev r z = some (.int k2 i2)) (hT : P.underlying T = some .string) (hi : i = j) (hi2 : i2 = j2) (hj : j ≤ j2) (hj2 : j2 ≤ s.size) : Rig P o r m (.string (s.extract j j2)) := rig_val fun n' sg a' w hf hs => by
  subst hi hi2
  have h1 : (0 : Int) ≤ (j : Int) ∧ (j : Int) ≤ (j2 : Int) := by omega
  have h2 : (0 : Int) ≤ (j2 : Int) ∧ (j2 : Int) ≤ (s.size : Int) := by omega
  simp [execOp, h, hf.eval ex, hf.eval ey, hf.eval ez, Instr.sliceAt, Instr.slice, run_underlying hT, Instr.sliceBounds, Instr.sliceBound, asIntOf, h1, h2, hj, hj2]
/-! ### 2. Calls -/
theorem exec_call {f : FuncId} {xs : Array Operand} {Ts : Array TypeId} {vs : List Value} {n : Nat} {sg : World} {a : Act} {w : World} (h : o.op = .call { callee := .value (.func f), args := xs, argTypes := Ts }) (e : evs r xs.toList = some vs) (hE : Go.Proofs.Enters P f) (hf : Fr n r a) : (execOp a.eval o).run P w = .ok (.enter f vs.toArray) w := by
  have h1 : xs.map a.eval = vs.toArray := by
    apply Array.ext'
    simp only [Array.toList_map]
    exact hf.evals e
  have h2 : a.eval (.func f) = .func (.func f) #[] #[] := rfl
  have h3 := hE vs.toArray w
  simp only [execOp, h, resolve, h1, h2, Deferred.ofValue]
  simp [invoke]
  exact h3
theorem rig_call {f : FuncId} {xs : Array Operand} {Ts : Array TypeId} {vs : List Value} {v : Value} (h : o.op = .call { callee := .value (.func f), args := xs, argTypes := Ts }) (e : evs r xs.toList = some vs) (hE : Go.Proofs.Enters P f) (hc : RC P f vs.toArray m v) : Rig P o r m v := fun n sg a w hf hs => by
  unfold Oper.quietAt
  rw [exec_call (sg := sg) h e hE hf]
  exact ⟨rfl, hc sg w hs⟩
theorem ex_call {f : FuncId} {xs : Array Operand} {Ts : Array TypeId} {vs : List Value} {R : Value → Hp → Prop} (h : o.op = .call { callee := .value (.func f), args := xs, argTypes := Ts }) (e : evs r xs.toList = some vs) (hE : Go.Proofs.Enters P f) (hc : GC P f vs.toArray m R) : Ex P o r m R := fun n sg a w hf hs => by
  unfold Oper.wp
  rw [exec_call (sg := sg) h e hE hf]
  exact (hc sg w hs).mono fun e w' ⟨v, m', he, hs', hR⟩ => by subst he; exact ⟨v, m', rfl, hs', hR⟩
theorem exec_callv {x : Operand} {g : FuncId} {first capt : Array Value} {xs : Array Operand} {Ts : Array TypeId} {vs : List Value} {n : Nat} {sg : World} {a : Act} {w : World} (h : o.op = .call { callee := .value x, args := xs, argTypes := Ts }) (ex : ev r x = some (.func (.func g) first capt)) (e : evs r xs.toList = some vs) (hE : Go.Proofs.Enters P g) (hf : Fr n r a) : (execOp a.eval o).run P w = .ok (.enter g (first ++ vs.toArray ++ capt)) w := by
  have h1 : xs.map a.eval = vs.toArray := by
    apply Array.ext'
    simp only [Array.toList_map]
    exact hf.evals e
  have h3 := hE (first ++ vs.toArray ++ capt) w
  simp only [execOp, h, resolve, h1, hf.eval ex, Deferred.ofValue]
  simp [invoke] at h3 ⊢
  exact h3
theorem rig_callv {x : Operand} {g : FuncId} {first capt : Array Value} {xs : Array Operand} {Ts : Array TypeId} {vs : List Value} {v : Value} (h : o.op = .call { callee := .value x, args := xs, argTypes := Ts }) (ex : ev r x = some (.func (.func g) first capt)) (e : evs r xs.toList = some vs) (hE : Go.Proofs.Enters P g) (hc : RC P g (first ++ vs.toArray ++ capt) m v) : Rig P o r m v := fun n sg a w hf hs => by
  unfold Oper.quietAt
  rw [exec_callv (sg := sg) h ex e hE hf]
  exact ⟨rfl, hc sg w hs⟩
theorem ex_callv {x : Operand} {g : FuncId} {first capt : Array Value} {xs : Array Operand} {Ts : Array TypeId} {vs : List Value} {R : Value → Hp → Prop} (h : o.op = .call { callee := .value x, args := xs, argTypes := Ts }) (ex : ev r x = some (.func (.func g) first capt)) (e : evs r xs.toList = some vs) (hE : Go.Proofs.Enters P g) (hc : GC P g (first ++ vs.toArray ++ capt) m R) : Ex P o r m R := fun n sg a w hf hs => by
  unfold Oper.wp
  rw [exec_callv (sg := sg) h ex e hE hf]
  exact (hc sg w hs).mono fun e w' ⟨v, m', he, hs', hR⟩ => by subst he; exact ⟨v, m', rfl, hs', hR⟩
theorem ex_val {F : Value → Hp → Prop} (h : ∀ n sg a w, Fr n r a → Sat sg w m → ∃ v m' w', (execOp a.eval o).run P w = .ok (.value v) w' ∧ Sat sg w' m' ∧ F v m') : Ex P o r m F := fun n sg a w hf hs => by
  obtain ⟨v, m', w', hr, hs', hF⟩ := h n sg a w hf hs
  unfold Oper.wp
  rw [hr]
  exact ⟨v, m', rfl, hs', hF⟩
/-! ### 3. New blocks -/
variable {L : List Hp}
theorem new_block {sg w : World} (hs : Sat sg w (U L)) (hD : Dj L) (ob : Obj) : Sat sg (w.alloc ob) (U (one w.heap.size ob :: L)) ∧ Dj (one w.heap.size ob :: L) :=
  ⟨by rw [← upd_new]; exact hs.alloc ob, hD.one hs.fresh⟩
/-- What a new block gives. -/
def New (L : List Hp) (ob : Obj) (v : Value) (m' : Hp) : Prop := ∃ b, v = .pointer (some ⟨b, 0, none⟩) ∧ m' = U (one b ob :: L) ∧ Dj (one b ob :: L)
theorem ex_box {T : TypeId} {x : Operand} {v : Value} (h : o.op = .box T x) (hD : Dj L) (e : ev r x = some v) : Ex P o r (U L) (New L (.cells v.cells T (0, 0))) := ex_val fun n sg a w hf hs => by
  have := new_block hs hD (.cells v.cells T (0, 0))
  exact ⟨_, _, _, by simp [execOp, h, hf.eval e, Instr.box, newVar, newRow, newObj, Sem.run], this.1, _, rfl, rfl, this.2⟩
theorem ex_alloc {T : TypeId} {z : Value} (h : o.op = .alloc T) (hD : Dj L) (hz : ∀ w, (zeroValue T).run P w = .ok z w) : Ex P o r (U L) (New L (.cells z.cells T (0, 0))) := ex_val fun n sg a w hf hs => by
  have := new_block hs hD (.cells z.cells T (0, 0))
  exact ⟨_, _, _, by simp [execOp, h, Instr.alloc, hz, newVar, newRow, newObj, Sem.run], this.1, _, rfl, rfl, this.2⟩
/-- A new block that is only read from now on. -/
def NewR (m : Hp) (cs : List Value) (v : Value) (m' : Hp) : Prop := ∃ b, v = .pointer (some ⟨b, 0, none⟩) ∧ HpLe m m' ∧ CellsAt m' b 0 cs
theorem upd_le {sg w : World} (hs : Sat sg w m) (ob : Obj) : HpLe m (upd m w.heap.size ob) := fun k q hq => by
  unfold upd
  by_cases e : k = w.heap.size
  · subst e; rw [hs.fresh] at hq; cases hq
  · rw [if_neg e]; exact hq
theorem CellsAt_row (m : Hp) (b : Nat) (c : Array Value) (e : TypeId) (f : Nat × Nat) (h : m b = some (.cells c e f)) : CellsAt m b 0 c.toList := CellsAt.of_get fun j v hj => by
  simp [cell, h]; simpa using hj
theorem ex_boxR {T : TypeId} {x : Operand} {v : Value} (h : o.op = .box T x) (e : ev r x = some v) : Ex P o r m (NewR m v.cells.toList) := ex_val fun n sg a w hf hs =>
  ⟨_, _, _, by simp [execOp, h, hf.eval e, Instr.box, newVar, newRow, newObj, Sem.run], hs.alloc (.cells v.cells T (0, 0)), _, rfl, upd_le hs _, CellsAt_row _ _ _ T (0, 0) (upd_same _ _ _)⟩
def eparts (r : Env) : List (Nat × Operand) → Option (List (Nat × Value))
  | [] => some []
  | (i, x) :: xs => (ev r x).bind fun v => (eparts r xs).map ((i, v) :: ·)
theorem eparts_eval {n : Nat} {a : Act} (hf : Fr n r a) : ∀ {xs : List (Nat × Operand)} {vs : List (Nat × Value)}, eparts r xs = some vs → xs.map (fun (i, x) => (i, a.eval x)) = vs
  | [], vs, e => by simpa [eparts] using e
  | (i, x) :: xs, vs, e => by
    simp only [eparts] at e
    cases hx : ev r x with
    | none => simp [hx] at e
    | some v =>
      cases hxs : eparts r xs with
      | none => simp [hx, hxs] at e
      | some l =>
        simp only [hx, hxs, Option.bind_some, Option.map_some, Option.some.injEq] at e
        subst e
        simp [hf.eval hx, eparts_eval hf hxs]
theorem rig_build {T : TypeId} {parts : Array (Nat × Operand)} {vs : List (Nat × Value)} {fs : Array Field} {pl : Array (Nat × Nat)} {z : Value} {cs : Array Value} (h : o.op = .build T parts) (e : eparts r parts.toList = some vs) (hT : P.underlying T = some (.struct fs)) (hz : ∀ w, (zeroValue T).run P w = .ok z w)
    (hp : ∀ w, (fs.mapM fun (f : Field) => (do pure (f.offset, ← sizeOf f.type) : Sem (Nat × Nat))).run P w = .ok pl w) (hfill : Instr.fill (pl[·]?) z.cells vs = some cs) : Rig P o r m (.agg cs) := rig_val fun n' sg a' w hf hs => by
  have h1 : (parts.map fun (i, x) => (i, a'.eval x)).toList = vs := by simpa using eparts_eval hf e
  simp only [execOp, h, Instr.build, Sem.run_bind, hz, Result.andThen_ok, run_underlying hT, hp, h1, hfill, Sem.run_pure]
/-- A new row of cells. -/
theorem ex_buildSlice {T E : TypeId} {len k : Nat} {parts : Array (Nat × Operand)} {vs : List (Nat × Value)} {z : Value} {cs : Array Value} (h : o.op = .buildSlice T len parts) (hD : Dj L) (e : eparts r parts.toList = some vs) (hT : P.underlying T = some (.slice E)) (hk : ∀ w, (sizeOf E).run P w = .ok k w) (hz : ∀ w, (zeroValue E).run P w = .ok z w)
    (hl : 0 < len * k) (hl2 : len * k ≤ 16777216) (hfill : Instr.fill (fun i => some (i * k, k)) ((Array.range (len * k)).map (z.cells[· % z.cells.size]!)) vs = some cs) :
    Ex P o r (U L) (fun v m' => ∃ b, v = .slice (some ⟨b, 0, none⟩) len len ∧ m' = U (one b (.cells cs E (0, 0)) :: L) ∧ Dj (one b (.cells cs E (0, 0)) :: L)) := ex_val fun n sg a w hf hs => by
  have := new_block hs hD (.cells cs E (0, 0))
  have h1 : (parts.map fun (i, x) => (i, a.eval x)).toList = vs := by simpa using eparts_eval hf e
  have h2 : ¬ (16777216 < len * k) := by omega
  have h3 : ¬ (len * k = 0) := by omega
  refine ⟨_, _, _, ?_, this.1, _, rfl, rfl, this.2⟩
  simp only [execOp, h, Instr.buildSlice, Sem.run_bind, run_underlying hT, Result.andThen_ok, hk, h1]
  simp only [gt_iff_lt, Nat.reducePow, h2, h3, if_false, Sem.run_bind, Sem.run_pure, hz, Result.andThen_ok, hfill]
  simp [newRow, newObj, Sem.run]
theorem foldl_put (cs : Array Value) : ∀ (vs : List Value) (i : Nat) (acc : Array Value), acc = putR cs 0 (vs.take 0) → True := fun _ _ _ _ => trivial
theorem zipIdx_put : ∀ (vs : List Value) (i off : Nat) (c : Array Value), (vs.zipIdx i).foldl (fun cs (x, j) => cs.setIfInBounds (off + j) x) c = putR c (off + i) vs
  | [], i, off, c => rfl
  | v :: vs, i, off, c => by
    simp only [List.zipIdx_cons, List.foldl_cons, putR]
    rw [zipIdx_put vs (i + 1) off]
    rfl
theorem zipIdx_putA (vs : Array Value) (off : Nat) (c : Array Value) : vs.zipIdx.foldl (fun cs (x, j) => cs.setIfInBounds (off + j) x) c = putR c off vs.toList := by
  have := zipIdx_put vs.toList 0 off c
  rw [← Array.foldl_toList]
  simpa using this
theorem putR_get : ∀ (vs : List Value) (c : Array Value) (o : Nat), o + vs.length ≤ c.size → ∀ j, (putR c o vs)[j]? = if o ≤ j ∧ j < o + vs.length then vs[j - o]? else c[j]?
  | [], c, o, h, j => by simp [putR]; omega
  | v :: vs, c, o, h, j => by
    simp only [List.length_cons] at h
    rw [putR, putR_get vs _ (o + 1) (by simp; omega)]
    by_cases h1 : j = o
    · subst h1
      rw [if_neg (by omega), if_pos (by simp), Array.getElem?_setIfInBounds_self, if_pos (by omega)]
      simp
    · rw [Array.getElem?_setIfInBounds_ne (by omega)]
      by_cases h2 : o + 1 ≤ j ∧ j < o + 1 + vs.length
      · rw [if_pos h2, if_pos (by simp; omega), show j - o = (j - (o + 1)) + 1 by omega]
        simp
      · rw [if_neg h2, if_neg (by simp; omega)]
theorem putR_all (vs : List Value) (c : Array Value) (h : c.size = vs.length) : putR c 0 vs = vs.toArray := by
  apply Array.ext_getElem?
  intro j
  rw [putR_get vs c 0 (by omega)]
  by_cases hj : j < vs.length
  · rw [if_pos (by omega)]; simp
  · rw [if_neg (by omega)]
    simp [show c.size ≤ j by omega, show vs.length ≤ j by omega]
/-- One element. -/
theorem fill_one {k : Nat} {c : Array Value} {v : Value} (hv : v.cells.size = k) (hc : c.size = k) : Instr.fill (fun i => some (i * k, k)) c [(0, v)] = some v.cells := by
  have : ¬ (v.cells.size ≠ k ∨ 0 * k + v.cells.size > c.size) := by simp; omega
  simp only [Instr.fill]
  rw [if_neg (by simp; omega)]
  simp only [Instr.fill, Option.some.injEq]
  have h := zipIdx_putA v.cells (0 * k) c
  have h2 := putR_all v.cells.toList c (by simp; omega)
  rw [Nat.zero_mul] at h ⊢
  rw [h, h2]
theorem rangeMap_size (z : Array Value) (n : Nat) : ((Array.range n).map (z[· % z.size]!)).size = n := by simp
/-! ### 4. Stores -/
theorem ex_store {T : TypeId} {x y : Operand} {b off i : Nat} {c : Array Value} {E : TypeId} {v : Value} (h : o.op = .store T x y) (hD : Dj L) (ex : ev r x = some (.pointer (some ⟨b, off, none⟩))) (ey : ev r y = some v) (hz : ∀ w, (sizeOf T).run P w = .ok v.cells.size w) (h1 : ∀ u ∈ v.cells.toList, u.oneCell' = true) (hi : L[i]? = some (one b (.cells c E (0, 0)))) (hb : off + v.cells.size ≤ c.size) :
    Ex P o r (U L) (fun u m' => u = undef ∧ m' = U (L.set i (one b (.cells (putR c off v.cells.toList) E (0, 0)))) ∧ Dj (L.set i (one b (.cells (putR c off v.cells.toList) E (0, 0))))) := fun n sg a w hf hs => by
  have hm : U L b = some (.cells c E (0, 0)) := U_le_at hD hi b _ (one_self b _)
  obtain ⟨w', hr, hs'⟩ := run_storeCells_Sat (P := P) v.cells.toList off 0 c w (U L) hs hm (by simp; omega) h1
  obtain ⟨e1, e2⟩ := upd_at (.cells (putR c off v.cells.toList) E (0, 0)) hD hi
  simp only [Nat.add_zero] at hs'
  rw [e1] at hs'
  unfold Oper.wp
  have : (execOp a.eval o).run P w = .ok .skip w' := by
    simp only [execOp, h, hf.eval ex, hf.eval ey]
    simp [Instr.storeAt, Instr.sureAddr, storeVar, hz, hr]
  rw [this]
  exact ⟨undef, _, rfl, hs', rfl, rfl, e2⟩
/-! ### 5. Rows of one's own, and append -/
def Own (E : TypeId) (k : Nat) (c : Hp) (v : Value) (xs : List Value) : Prop :=
  (v = .slice none 0 0 ∧ c = hp0 ∧ xs = []) ∨
  ∃ g n cap sp, v = .slice (some ⟨g, 0, none⟩) n cap ∧ c = one g (.cells (xs ++ sp).toArray E (0, 0)) ∧ xs.length = n * k ∧ (xs ++ sp).length = cap * k ∧ n ≤ cap ∧ cap ≤ maxLen
theorem Own.nil (E : TypeId) (k : Nat) : Own E k hp0 (.slice none 0 0) [] := .inl ⟨rfl, rfl, rfl⟩
/-- What is read of a slice. -/
def Src (m : Hp) (k : Nat) (v : Value) (xs : List Value) : Prop :=
  ∃ A n cap, v = .slice A n cap ∧ xs.length = n * k ∧ (n = 0 ∨ ∃ b off, A = some ⟨b, off, none⟩ ∧ CellsAt m b off xs)
theorem Src.le {m m' : Hp} {k : Nat} {v : Value} {xs : List Value} (h : Src m k v xs) (hl : HpLe m m') : Src m' k v xs := by
  obtain ⟨A, n, cap, h1, h2, h3⟩ := h
  exact ⟨A, n, cap, h1, h2, h3.imp id fun ⟨b, off, h4, h5⟩ => ⟨b, off, h4, h5.le hl⟩⟩
theorem Own.src {E : TypeId} {k : Nat} {c : Hp} {v : Value} {xs : List Value} (h : Own E k c v xs) : Src c k v xs := by
  rcases h with ⟨rfl, rfl, rfl⟩ | ⟨g, n, cap, sp, rfl, rfl, h1, h2, h3, h4⟩
  · exact ⟨none, 0, 0, rfl, by simp, .inl rfl⟩
  · refine ⟨_, n, cap, rfl, h1, .inr ⟨g, 0, rfl, CellsAt.of_get fun j v hj => ?_⟩⟩
    have hlt := (List.getElem?_eq_some_iff.1 hj).1
    simp [cell, one_self, List.getElem?_append_left hlt, hj]
end
end Go.As
/- append, on a row of one's own. -/
set_option linter.unusedVariables false
set_option linter.unusedSimpArgs false
namespace Go.As
open Go Go.RowKit
theorem U_set_le : ∀ {L : List Hp} {i : Nat} {c' : Hp} {k : Nat} {q : Obj}, Dj L → U (L.set i c') k = some q → c' k = some q ∨ U L k = some q
  | [], i, c', k, q, _, h => by simp [U, hp0] at h
  | d :: cs, 0, c', k, q, hd, h => by
    simp only [List.set_cons_zero, U] at h
    cases hc : c' k with
    | some z => rw [hc] at h; simp at h; exact .inl (by rw [h])
    | none =>
      rw [hc] at h
      simp at h
      exact .inr (U_tail hd h)
  | d :: cs, i + 1, c', k, q, hd, h => by
    simp only [List.set_cons_succ, U] at h
    cases hc : d k with
    | some z => rw [hc] at h; simp at h; exact .inr (U_head (by rw [hc, h]))
    | none =>
      rw [hc] at h
      simp at h
      exact (U_set_le hd.2 h).imp id fun h => U_tail hd h
theorem Dj_set : ∀ {L : List Hp} {i : Nat} {c c' : Hp}, Dj L → L[i]? = some c → (∀ k, c' k ≠ none → U L k = none ∨ c k ≠ none) → Dj (L.set i c')
  | [], i, c, c', _, h, _ => by simp at h
  | d :: cs, 0, c, c', hd, h, hk => by
    simp at h
    subst h
    refine ⟨fun k hn => ?_, hd.2⟩
    rcases hk k hn with h1 | h1
    · simp only [U, Option.or_eq_none_iff] at h1; exact h1.2
    · exact hd.1 k h1
  | d :: cs, i + 1, c, c', hd, h, hk => by
    have hi : cs[i]? = some c := by simpa using h
    refine ⟨fun k hn => ?_, Dj_set hd.2 hi fun k hn => (hk k hn).imp (fun h1 => by simp only [U, Option.or_eq_none_iff] at h1; exact h1.2) id⟩
    cases hq : U (cs.set i c') k with
    | none => rfl
    | some q =>
      have h0 := hd.1 k hn
      rcases U_set_le hd.2 hq with h1 | h1
      · rcases hk k (by simp [h1]) with h2 | h2
        · simp only [U, Option.or_eq_none_iff] at h2; exact absurd h2.1 hn
        · cases hc : c k with
          | none => exact absurd hc h2
          | some z => have := U_le_at hd.2 hi k z hc; rw [h0] at this; cases this
      · rw [h0] at h1; cases h1
theorem set_self : ∀ {L : List Hp} {i : Nat} {c : Hp}, L[i]? = some c → L.set i c = L
  | [], i, c, h => rfl
  | d :: cs, 0, c, h => by simp at h; simp [h]
  | d :: cs, i + 1, c, h => by simp only [List.set_cons_succ]; rw [set_self (by simpa using h)]
theorem U_hp0 (L : List Hp) : U (hp0 :: L) = U L := by funext k; simp [U, hp0]
theorem Dj_hp0 {L : List Hp} (h : Dj L) : Dj (hp0 :: L) := ⟨fun k hk => absurd rfl hk, h⟩
section
variable {P : Program} {r : Env} {m : Hp} {o : Oper} {L : List Hp}
theorem run_append_zero {w : World} {T E ty : TypeId} {B A : Option Addr} {n cap cp k : Nat} (hT : P.underlying T = some (.slice E)) (hk : ∀ w, (sizeOf E).run P w = .ok k w) (hn : n ≤ cap) :
    (Builtin.append_ #[T, T] ty #[.slice B n cap, .slice A 0 cp]).run P w = .ok (.slice B n cap) w := by
  cases A with
  | none => cases B <;> simp [Builtin.append_, run_underlying hT, hk, Builtin.lenOf, hn, Builtin.firstCells, storeCells]
  | some a => cases B <;> simp [Builtin.append_, run_underlying hT, hk, Builtin.lenOf, hn, Builtin.firstCells, storeCells, loadCells, loadCellsFrom]
theorem sizeOf_inf {E : TypeId} {z : Value} {k b : Nat} (h : Inf P E z k b) (w : World) : (sizeOf E).run P w = .ok k w := by
  obtain ⟨i, hi, _, hs, _⟩ := h
  simp [sizeOf, typeInfo, hi, hs]
theorem zeroValue_inf {E : TypeId} {z : Value} {k b : Nat} (h : Inf P E z k b) (w : World) : (zeroValue E).run P w = .ok z w := by
  obtain ⟨i, hi, hz, _, _⟩ := h
  simp [zeroValue, typeInfo, hi, hz]
theorem zeroCells_size (z : Array Value) (n : Nat) : (Builtin.zeroCells z n).size = n * z.size := by simp [Builtin.zeroCells]
/-- A new row in the place of a piece. -/
theorem fresh_at {sg w : World} {i : Nat} {c : Hp} (hs : Sat sg w (U L)) (hD : Dj L) (hi : L[i]? = some c) (ob : Obj) : Sat sg (w.drew.alloc ob) (U (L.set i (one w.heap.size ob))) ∧ Dj (L.set i (one w.heap.size ob)) := by
  have h1 : Sat sg (w.drew.alloc ob) (upd (U L) w.heap.size ob) := Sat.alloc (w := w.drew) ⟨hs.os, hs.tape, hs.out, hs.dr.trans (.add _ 1), hs.h⟩ ob
  refine ⟨h1.mono fun k q hq => ?_, Dj_set hD hi fun k hk => .inl ?_⟩
  · unfold upd
    by_cases e : k = w.heap.size
    · subst e
      rcases U_set_le hD hq with h | h
      · rw [one_self] at h; rw [if_pos rfl]; exact h
      · rw [hs.fresh] at h; cases h
    · rw [if_neg e]
      rcases U_set_le hD hq with h | h
      · rw [one_ne ob e] at h; cases h
      · exact h
  · by_cases e : k = w.heap.size
    · rw [e]; exact hs.fresh
    · exact absurd (one_ne ob e) hk
theorem run_append {sg w : World} {T E ty : TypeId} {z v u : Value} {k by_ i : Nat} {c : Hp} {xs news : List Value} (hs : Sat sg w (U L)) (hD : Dj L) (hT : P.underlying T = some (.slice E)) (inf : Inf P E z k by_) (hzs : z.cells.size = k) (hk : 0 < k) (hby : by_ ≤ 64)
    (hO : Own E k c v xs) (hi : L[i]? = some c) (hS : Src (U L) k u news) (hone : ∀ q ∈ news, q.oneCell' = true) (hb : xs.length + news.length ≤ 1099511627776) :
    ∃ v' c' w', (Builtin.append_ #[T, T] ty #[v, u]).run P w = .ok v' w' ∧ Own E k c' v' (xs ++ news) ∧ Sat sg w' (U (L.set i c')) ∧ Dj (L.set i c') := by
  obtain ⟨A, j, cp, rfl, hl, hA⟩ := hS
  have hkj : ∀ x : Nat, x ≤ x * k := fun x => Nat.le_mul_of_pos_right x hk
  have hsame : L.set i c = L := set_self hi
  have hin := inf
  obtain ⟨ti, hti, htz, hts, htb⟩ := inf
  rcases Nat.eq_zero_or_pos j with rfl | hj0
  · have hn : news = [] := List.eq_nil_of_length_eq_zero (by simpa using hl)
    subst hn
    rcases hO with ⟨rfl, rfl, rfl⟩ | ⟨g, n, cap, sp, rfl, rfl, h1, h2, h3, h4⟩
    · exact ⟨_, hp0, w, run_append_zero hT (sizeOf_inf hin) (Nat.le_refl 0), .inl ⟨rfl, rfl, rfl⟩, by rw [hsame]; exact hs, by rw [hsame]; exact hD⟩
    · exact ⟨_, _, w, run_append_zero hT (sizeOf_inf hin) h3, .inr ⟨g, n, cap, sp, rfl, rfl, by simpa using h1, by simpa using h2, h3, h4⟩, by rw [List.append_nil, hsame]; exact hs, by rw [List.append_nil, hsame]; exact hD⟩
  obtain ⟨b, off, rfl, hC⟩ := hA.resolve_left (by omega)
  have hnews : ∀ q v, news[q]? = some v → w.cell? ((⟨b, off, none⟩ : Addr).add q) = some v := fun q v hq => by
    rw [Addr.add_lit]; exact hs.cell (hC.get q v hq)
  have hjk := hkj j
  rcases hO with ⟨rfl, rfl, rfl⟩ | ⟨g, n, cap, sp, rfl, rfl, h1, h2, h3, h4⟩
  · have h48 : j * ti.bytes ≤ 281474976710656 := by
      rw [htb]
      have : j * by_ ≤ 1099511627776 * 64 := Nat.mul_le_mul (by simp at hb; omega) hby
      omega
    have hr := run_append_nil (P := P) w T ty E ti z hT hti htz ⟨b, off, none⟩ j cp news (by rw [hts]; exact hl) hnews hj0 (by simp at hb; omega) h48
    have hge := grownCap_ge w j 0 E
    have hcm := grownCap_le_maxLen w j 0 E (by simp only [maxLen]; simp at hb; omega)
    have hf := fresh_at hs hD hi (.cells (news.toArray ++ Builtin.zeroCells z.cells (grownCap w j 0 E - j)) E (0, 0))
    refine ⟨_, _, _, hr, .inr ⟨w.heap.size, j, grownCap w j 0 E, (Builtin.zeroCells z.cells (grownCap w j 0 E - j)).toList, rfl, ?_, by simpa using hl, ?_, hge, hcm⟩, hf.1, hf.2⟩
    · congr 2; apply Array.ext'; simp
    · simp only [List.nil_append, List.length_append, Array.length_toList, zeroCells_size, hzs, hl, ← Nat.add_mul]
      congr 1; omega
  · have hgm : U L g = some (.cells (xs ++ sp).toArray E (0, 0)) := U_le_at hD hi g _ (one_self g _)
    have hgw := hs.h g _ hgm
    by_cases hroom : n + j ≤ cap
    · have hlen : n * ti.size + news.length ≤ (xs ++ sp).toArray.size := by
        rw [hts, hl, ← Nat.add_mul, List.size_toArray, h2]; exact Nat.mul_le_mul_right _ hroom
      have hr := run_append_room (P := P) w T ty E ti hT hti g n cap (xs ++ sp).toArray hgw ⟨b, off, none⟩ j cp news (by rw [hts]; exact hl) hnews hone hroom hlen
      have htk : ((xs ++ sp).toArray.toList.take (n * ti.size) ++ news ++ (xs ++ sp).toArray.toList.drop (n * ti.size + news.length)) = (xs ++ news) ++ sp.drop news.length := by
        rw [hts, ← h1]
        have e1 : (xs ++ sp).take xs.length = xs := by simp
        have e2 : (xs ++ sp).drop (xs.length + news.length) = sp.drop news.length := by rw [List.drop_append, List.drop_of_length_le (by omega)]; simp
        simp only [List.toList_toArray, e1, e2]
      rw [htk] at hr
      obtain ⟨e1, e2⟩ := upd_at (.cells ((xs ++ news) ++ sp.drop news.length).toArray E (0, 0)) hD hi
      have hs' : Sat sg (w.setRow g ((xs ++ news) ++ sp.drop news.length).toArray) (upd (U L) g (.cells ((xs ++ news) ++ sp.drop news.length).toArray E (0, 0))) :=
        ⟨hs.os, hs.tape, hs.out, by simpa [World.setRow] using hs.dr, fun q ob hq => by
          unfold upd at hq
          by_cases e : q = g
          · subst e; rw [if_pos rfl] at hq; cases hq; exact setRow_heap w q _ _ E _ hgw
          · rw [if_neg e] at hq; rw [setRow_other w g q _ e]; exact hs.h q ob hq⟩
      rw [e1] at hs'
      have hl2 : sp.length = cap * k - n * k := by simp only [List.length_append] at h2; omega
      have hck : (n + j) * k ≤ cap * k := Nat.mul_le_mul_right _ hroom
      refine ⟨_, _, _, hr, .inr ⟨g, n + j, cap, sp.drop news.length, rfl, rfl, by rw [List.length_append, h1, hl, Nat.add_mul], ?_, hroom, h4⟩, hs', e2⟩
      rw [Nat.add_mul] at hck
      simp only [List.length_append, List.length_drop, h1, hl, hl2]
      omega
    · have hnk := hkj n
      have hcell : ∀ q v, xs[q]? = some v → w.cell? ((⟨g, 0, none⟩ : Addr).add q) = some v := fun q v hq => by
        rw [Addr.add_lit]
        exact hs.cell (m := U L) (by simp [cell, hgm, List.getElem?_append_left (List.getElem?_eq_some_iff.1 hq).1, hq])
      have hfit : Builtin.nextslicecap (n + j) cap * ti.bytes ≤ 281474976710656 := by
        refine growslice_fits (by omega) ?_
        rw [htb]
        have : (n + j) * by_ ≤ 1099511627776 * 64 := Nat.mul_le_mul (by omega) hby
        omega
      have hr := run_append_grow (P := P) w T ty E ti z hT hti htz ⟨g, 0, none⟩ n cap xs (by rw [hts]; exact h1) hcell ⟨b, off, none⟩ j cp news (by rw [hts]; exact hl) hnews (by omega) (by omega) hfit
      have hge := grownCap_ge w (n + j) cap E
      have hcm := grownCap_le_maxLen w (n + j) cap E (by simp only [maxLen]; omega)
      have hf := fresh_at hs hD hi (.cells (xs.toArray ++ news.toArray ++ Builtin.zeroCells z.cells (grownCap w (n + j) cap E - (n + j))) E (0, 0))
      refine ⟨_, _, _, hr, .inr ⟨w.heap.size, n + j, grownCap w (n + j) cap E, (Builtin.zeroCells z.cells (grownCap w (n + j) cap E - (n + j))).toList, rfl, ?_, by rw [List.length_append, h1, hl, Nat.add_mul], ?_, hge, hcm⟩, hf.1, hf.2⟩
      · congr 2; apply Array.ext'; simp
      · simp only [List.length_append, Array.length_toList, zeroCells_size, hzs, h1, hl, ← Nat.add_mul]
        congr 1; omega
theorem ex_append {T E : TypeId} {x y : Operand} {z v u : Value} {k by_ : Nat} (i : Nat) {c : Hp} {xs news : List Value} (h : o.op = .call { callee := .builtin .append, args := #[x, y], argTypes := #[T, T] }) (hD : Dj L) (ex : ev r x = some v) (ey : ev r y = some u)
    (hT : P.underlying T = some (.slice E)) (inf : Inf P E z k by_) (hzs : z.cells.size = k) (hk : 0 < k) (hby : by_ ≤ 64)
    (hO : Own E k c v xs) (hi : L[i]? = some c) (hS : Src (U L) k u news) (hone : ∀ q ∈ news, q.oneCell' = true) (hb : xs.length + news.length ≤ 1099511627776) :
    Ex P o r (U L) (fun v' m' => ∃ c', Own E k c' v' (xs ++ news) ∧ m' = U (L.set i c') ∧ Dj (L.set i c')) := ex_val fun n sg a w hf hs => by
  obtain ⟨v', c', w', hr, h1, h2, h3⟩ := run_append (ty := o.type) hs hD hT inf hzs hk hby hO hi hS hone hb
  exact ⟨v', _, w', by simp [execOp, h, resolve, invoke, builtin, hf.eval ex, hf.eval ey, hr], h2, c', h1, rfl, h3⟩
/-- append to nil: a new piece. -/
theorem ex_appendNil {T E : TypeId} {x y : Operand} {z u : Value} {k by_ : Nat} {news : List Value} (h : o.op = .call { callee := .builtin .append, args := #[x, y], argTypes := #[T, T] }) (hD : Dj L) (ex : ev r x = some (.slice none 0 0)) (ey : ev r y = some u)
    (hT : P.underlying T = some (.slice E)) (inf : Inf P E z k by_) (hzs : z.cells.size = k) (hk : 0 < k) (hby : by_ ≤ 64)
    (hS : Src (U L) k u news) (hone : ∀ q ∈ news, q.oneCell' = true) (hb : news.length ≤ 1099511627776) :
    Ex P o r (U L) (fun v' m' => ∃ c', Own E k c' v' news ∧ m' = U (c' :: L) ∧ Dj (c' :: L)) := by
  have := ex_append (P := P) (r := r) (o := o) (L := hp0 :: L) 0 h (Dj_hp0 hD) ex ey hT inf hzs hk hby (Own.nil E k) rfl (by rw [U_hp0]; exact hS) hone (by simpa using hb)
  rw [U_hp0] at this
  simpa using this
/-- 'v := x': a new variable and its value. -/
theorem ao_var {n : Nat} {ops : Array Oper} {os : List Oper} {K : Env → Hp → Prop} {T : TypeId} {x : Operand} {d : Tmp} {ty1 ty2 : TypeId} {p1 p2 : String} {a1 a2 : Array Edge} {z v : Value} (hz : ∀ w, (zeroValue T).run P w = .ok z w) (hd : Nat.blt d n = true) (e : ev ((d, .pointer none) :: r) x = some v) (hx : ∀ t, x = .tmp t → Nat.beq d t = false)
    (hk : ∀ w, (sizeOf T).run P w = .ok v.cells.size w) (hzk : z.cells.size = v.cells.size) (h1 : ∀ u ∈ v.cells.toList, u.oneCell' = true)
    (k : ∀ b m', HpLe m m' → CellsAt m' b 0 v.cells.toList → AOps P n ops os ((d, .pointer (some ⟨b, 0, none⟩)) :: r) m' K) :
    AOps P n ops ({ dst := some d, op := .alloc T, type := ty1, pos := p1, after := a1, guard := none } :: { dst := none, op := .store T (.tmp d) x, type := ty2, pos := p2, after := a2, guard := none } :: os) r m K := by
  have hU : m = U [m] := (U_single m).symm
  rw [hU]
  refine ao_x (ex_alloc rfl (Dj_single m) hz) hd fun u m1 ⟨b, hu, hm, hD⟩ => ?_
  subst hu hm
  have ex : ev ((d, .pointer (some ⟨b, 0, none⟩)) :: r) x = some v := by
    cases x with
    | tmp t =>
      have := hx t rfl
      simp only [ev, Env.get_cons, this, cond_false] at e ⊢
      exact e
    | const c => exact e
    | global g => exact e
    | func f => exact e
  refine ao_x0 (ex_store (i := 0) (b := b) (off := 0) (c := z.cells) (E := T) rfl hD (by simp [ev, Env.get]) ex hk h1 rfl (by omega)) fun u m2 ⟨_, hm, hD2⟩ => ?_
  subst hm
  have hp : putR z.cells 0 v.cells.toList = v.cells := by rw [putR_all v.cells.toList z.cells (by simpa using hzk)]
  rw [List.set_cons_zero, hp] at hD2 ⊢
  refine k b _ (fun q ob hq => U_le_at (i := 1) hD2 rfl q ob (by simpa [U, hp0] using hq)) ?_
  exact (CellsAt_row (one b (.cells v.cells T (0, 0))) b v.cells T (0, 0) (one_self _ _)).le U_le_head
end
end Go.As
/- Lists of elements in rows of cells; strings and templates. -/
set_option linter.unusedVariables false
set_option linter.unusedSimpArgs false
namespace Go.As
open Go Go.RowKit
abbrev w64 := @wrap64_i
def rows {α : Type} (enc : α → List Value) (l : List α) : List Value := l.flatMap enc
section
variable {α : Type} {enc : α → List Value} {k : Nat}
theorem rows_nil : rows enc [] = [] := rfl
theorem rows_cons (x : α) (l : List α) : rows enc (x :: l) = enc x ++ rows enc l := by simp [rows]
theorem rows_append (l l' : List α) : rows enc (l ++ l') = rows enc l ++ rows enc l' := by simp [rows]
theorem rows_one (x : α) : rows enc [x] = enc x := by simp [rows]
theorem rows_length (hk : ∀ x, (enc x).length = k) : ∀ l : List α, (rows enc l).length = l.length * k
  | [] => by simp [rows]
  | x :: l => by rw [rows_cons, List.length_append, hk, rows_length hk l, List.length_cons, Nat.add_mul]; omega
theorem rows_get (hk : ∀ x, (enc x).length = k) : ∀ (l : List α) (i : Nat) (x : α), l[i]? = some x → ∀ j v, (enc x)[j]? = some v → (rows enc l)[i * k + j]? = some v
  | [], i, x, h, _, _, _ => by simp at h
  | y :: l, 0, x, h, j, v, hj => by
    simp at h
    subst h
    rw [rows_cons, Nat.zero_mul, Nat.zero_add, List.getElem?_append_left (List.getElem?_eq_some_iff.1 hj).1]
    exact hj
  | y :: l, i + 1, x, h, j, v, hj => by
    rw [rows_cons, Nat.add_mul, List.getElem?_append_right (by rw [hk]; omega), hk, show i * k + 1 * k + j - k = i * k + j by omega]
    exact rows_get hk l i x (by simpa using h) j v hj
theorem rows_set (hk : ∀ x, (enc x).length = k) : ∀ (l : List α) (i : Nat) (y : α) (sp : List Value), i < l.length → ∀ j, (rows enc (l.set i y) ++ sp)[j]? = if i * k ≤ j ∧ j < i * k + k then (enc y)[j - i * k]? else (rows enc l ++ sp)[j]?
  | [], i, y, sp, h, _ => by simp at h
  | x :: l, 0, y, sp, h, j => by
    simp only [List.set_cons_zero, rows_cons, Nat.zero_mul, Nat.zero_le, true_and, Nat.zero_add, Nat.sub_zero, List.append_assoc]
    by_cases hj : j < k
    · rw [if_pos hj, List.getElem?_append_left (by rw [hk]; exact hj)]
    · have e1 : (enc y ++ (rows enc l ++ sp))[j]? = (rows enc l ++ sp)[j - k]? := by rw [List.getElem?_append_right (by rw [hk]; omega), hk]
      have e2 : (enc x ++ (rows enc l ++ sp))[j]? = (rows enc l ++ sp)[j - k]? := by rw [List.getElem?_append_right (by rw [hk]; omega), hk]
      rw [if_neg hj, e1, e2]
  | x :: l, i + 1, y, sp, h, j => by
    simp only [List.set_cons_succ, rows_cons, List.append_assoc]
    by_cases hj : j < k
    · rw [if_neg (by rw [Nat.add_mul]; omega), List.getElem?_append_left (by rw [hk]; exact hj), List.getElem?_append_left (by rw [hk]; exact hj)]
    · have e1 : (enc x ++ (rows enc (l.set i y) ++ sp))[j]? = (rows enc (l.set i y) ++ sp)[j - k]? := by rw [List.getElem?_append_right (by rw [hk]; omega), hk]
      have e2 : (enc x ++ (rows enc l ++ sp))[j]? = (rows enc l ++ sp)[j - k]? := by rw [List.getElem?_append_right (by rw [hk]; omega), hk]
      rw [e1, e2, rows_set hk l i y sp (by simpa using h)]
      by_cases h2 : i * k ≤ j - k ∧ j - k < i * k + k
      · rw [if_pos h2, if_pos (by rw [Nat.add_mul]; omega), show j - (i + 1) * k = j - k - i * k by rw [Nat.add_mul]; omega]
      · rw [if_neg h2, if_neg (by rw [Nat.add_mul]; omega)]
theorem putR_rows (hk : ∀ x, (enc x).length = k) (l : List α) (i : Nat) (y : α) (sp : List Value) (h : i < l.length) : putR (rows enc l ++ sp).toArray (i * k) (enc y) = (rows enc (l.set i y) ++ sp).toArray := by
  have hle : i * k + k ≤ l.length * k := by rw [← Nat.succ_mul]; exact Nat.mul_le_mul_right _ h
  apply Array.ext_getElem?
  intro j
  rw [putR_get (enc y) _ _ (by rw [hk, List.size_toArray, List.length_append, rows_length hk]; omega), hk, List.getElem?_toArray, List.getElem?_toArray, rows_set hk l i y sp h j]
theorem CellsAt.sub {m : Hp} {b : Nat} : ∀ {o : Nat} {vs us : List Value} (i : Nat), CellsAt m b o vs → (∀ j v, us[j]? = some v → vs[i + j]? = some v) → CellsAt m b (o + i) us := fun {o vs us} i h hs =>
  CellsAt.of_get fun j v hj => by rw [Nat.add_assoc]; exact h.get (i + j) v (hs j v hj)
theorem CellsAt.elem (hk : ∀ x, (enc x).length = k) {m : Hp} {b o : Nat} {l : List α} (h : CellsAt m b o (rows enc l)) {i : Nat} {x : α} (hx : l[i]? = some x) : CellsAt m b (o + i * k) (enc x) :=
  h.sub (i * k) fun j v hj => rows_get hk l i x hx j v hj
/-- A slice of elements, as it is read. -/
def RdSl (m : Hp) (enc : α → List Value) (k : Nat) (v : Value) (l : List α) : Prop := Src m k v (rows enc l)
theorem RdSl.le {m m' : Hp} {v : Value} {l : List α} (h : RdSl m enc k v l) (hl : HpLe m m') : RdSl m' enc k v l := Src.le h hl
theorem RdSl.form (hk : ∀ x, (enc x).length = k) (h0 : 0 < k) {m : Hp} {v : Value} {l : List α} (h : RdSl m enc k v l) : ∃ A cap, v = .slice A l.length cap ∧ (l = [] ∨ ∃ b off, A = some ⟨b, off, none⟩ ∧ CellsAt m b off (rows enc l)) := by
  obtain ⟨A, n, cap, rfl, hl, h⟩ := h
  rw [rows_length hk] at hl
  obtain rfl : l.length = n := Nat.eq_of_mul_eq_mul_right h0 hl
  exact ⟨A, cap, rfl, h.imp (fun e => List.eq_nil_of_length_eq_zero e) id⟩
theorem Own.rd {E : TypeId} {c : Hp} {v : Value} {l : List α} (h : Own E k c v (rows enc l)) : RdSl c enc k v l := h.src
/-- A row of one's own that has an element. -/
theorem Own.some_ (hk : ∀ x, (enc x).length = k) (h0 : 0 < k) {E : TypeId} {c : Hp} {v : Value} {l : List α} (h : Own E k c v (rows enc l)) (hn : 0 < l.length) :
    ∃ g cap sp, v = .slice (some ⟨g, 0, none⟩) l.length cap ∧ c = one g (.cells (rows enc l ++ sp).toArray E (0, 0)) ∧ (rows enc l ++ sp).length = cap * k ∧ l.length ≤ cap ∧ cap ≤ maxLen := by
  rcases h with ⟨rfl, rfl, h⟩ | ⟨g, n, cap, sp, rfl, rfl, h1, h2, h3, h4⟩
  · have := rows_length hk l
    rw [h] at this
    have : l.length * k = 0 := this.symm
    rcases Nat.mul_eq_zero.1 this with h | h <;> omega
  · rw [rows_length hk] at h1
    obtain rfl : l.length = n := Nat.eq_of_mul_eq_mul_right h0 h1
    exact ⟨g, cap, sp, rfl, rfl, h2, h3, h4⟩
theorem Own.mk_ (hk : ∀ x, (enc x).length = k) {E : TypeId} {g cap : Nat} {sp : List Value} {l : List α} (h2 : (rows enc l ++ sp).length = cap * k) (h3 : l.length ≤ cap) (h4 : cap ≤ maxLen) : Own E k (one g (.cells (rows enc l ++ sp).toArray E (0, 0))) (.slice (some ⟨g, 0, none⟩) l.length cap) (rows enc l) :=
  .inr ⟨g, l.length, cap, sp, rfl, rfl, rows_length hk l, h2, h3, h4⟩
/-- The value of a row of one's own, whatever it holds. -/
theorem Own.len (hk : ∀ x, (enc x).length = k) (h0 : 0 < k) {E : TypeId} {c : Hp} {v : Value} {l : List α} (h : Own E k c v (rows enc l)) : ∃ A cap, v = .slice A l.length cap := by
  obtain ⟨A, cap, h1, _⟩ := RdSl.form hk h0 h.rd
  exact ⟨A, cap, h1⟩
end
/-! ### Strings -/
def encS (s : ByteArray) : List Value := [.string s]
theorem encS_len (s : ByteArray) : (encS s).length = 1 := rfl
abbrev Strs (m : Hp) (v : Value) (ss : List ByteArray) : Prop := RdSl m encS 1 v ss
theorem Strs.get {m : Hp} {v : Value} {ss : List ByteArray} (h : Strs m v ss) {i : Nat} {s : ByteArray} (hi : ss[i]? = some s) : ∃ b off cap, v = .slice (some ⟨b, off, none⟩) ss.length cap ∧ cell m b (off + i * 1) = some (.string s) := by
  obtain ⟨A, cap, rfl, hc⟩ := RdSl.form encS_len (by decide) h
  have hlt := (List.getElem?_eq_some_iff.1 hi).1
  obtain ⟨b, off, rfl, hC⟩ := hc.resolve_left (fun e => by simp [e] at hlt)
  exact ⟨b, off, cap, rfl, (hC.elem encS_len hi).1⟩
/-! ### Templates: the header of the tokens, the tokens, the count -/
structure Tm where
  A : Option Addr
  n : Nat
  cap : Nat
  toks : List ByteArray
  cnt : Int
def Tm.hdr (t : Tm) : Value := .slice t.A t.n t.cap
def encT (t : Tm) : List Value := [.slice t.A t.n t.cap, .int .i64 t.cnt]
theorem encT_len (t : Tm) : (encT t).length = 2 := rfl
def Tm.val (t : Tm) : Value := .agg #[.slice t.A t.n t.cap, .int .i64 t.cnt]
/-- Its tokens read so. -/
def Tm.Ok (m : Hp) (t : Tm) : Prop := Strs m (.slice t.A t.n t.cap) t.toks
theorem Tm.Ok.le {m m' : Hp} {t : Tm} (h : t.Ok m) (hl : HpLe m m') : t.Ok m' := RdSl.le h hl
theorem Tm.Ok.len {m : Hp} {t : Tm} (h : t.Ok m) : t.n = t.toks.length := by
  obtain ⟨A, cap, e, _⟩ := RdSl.form encS_len (by decide) h
  simp at e
  exact e.2.1
theorem Tm.Ok.get {m : Hp} {t : Tm} (h : t.Ok m) {i : Nat} {s : ByteArray} (hi : t.toks[i]? = some s) : ∃ b off, t.A = some ⟨b, off, none⟩ ∧ cell m b (off + i * 1) = some (.string s) := by
  obtain ⟨b, off, cap, e, hc⟩ := Strs.get h hi
  simp at e
  exact ⟨b, off, e.1, hc⟩
abbrev Tms (m : Hp) (v : Value) (l : List Tm) : Prop := RdSl m encT 2 v l
theorem Tms.get {m : Hp} {v : Value} {l : List Tm} (h : Tms m v l) {i : Nat} {t : Tm} (hi : l[i]? = some t) : ∃ b off cap, v = .slice (some ⟨b, off, none⟩) l.length cap ∧ CellsAt m b (off + i * 2) (encT t) := by
  obtain ⟨A, cap, rfl, hc⟩ := RdSl.form encT_len (by decide) h
  have hlt := (List.getElem?_eq_some_iff.1 hi).1
  obtain ⟨b, off, rfl, hC⟩ := hc.resolve_left (fun e => by simp [e] at hlt)
  exact ⟨b, off, cap, rfl, hC.elem encT_len hi⟩
/-! ### Small things of every day -/
theorem get_lt {α : Type} {l : List α} {i : Nat} (h : i < l.length) : ∃ x, l[i]? = some x := ⟨l[i], by simp [h]⟩
theorem one_cell (b : Nat) (c : Array Value) (e : TypeId) (o : Nat) (v : Value) (h : c[o]? = some v) : cell (one b (.cells c e (0, 0))) b o = some v := by simp [cell, one_self, h]
/-- A cell of a block of one's own, by its place in the list. -/
theorem cell_at {L : List Hp} (i : Nat) {b o : Nat} {c : Array Value} {e : TypeId} {v : Value} (hD : Dj L) (hi : L[i]? = some (one b (.cells c e (0, 0)))) (h : c[o]? = some v) : cell (U L) b o = some v :=
  cell_le (U_le_at hD hi) (one_cell b c e o v h)
theorem cells_at {L : List Hp} (i : Nat) {m : Hp} {b o : Nat} {vs : List Value} (hD : Dj L) (hi : L[i]? = some m) (h : CellsAt m b o vs) : CellsAt (U L) b o vs := h.le (U_le_at hD hi)
theorem U_one (m : Hp) : m = U [m] := (U_single m).symm
end Go.As
namespace Go.As
open Go Go.RowKit
theorem awp_u {P : Program} {n : Nat} {c : Code} {Q : Post} {r : Env} {m : Hp} (h : AWp P n c Q r (U [m])) : AWp P n c Q r m := by rw [U_single] at h; exact h
/-- Two ways that meet. -/
theorem awp_mid {P : Program} {n : Nat} {x y : Code} {Q : Post} {r : Env} {m : Hp} (J : Env → Hp → Prop) (h : AWp P n x (qseq (fun r m => ∃ s, EnvLe s r ∧ J s m) Q) r m) (k : ∀ r m, J r m → AWp P n y Q r m) : AWp P n (.seq x y) Q r m :=
  awp_seq (awp_mono h fun e r m q => by
    cases e with
    | normal => obtain ⟨s, hs, hj⟩ := q; exact awp_le s hs (k s m hj)
    | exit i => exact q
    | ret => exact q
    | goto l => exact q
    | panic c => exact q
    | outgrown => exact q)
theorem awp_sk {P : Program} {n : Nat} {x y : Code} {Q : Post} {r : Env} {m : Hp} (h : ∀ K : Env → Hp → Prop, (∀ r m, AWp P n y Q r m → K r m) → AWp P n x (qseq K Q) r m) : AWp P n (.seq x y) Q r m :=
  awp_seq (h _ fun _ _ h => h)
theorem awp_rs {P : Program} {n id : Nat} {l : List Oper} {y : Code} {Q : Post} {r : Env} {m : Hp} (h : AOps P n l.toArray l r m (fun r m => AWp P n y Q r m)) : AWp P n (.seq (.region id l.toArray false) y) Q r m :=
  awp_seq (awp_region h)
theorem awp_ds {P : Program} {n id : Nat} {l : List Oper} {y : Code} {Q : Post} {r : Env} {m : Hp} (x : Ord) (mu : List Nat) (hm : P.follows .mixedOrders = true) (hB : drawB l.toArray mu x = true) (h : AOrd P n l.toArray mu (fun r m => AWp P n y Q r m) x r m) : AWp P n (.seq (.region id l.toArray true) y) Q r m :=
  awp_seq (awp_draw x mu hm hB h)
theorem le_at {L : List Hp} (i : Nat) {m : Hp} (hD : Dj L) (hi : L[i]? = some m) : HpLe m (U L) := U_le_at hD hi
end Go.As
/- Pieces moved and merged; what a call hands back in new memory. -/
set_option linter.unusedVariables false
set_option linter.unusedSimpArgs false
namespace Go.As
open Go Go.RowKit
def swapAt : List Hp → Nat → List Hp
  | x :: y :: l, 0 => y :: x :: l
  | x :: l, i + 1 => x :: swapAt l i
  | l, _ => l
def mergeAt : List Hp → Nat → List Hp
  | x :: y :: l, 0 => U [x, y] :: l
  | x :: l, i + 1 => x :: mergeAt l i
  | l, _ => l
theorem U_swap : ∀ {L : List Hp} (i : Nat), Dj L → U L = U (swapAt L i) ∧ Dj (swapAt L i)
  | [], i, h => by cases i <;> exact ⟨rfl, h⟩
  | [x], 0, h => ⟨rfl, h⟩
  | x :: y :: l, 0, h => by
    constructor
    · funext k
      simp only [swapAt, U]
      cases hx : x k with
      | none => simp
      | some o =>
        have h0 := h.1 k (by simp [hx])
        simp only [U, Option.or_eq_none_iff] at h0
        simp [h0.1]
    · refine ⟨fun k hk => ?_, fun k hk => ?_, h.2.2⟩
      · simp only [U, Option.or_eq_none_iff]
        refine ⟨?_, h.2.1 k hk⟩
        cases hx : x k with
        | none => rfl
        | some o =>
          have h0 := h.1 k (by simp [hx])
          simp only [U, Option.or_eq_none_iff] at h0
          exact absurd h0.1 hk
      · have h0 := h.1 k hk
        simp only [U, Option.or_eq_none_iff] at h0
        exact h0.2
  | x :: l, i + 1, h => by
    obtain ⟨h1, h2⟩ := U_swap (L := l) i h.2
    have e : swapAt (x :: l) (i + 1) = x :: swapAt l i := by cases l <;> rfl
    rw [e]
    exact ⟨by funext k; simp only [U]; rw [← h1], fun k hk => by rw [← h1]; exact h.1 k hk, h2⟩
theorem U_merge : ∀ {L : List Hp} (i : Nat), Dj L → U L = U (mergeAt L i) ∧ Dj (mergeAt L i)
  | [], i, h => by cases i <;> exact ⟨rfl, h⟩
  | [x], 0, h => ⟨rfl, h⟩
  | x :: y :: l, 0, h => by
    constructor
    · funext k
      simp [mergeAt, U, hp0, Option.or_assoc]
    · refine ⟨fun k hk => ?_, h.2.2⟩
      simp only [U, hp0, Option.or_none] at hk
      cases hx : x k with
      | some o =>
        have h0 := h.1 k (by simp [hx])
        simp only [U, Option.or_eq_none_iff] at h0
        exact h0.2
      | none =>
        rw [hx, Option.none_or] at hk
        exact h.2.1 k hk
  | x :: l, i + 1, h => by
    obtain ⟨h1, h2⟩ := U_merge (L := l) i h.2
    have e : mergeAt (x :: l) (i + 1) = x :: mergeAt l i := by cases l <;> rfl
    rw [e]
    exact ⟨by funext k; simp only [U]; rw [← h1], fun k hk => by rw [← h1]; exact h.1 k hk, h2⟩
theorem U_flat : ∀ (A L : List Hp), U (A ++ [U L]) = U (A ++ L)
  | [], L => U_single _
  | x :: A, L => by funext k; simp only [List.cons_append, U]; rw [U_flat A L]
theorem Dj_flat : ∀ {A L : List Hp}, Dj (A ++ [U L]) → Dj L → Dj (A ++ L)
  | [], L, _, h => h
  | x :: A, L, h, hl => ⟨fun k hk => (congrFun (U_flat A L) k).symm.trans (h.1 k hk), Dj_flat h.2 hl⟩
theorem Dj_unflat : ∀ {A L : List Hp}, Dj (A ++ L) → Dj (A ++ [U L])
  | [], L, h => Dj_single _
  | x :: A, L, h => ⟨fun k hk => (congrFun (U_flat A L) k).trans (h.1 k hk), Dj_unflat h.2⟩
theorem Dj_init : ∀ {A B : List Hp}, Dj (A ++ B) → Dj A
  | [], B, h => trivial
  | x :: A, B, h => ⟨fun k hk => by
      have := h.1 k hk
      rw [U_none] at this ⊢
      exact fun c hc => this c (List.mem_append_left _ hc), Dj_init h.2⟩
theorem Dj_tail : ∀ {A L : List Hp}, Dj (A ++ L) → Dj L
  | [], L, h => h
  | x :: A, L, h => Dj_tail (A := A) h.2
/-- What a call hands back in new memory: a piece of the caller's own, and new memory beside it. -/
def Fresh (m : Hp) (R : Value → Hp → Hp → Prop) : Value → Hp → Prop := fun v m' => ∃ c F, Dj [c, F, m] ∧ m' = U [c, F, m] ∧ R v c F
theorem Fresh.at {L : List Hp} {R : Value → Hp → Hp → Prop} {v : Value} {m' : Hp} (hD : Dj L) (h : Fresh (U L) R v m') : ∃ c F, Dj (c :: F :: L) ∧ m' = U (c :: F :: L) ∧ R v c F := by
  obtain ⟨c, F, hd, rfl, hR⟩ := h
  exact ⟨c, F, Dj_flat (A := [c, F]) hd hD, U_flat [c, F] L, hR⟩
theorem Fresh.mk_ {m : Hp} {R : Value → Hp → Hp → Prop} {v : Value} {c F : Hp} (hD : Dj [c, F, m]) (hR : R v c F) : Fresh m R v (U [c, F, m]) := ⟨c, F, hD, rfl, hR⟩
section
variable {P : Program} {n : Nat}
theorem awp_L {c : Code} {Q : Post} {r : Env} {L L' : List Hp} (h : U L = U L') (k : AWp P n c Q r (U L')) : AWp P n c Q r (U L) := by rw [h]; exact k
end
theorem le_tail {A L : List Hp} (hD : Dj (A ++ L)) : HpLe (U L) (U (A ++ L)) := by
  induction A with
  | nil => exact HpLe.refl _
  | cons x A ih => exact (ih hD.2).trans (U_le_tail hD)
/-- Values of one cell. -/
theorem one_rows {α : Type} {enc : α → List Value} (h : ∀ x, ∀ q ∈ enc x, q.oneCell' = true) (l : List α) : ∀ q ∈ rows enc l, q.oneCell' = true := by
  intro q hq
  simp only [rows, List.mem_flatMap] at hq
  obtain ⟨x, _, hx⟩ := hq
  exact h x q hx
theorem encT_one (t : Tm) : ∀ q ∈ encT t, q.oneCell' = true := by
  intro q hq
  simp [encT] at hq
  rcases hq with rfl | rfl <;> rfl
theorem encS_one (s : ByteArray) : ∀ q ∈ encS s, q.oneCell' = true := by
  intro q hq
  simp [encS] at hq
  subst hq; rfl
/-- One new element in a row of its own: what is appended. -/
theorem src_one {α : Type} {enc : α → List Value} {k : Nat} (hk : ∀ x, (enc x).length = k) {m : Hp} {b cap : Nat} {x : α} (h : CellsAt m b 0 (enc x)) : Src m k (.slice (some ⟨b, 0, none⟩) 1 cap) (rows enc [x]) :=
  ⟨_, 1, cap, rfl, by rw [rows_length hk]; rfl, .inr ⟨b, 0, rfl, by rw [rows_one]; exact h⟩⟩
theorem cellsAt_one (b : Nat) (c : Array Value) (e : TypeId) : CellsAt (one b (.cells c e (0, 0))) b 0 c.toList := CellsAt_row _ b c e (0, 0) (one_self _ _)
end Go.As
/- Pieces carved out of a heap that has grown; bytes; the generator's state. -/
set_option linter.unusedVariables false
set_option linter.unusedSimpArgs false
namespace Go.As
open Go Go.RowKit
def diff (F x : Hp) : Hp := fun k => match x k with | none => F k | some _ => none
theorem carve {x F : Hp} (h : HpLe x F) : F = U [x, diff F x] ∧ Dj [x, diff F x] := by
  constructor
  · funext k
    simp only [U, hp0, Option.or_none, diff]
    cases hx : x k with
    | none => simp
    | some o => simp [h k o hx]
  · refine ⟨fun k hk => ?_, Dj_single _⟩
    simp only [U, hp0, Option.or_none, diff]
    cases hx : x k with
    | none => exact absurd hx hk
    | some o => rfl
theorem diff_le {m x F : Hp} (h : HpLe m F) (hd : Dj [x, m]) : HpLe m (diff F x) := fun k o hk => by
  have := hd.1 k
  cases hx : x k with
  | none => simp only [diff, hx]; exact h k o hk
  | some q =>
    have h2 := this (by simp [hx])
    simp [U, hp0, hk] at h2
/-- Pieces keep their place when one of them grows. -/
theorem U_le2 {x F F' : Hp} (h : HpLe F F') : HpLe (U [x, F]) (U [x, F']) := fun k o hk => by
  simp only [U, hp0, Option.or_none] at hk ⊢
  cases hx : x k with
  | some q => simp only [hx, Option.some_or] at hk ⊢; exact hk
  | none => simp only [hx, Option.none_or] at hk ⊢; exact h k o hk
def encB (b : UInt8) : List Value := [.int .u8 (b.toNat : Int)]
theorem encB_len (b : UInt8) : (encB b).length = 1 := rfl
/-- The generator's state: bytes to come, and the place. -/
def Cod (mb : Hp) (p : Nat) (T : TypeId) (c : Hp) : Prop := ∃ A cap at_ l, c = one p (.cells #[.slice A (List.length l) cap, .int .i64 (at_ : Nat)] T (0, 0)) ∧ at_ ≤ l.length ∧ l.length ≤ 1099511627776 ∧ RdSl mb encB 1 (.slice A l.length cap) l
def CodH (mb : Hp) (p : Nat) (T : TypeId) (F m : Hp) : Prop := ∃ c, Cod mb p T c ∧ Dj [c, F] ∧ m = U [c, F] ∧ HpLe mb F
theorem CodH.le {mb : Hp} {p : Nat} {T : TypeId} {F m : Hp} (h : CodH mb p T F m) : HpLe F m := by
  obtain ⟨c, _, hD, rfl, _⟩ := h
  exact le_at 1 hD rfl
/-- A new piece joins what lies beside the state. -/
theorem CodH.add {mb x : Hp} {p : Nat} {T : TypeId} {F m : Hp} (h : CodH mb p T F m) (hD : Dj [x, m]) : CodH mb p T (U [x, F]) (U [x, m]) ∧ Dj [x, F] := by
  obtain ⟨c, hc, hD1, rfl, hb⟩ := h
  have h2 : Dj ([x] ++ [c, F]) := Dj_flat (A := [x]) hD hD1
  obtain ⟨e1, h3⟩ := U_swap 0 h2
  have h4 : Dj [x, F] := Dj_tail (A := [c]) h3
  refine ⟨⟨c, hc, Dj_unflat (A := [c]) (L := [x, F]) h3, ?_, hb.trans (le_at 1 h4 rfl)⟩, h4⟩
  rw [show U [x, U [c, F]] = U ([x] ++ [U [c, F]]) from rfl, U_flat [x] [c, F], show U [c, U [x, F]] = U ([c] ++ [U [x, F]]) from rfl, U_flat [c] [x, F]]
  exact e1
theorem rows_encS : ∀ ss : List ByteArray, rows encS ss = ss.map Value.string
  | [] => rfl
  | x :: l => by rw [rows_cons, rows_encS l]; rfl
theorem RdSl.take {α : Type} {enc : α → List Value} {k : Nat} (hk : ∀ x, (enc x).length = k) (h0 : 0 < k) {m : Hp} {A : Option Addr} {cap : Nat} {l : List α} {n : Nat} (h : RdSl m enc k (.slice A n cap) l) {j : Nat} (hj : j ≤ l.length) (cap' : Nat) : RdSl m enc k (.slice A j cap') (l.take j) := by
  obtain ⟨A', c', e, hc⟩ := RdSl.form hk h0 h
  simp only [Value.slice.injEq] at e
  obtain ⟨rfl, rfl, rfl⟩ := e
  refine ⟨A, j, cap', rfl, by rw [rows_length hk]; simp [Nat.min_eq_left hj], ?_⟩
  rcases hc with rfl | ⟨b, off, rfl, hC⟩
  · left; simpa using hj
  · refine .inr ⟨b, off, rfl, CellsAt.of_get fun q v hq => hC.get q v ?_⟩
    have e : rows enc l = rows enc (l.take j) ++ rows enc (l.drop j) := by rw [← rows_append, List.take_append_drop]
    rw [e, List.getElem?_append_left (List.getElem?_eq_some_iff.1 hq).1]
    exact hq
theorem CodH.split {mb x F F' m : Hp} {p : Nat} {T : TypeId} (h : CodH mb p T F' m) (hl : HpLe (U [x, F]) F') (hD : Dj [x, F]) : ∃ F'', HpLe F F'' ∧ Dj [x, F''] ∧ CodH mb p T (U [x, F'']) m := by
  obtain ⟨e, hd⟩ := carve (x := x) (F := F') (U_le_head.trans hl)
  refine ⟨diff F' x, diff_le ((le_at 1 hD rfl).trans hl) hD, hd, ?_⟩
  rw [← e]
  exact h
theorem CodH.out {mb x F m : Hp} {p : Nat} {T : TypeId} (h : CodH mb p T (U [x, F]) m) (hD : Dj [x, F]) : ∃ c, Cod mb p T c ∧ m = U [c, x, F] ∧ Dj [c, x, F] := by
  obtain ⟨c, hc, h1, rfl, _⟩ := h
  exact ⟨c, hc, U_flat [c] [x, F], Dj_flat (A := [c]) (L := [x, F]) h1 hD⟩
theorem CodH.back {mb x F c : Hp} {p : Nat} {T : TypeId} (hc : Cod mb p T c) (hD : Dj [c, x, F]) (hl : HpLe mb F) : CodH mb p T (U [x, F]) (U [c, x, F]) ∧ Dj [x, F] :=
  ⟨⟨c, hc, Dj_unflat (A := [c]) (L := [x, F]) hD, (U_flat [c] [x, F]).symm, hl.trans (le_at 1 (Dj_tail (A := [c]) hD) rfl)⟩, Dj_tail (A := [c]) hD⟩
theorem rig_sgtr {P : Program} {r : Env} {m : Hp} {o : Oper} {T T' : TypeId} {x y : Operand} {s t : ByteArray} (h : o.op = .binOp .gtr T x y T') (ex : ev r x = some (.string s)) (ey : ev r y = some (.string t)) : Rig P o r m (.bool (!(Op.bytesLess s.toList t.toList || decide (s = t)))) := rig_val fun n sg a w hf hs => by
  have : (s.toList == t.toList) = decide (s = t) := by
    rw [Bool.eq_iff_iff]
    simp only [beq_iff_eq, decide_eq_true_eq, bytes_toList]
    exact ⟨fun h => by cases s; cases t; simpa [ByteArray.ext_iff, Array.toList_inj] using h, fun h => by rw [h]⟩
  simp only [execOp, h, hf.eval ex, hf.eval ey]
  simp [eqGuard_at_string, binOp, Op.stringOp, this]
theorem rig_shr {P : Program} {r : Env} {m : Hp} {o : Oper} {T T' : TypeId} {x y : Operand} {k k' : IntKind} {z c : Int} (h : o.op = .binOp .shr T x y T') (ex : ev r x = some (.int k z)) (ey : ev r y = some (.int k' 1)) (hb : 1 ≤ k.bits) (hc : z.fdiv 2 = c) : Rig P o r m (.int k c) := rig_val fun n sg a w hf hs => by
  have : min 1 k.bits = 1 := by omega
  simp [execOp, h, hf.eval ex, hf.eval ey, binOp, eqGuard_at_int, Op.shift, this, hc]
end Go.As
/- The comparisons, in the strict copy of the logic (slices.SortFunc asks that no draw is taken back). -/
set_option linter.unusedVariables false
namespace Go.Proofs.Ytbonkkbpjlikjaa.Q
open Go Go.As Go.Pl Go.RowKit
def orInts (m : Hp) (v : Value) (l : List Int) : Prop := RdSl m (fun i => [Value.int .i64 i]) 1 v l
theorem encI_len (i : Int) : ((fun i => [Value.int .i64 i]) i : List Value).length = 1 := rfl
theorem e52 : Enters Try.prog 52 := enters_of Try.func52 (by kernel_rfl) rfl
theorem F52 (m : Hp) (x : Int) : RC Try.prog 52 #[.int .i64 x] m (.bool false) := by
  refine rc_of_gc fun m1 hm => gc_intro (vs := [_]) Try.func52 rfl Try.ntmps52 (by simp) ?_
  refine awp_rs (ao_r (rig_assign rfl rfl) rfl (ao_nil ?_))
  refine awp_rs (ao_r (rig_move rfl rfl) rfl (ao_r (rig_move rfl rfl) rfl (ao_r (rig_neq rfl rfl rfl) rfl (ao_r (rig_assign rfl rfl) rfl (ao_nil ?_)))))
  exact awp_ret ⟨_, res1 Try.results52 rfl, by simp, HpLe.refl _⟩
theorem e35 : Enters Try.prog 35 := enters_of Try.func35 (by kernel_rfl) rfl
set_option maxRecDepth 100000 in
theorem F35 (m : Hp) (x y : Int) : RC Try.prog 35 #[.int .i64 x, .int .i64 y] m (.int .i64 (cmpI x y)) := by
  refine rc_of_gc fun m1 hm => gc_intro (vs := [_, _]) Try.func35 rfl Try.ntmps35 (by simp) ?_
  refine awp_rs (ao_r (rig_assign rfl rfl) rfl (ao_nil ?_))
  refine awp_rs (ao_r (rig_move rfl rfl) rfl (ao_r (rig_call rfl rfl e52 (F52 _ x)) rfl (ao_r (rig_assign rfl rfl) rfl (ao_nil ?_))))
  refine awp_rs (ao_r (rig_move rfl rfl) rfl (ao_r (rig_call rfl rfl e52 (F52 _ y)) rfl (ao_r (rig_assign rfl rfl) rfl (ao_nil ?_))))
  refine awp_sk fun K1 hK1 => awp_rs (ao_r (rig_move rfl rfl) rfl (ao_nil ?_))
  refine awp_false rfl (awp_skip (hK1 _ _ ?_))
  refine awp_sk fun K3 hK3 => awp_rs (ao_r (rig_move rfl rfl) rfl (ao_nil ?_))
  refine awp_false rfl (awp_skip (hK3 _ _ ?_))
  refine awp_sk fun K4 hK4 => awp_rs (ao_r (rig_move rfl rfl) rfl (ao_r (rig_move rfl rfl) rfl (ao_r (rig_lss rfl rfl rfl) rfl (ao_nil ?_))))
  refine awp_cond rfl (fun h => ?_) (fun h => ?_)
  · refine awp_rs (ao_r (rig_assign rfl rfl) rfl (ao_nil ?_))
    refine awp_ret ⟨_, res1 Try.results35 rfl, ?_, HpLe.refl _⟩
    rw [cmpI, if_pos (of_decide_eq_true h)]
  · refine awp_skip (hK4 _ _ ?_)
    refine awp_sk fun K5 hK5 => awp_rs (ao_r (rig_move rfl rfl) rfl (ao_r (rig_move rfl rfl) rfl (ao_r (rig_gtr rfl rfl rfl) rfl (ao_nil ?_))))
    refine awp_cond rfl (fun h2 => ?_) (fun h2 => ?_)
    · refine awp_rs (ao_r (rig_assign rfl rfl) rfl (ao_nil ?_))
      refine awp_ret ⟨_, res1 Try.results35 rfl, ?_, HpLe.refl _⟩
      rw [cmpI, if_neg (of_decide_eq_false h), if_pos (of_decide_eq_true h2)]
    · refine awp_skip (hK5 _ _ (awp_rs (ao_r (rig_assign rfl rfl) rfl (ao_nil ?_))))
      refine awp_ret ⟨_, res1 Try.results35 rfl, ?_, HpLe.refl _⟩
      rw [cmpI, if_neg (of_decide_eq_false h), if_neg (of_decide_eq_false h2)]
theorem orI_drop {l : List Int} {i : Nat} {x : Int} (hx : l[i]? = some x) : orI (l.drop i) = if x = 0 then orI (l.drop (i + 1)) else x := by
  rw [List.drop_eq_getElem_cons (List.getElem?_eq_some_iff.1 hx).1, (List.getElem?_eq_some_iff.1 hx).2]; rfl
theorem e34 : Enters Try.prog 34 := enters_of Try.func34 (by kernel_rfl) rfl
set_option maxRecDepth 100000 in
theorem F34 (m : Hp) (va : Value) (l : List Int) (ha : orInts m va l) (hl : l.length ≤ 1099511627776) : RC Try.prog 34 #[va] m (.int .i64 (orI l)) := by
  obtain ⟨A, ca, rfl, _⟩ := RdSl.form encI_len (by decide) ha
  refine rc_of_gc fun m1 hm => gc_intro (vs := [_]) Try.func34 rfl Try.ntmps34 (by simp) ?_
  have ha' := RdSl.le ha hm
  refine awp_rs (ao_r (rig_assign rfl rfl) rfl (ao_nil ?_))
  refine awp_rs (ao_r (rig_assign rfl rfl) rfl (ao_nil ?_))
  refine awp_sk fun K6 hK6 => awp_rs ?_
  refine ao_r (rig_move rfl rfl) rfl (ao_r (rig_lenSl rfl rfl Try.underlying28) rfl (ao_r (rig_move rfl rfl) rfl (ao_nil ?_)))
  refine awp_block ?_
  refine awp_le [(3, .int .i64 0), (6, .slice A l.length ca), (7, .int .i64 l.length), (8, .int .i64 (0 : Nat))] ⟨rfl, rfl, rfl, rfl, trivial⟩ ?_
  refine awp_loop (fun k r mm => ∃ i : Nat, i ≤ l.length ∧ k = l.length - i ∧ r = [(3, .int .i64 0), (6, .slice A l.length ca), (7, .int .i64 l.length), (8, .int .i64 i)] ∧ mm = m1 ∧ orI l = orI (l.drop i)) _ ⟨0, by omega, rfl, rfl, rfl, rfl⟩ ?_
  rintro k r mm ⟨i, hi, rfl, rfl, rfl, hj⟩
  refine awp_rs (ao_r (rig_lss rfl rfl rfl) rfl (ao_nil ?_))
  refine awp_sk fun K7 hK7 => ?_
  refine awp_if rfl (fun h => ?_) (fun h => ?_)
  · refine awp_skip (hK7 _ _ (awp_sk fun K8 hK8 => awp_block (awp_rs ?_)))
    obtain ⟨x, hx⟩ := get_lt (l := l) (i := i) (by omega)
    obtain ⟨A', cap', e, hrc⟩ := RdSl.form encI_len (by decide) ha'
    simp only [Value.slice.injEq] at e
    obtain ⟨rfl, _, rfl⟩ := e
    obtain ⟨b, off, rfl, hC⟩ := hrc.resolve_left (fun e => by rw [e] at h; simp at h; omega)
    have hxc : cell mm b (off + i * 1) = some (.int .i64 x) := (hC.elem encI_len hx).1
    rw [orI_drop hx] at hj
    refine ao_r (rig_ix i rfl rfl rfl Try.underlying28 Try.sizeOf3 rfl rfl (by omega)) rfl (ao_r (rig_load1 rfl rfl Try.isAgg3 hxc) rfl (ao_r (rig_assign rfl rfl) rfl (ao_nil ?_)))
    refine awp_rs (ao_r (rig_move rfl rfl) rfl (ao_r (rig_move rfl rfl) rfl (ao_r (rig_neq rfl rfl rfl) rfl (ao_nil ?_))))
    refine awp_ifn rfl (fun h3 => ?_) (fun h3 => ?_)
    · refine awp_rs (ao_r (rig_move rfl rfl) rfl (ao_r (rig_assign rfl rfl) rfl (ao_nil ?_)))
      refine awp_ret ⟨_, res1 Try.results34 rfl, ?_, HpLe.refl _⟩
      rw [hj, if_neg h3]
    · refine awp_skip (hK8 _ _ (awp_region ?_))
      refine ao_r (rig_add rfl rfl rfl (w64 _ (by omega) (by omega))) rfl (ao_r (rig_move rfl rfl) rfl (ao_nil ?_))
      exact ⟨[(3, .int .i64 0), (6, .slice _ l.length _), (7, .int .i64 l.length), (8, .int .i64 (i + 1 : Nat))], _, ⟨rfl, rfl, rfl, rfl, trivial⟩, by omega, i + 1, by omega, rfl, rfl, rfl, by rw [hj, if_pos h3]⟩
  · refine awp_exit (hK6 _ _ (awp_rs (ao_r (rig_move rfl rfl) rfl (ao_r (rig_assign rfl rfl) rfl (ao_nil ?_)))))
    refine awp_ret ⟨_, res1 Try.results34 rfl, ?_, HpLe.refl _⟩
    rw [hj, List.drop_of_length_le (by omega)]; rfl
theorem e33 : Enters Try.prog 33 := enters_of Try.func33 (by kernel_rfl) rfl
set_option maxRecDepth 100000 in
theorem F33 (m : Hp) (af ai as_ bf bi bs : Int) : RC Try.prog 33 #[.agg #[.int .i64 af, .int .i64 ai, .int .i64 as_], .agg #[.int .i64 bf, .int .i64 bi, .int .i64 bs]] m (.int .i64 (orI [cmpI af bf, cmpI bs as_, cmpI ai bi])) := by
  refine rc_of_gc fun m1 hm => gc_intro (vs := [_, _]) Try.func33 rfl Try.ntmps33 (by simp) ?_
  refine awp_rs ?_
  refine ao_x (ex_boxR rfl rfl) rfl fun v m2 ⟨p2, hv, hl2, hc2⟩ => ?_
  subst hv
  refine ao_x (ex_boxR rfl rfl) rfl fun v m3 ⟨p3, hv, hl3, hc3⟩ => ?_
  subst hv
  obtain ⟨a0, a1, a2, _⟩ := hc2.le hl3
  obtain ⟨b0, b1, b2, _⟩ := hc3
  have hle : HpLe m1 m3 := hl2.trans hl3
  refine ao_r (rig_assign rfl rfl) rfl (ao_nil ?_)
  rw [U_one m3]
  rw [U_one m3] at a0 a1 a2 b0 b1 b2
  refine awp_ds (.q 0 (.q 1 (.q 2 (.q 3 (.q 4 (.q 5 (.q 6 (.q 7 (.q 8 (.q 9 (.q 10 (.q 11 (.q 12 (.q 13 (.q 14 (.s 15 (.q 16 (.q 17 .fin)))))))))))))))))) [] (by kernel_rfl) (by kernel_rfl) ?_
  refine oq rfl (rig_fieldAddr rfl rfl Try.underlying45 rfl Try.sizeOf3 rfl) rfl (oq rfl (rig_load1 rfl rfl Try.isAgg3 a0) rfl (oq rfl (rig_fieldAddr rfl rfl Try.underlying45 rfl Try.sizeOf3 rfl) rfl (oq rfl (rig_load1 rfl rfl Try.isAgg3 b0) rfl (oq rfl (rig_call rfl rfl e35 (F35 _ _ _)) rfl ?_))))
  refine oq rfl (rig_fieldAddr rfl rfl Try.underlying45 rfl Try.sizeOf3 rfl) rfl (oq rfl (rig_load1 rfl rfl Try.isAgg3 b2) rfl (oq rfl (rig_fieldAddr rfl rfl Try.underlying45 rfl Try.sizeOf3 rfl) rfl (oq rfl (rig_load1 rfl rfl Try.isAgg3 a2) rfl (oq rfl (rig_call rfl rfl e35 (F35 _ _ _)) rfl ?_))))
  refine oq rfl (rig_fieldAddr rfl rfl Try.underlying45 rfl Try.sizeOf3 rfl) rfl (oq rfl (rig_load1 rfl rfl Try.isAgg3 a1) rfl (oq rfl (rig_fieldAddr rfl rfl Try.underlying45 rfl Try.sizeOf3 rfl) rfl (oq rfl (rig_load1 rfl rfl Try.isAgg3 b1) rfl (oq rfl (rig_call rfl rfl e35 (F35 _ _ _)) rfl ?_))))
  refine os rfl (ex_buildSlice (cs := #[.int .i64 (cmpI af bf), .int .i64 (cmpI bs as_), .int .i64 (cmpI ai bi)]) rfl (Dj_single m3) rfl Try.underlying28 Try.sizeOf3 Try.zeroValue3 (by decide) (by decide) (by kernel_rfl)) rfl fun w2 m4 ⟨b2, hw2, hm4, hD2⟩ => ⟨fun _ => by subst hm4; exact U_le_tail hD2, ?_⟩
  subst hw2 hm4
  have ho : orInts (U [one b2 (.cells #[.int .i64 (cmpI af bf), .int .i64 (cmpI bs as_), .int .i64 (cmpI ai bi)] 3 (0, 0)), m3]) (.slice (some ⟨b2, 0, none⟩) 3 3) [cmpI af bf, cmpI bs as_, cmpI ai bi] :=
    ⟨_, 3, 3, rfl, rfl, .inr ⟨b2, 0, rfl, (cellsAt_one b2 _ 3).le U_le_head⟩⟩
  refine oq rfl (rig_call rfl rfl e34 (F34 _ _ _ ho (by simp))) rfl (oq rfl (rig_assign rfl rfl) rfl (od_fin ?_))
  exact awp_ret ⟨_, res1 Try.results33 rfl, rfl, hle.trans (le_at 1 hD2 rfl)⟩
end Go.Proofs.Ytbonkkbpjlikjaa.Q
