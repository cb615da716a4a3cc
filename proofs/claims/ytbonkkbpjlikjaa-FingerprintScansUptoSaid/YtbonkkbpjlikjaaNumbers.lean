/- Chapter 8: Number, both. -/
import Derived.Test.YtbonkkbpjlikjaaDrawing
import Derived.Test.YtbonkkbpjlikjaaPlain
set_option linter.unusedVariables false
set_option linter.unusedSimpArgs false
namespace Go.Aw
open Go Go.RowKit
def hashS (h : Nat) (b : UInt8) : Nat := (h * 257 + b.toNat + 1) % 2147483647
def hashN (l : List UInt8) : Nat := l.foldl hashS 0
def numOk (n : Nat) (size : Int) : Bool := !((decide (size < 1) || decide (64 < size)) || decide ((n : Int) < size))
def numV (l : List UInt8) (size : Int) : Int := if numOk l.length size then (hashN (l.take size.toNat) : Nat) else 0
theorem hashN_lt (l : List UInt8) : hashN l < 2147483647 := by
  have : ∀ (l : List UInt8) (h : Nat), h < 2147483647 → l.foldl hashS h < 2147483647 := by
    intro l
    induction l with
    | nil => intro h hh; exact hh
    | cons x l ih => intro h hh; exact ih _ (Nat.mod_lt _ (by decide))
  exact this l 0 (by decide)
theorem hashN_take {l : List UInt8} {i : Nat} {b : UInt8} (h : l[i]? = some b) : hashN (l.take (i + 1)) = hashS (hashN (l.take i)) b := by
  rw [takeS h, hashN, List.foldl_append]; rfl
theorem numOk_spec {n : Nat} {size : Int} (h : numOk n size = true) : 1 ≤ size ∧ size ≤ 64 ∧ size ≤ n := by
  simp [numOk] at h; omega
end Go.Aw
namespace Go.Proofs.Ytbonkkbpjlikjaa
open Go Go.Aw Go.RowKit
theorem e37 : Enters Try.prog 37 := enters_of Try.func37 (by kernel_rfl) rfl
set_option maxRecDepth 100000 in
theorem F37 (m : Hp) (v : Value) (l : List UInt8) (size : Int) (hv : RdSl m encB 1 v l) (hl : l.length ≤ 1099511627776) : RC Try.prog 37 #[v, .int .i64 size] m (.tuple #[.int .i64 (numV l size), .bool (numOk l.length size)]) := by
  obtain ⟨A, cap, rfl, _⟩ := RdSl.form encB_len (by decide) hv
  refine rc_of_gc fun m1 hm => gc_intro (vs := [_, _]) Try.func37 rfl Try.ntmps37 (by simp) ?_
  refine awp_rs (ao_r (rig_assign rfl rfl) rfl (ao_r (rig_assign rfl rfl) rfl (ao_nil ?_)))
  refine awp_sk fun K1 hK1 => ?_
  refine awp_mid (fun r m' => r = [(0, .slice A l.length cap), (1, .int .i64 size), (19, .bool (!numOk l.length size))] ∧ m1 = m') (awp_region ?_) ?_
  · refine ao_r (rig_move rfl rfl) rfl (ao_r (rig_lss rfl rfl rfl) rfl (ao_r (rig_move rfl rfl) rfl ?_))
    cases h1 : decide (size < 1) with
    | true =>
      refine ao_no rfl rfl rfl rfl (ao_no rfl rfl rfl rfl (ao_r (rig_pickT rfl rfl rfl) rfl (ao_r (rig_move rfl rfl) rfl (ao_no rfl rfl rfl rfl (ao_no rfl rfl rfl rfl (ao_no rfl rfl rfl rfl (ao_no rfl rfl rfl rfl (ao_r (rig_pickT rfl rfl rfl) rfl (ao_nil ?_)))))))))
      exact ⟨[(0, .slice A l.length cap), (1, .int .i64 size), (19, .bool true)], ⟨rfl, rfl, rfl, trivial⟩, by simp only [numOk, h1]; rfl, rfl⟩
    | false =>
      refine ao_on rfl rfl (ao_r (rig_move rfl rfl) rfl (ao_on rfl rfl (ao_r (rig_gtr rfl rfl rfl) rfl (ao_r (rig_pickF rfl rfl rfl) rfl (ao_r (rig_move rfl rfl) rfl ?_)))))
      cases h2 : decide (64 < size) with
      | true =>
        refine ao_no rfl rfl rfl rfl (ao_no rfl rfl rfl rfl (ao_no rfl rfl rfl rfl (ao_no rfl rfl rfl rfl (ao_r (rig_pickT rfl rfl rfl) rfl (ao_nil ?_)))))
        exact ⟨[(0, .slice A l.length cap), (1, .int .i64 size), (19, .bool true)], ⟨rfl, rfl, rfl, trivial⟩, by simp only [numOk, h1, h2]; rfl, rfl⟩
      | false =>
        refine ao_on rfl rfl (ao_r (rig_move rfl rfl) rfl (ao_on rfl rfl (ao_r (rig_lenSl rfl rfl Try.underlying22) rfl (ao_on rfl rfl (ao_r (rig_move rfl rfl) rfl (ao_on rfl rfl (ao_r (rig_lss rfl rfl rfl) rfl (ao_r (rig_pickF rfl rfl rfl) rfl (ao_nil ?_)))))))))
        exact ⟨[(0, .slice A l.length cap), (1, .int .i64 size), (19, .bool (decide ((l.length : Int) < size)))], ⟨rfl, rfl, rfl, trivial⟩, by simp only [numOk, h1, h2]; simp, rfl⟩
  rintro r m' ⟨rfl, rfl⟩
  refine awp_cond rfl (fun h => ?_) (fun h => ?_)
  · have hf : numOk l.length size = false := by simpa using h
    refine awp_rs (ao_r (rig_assign rfl rfl) rfl (ao_r (rig_assign rfl rfl) rfl (ao_nil ?_)))
    exact awp_ret ⟨_, res2 Try.results37 rfl rfl, by rw [numV, hf]; rfl, HpLe.refl _⟩
  have hok : numOk l.length size = true := by simpa using h
  obtain ⟨hs1, hs2, hs3⟩ := numOk_spec hok
  obtain ⟨k, rfl⟩ : ∃ k : Nat, size = k := ⟨size.toNat, by omega⟩
  refine awp_skip (hK1 _ _ (awp_rs (ao_r (rig_assign rfl rfl) rfl (ao_nil ?_))))
  refine awp_sk fun K2 hK2 => awp_rs (ao_r (rig_assign rfl rfl) rfl (ao_nil ?_))
  refine awp_block ?_
  refine awp_le [(0, .slice A l.length cap), (1, .int .i64 k), (6, .int .i64 (hashN (l.take 0) : Nat)), (7, .int .i64 (0 : Nat))] ⟨rfl, rfl, rfl, rfl, trivial⟩ ?_
  refine awp_loop (fun n r mm => ∃ i : Nat, i ≤ k ∧ n = k - i ∧ r = [(0, .slice A l.length cap), (1, .int .i64 k), (6, .int .i64 (hashN (l.take i) : Nat)), (7, .int .i64 i)] ∧ m1 = mm) k ⟨0, by omega, rfl, rfl, rfl⟩ ?_
  rintro n r mm ⟨i, hi, rfl, rfl, rfl⟩
  refine awp_sk fun K3 hK3 => awp_rs (ao_r (rig_move rfl rfl) rfl (ao_r (rig_move rfl rfl) rfl (ao_r (rig_lss rfl rfl rfl) rfl (ao_nil ?_))))
  refine awp_if rfl (fun h2 => ?_) (fun h2 => ?_)
  · obtain ⟨b, hb⟩ := get_lt (l := l) (i := i) (by omega)
    obtain ⟨bb, off, cap', e, hbc⟩ := RdSl.get_ encB_len (by decide) (RdSl.le hv hm) hb
    simp only [Value.slice.injEq] at e
    obtain ⟨rfl, _, rfl⟩ := e
    have hh := hashN_lt (l.take i)
    have hbl := b.toNat_lt
    have hnext := hashN_take hb
    refine awp_skip (hK3 _ _ (awp_sk fun K4 hK4 => awp_block (awp_region ?_)))
    refine ao_r (rig_move rfl rfl) rfl (ao_r (rig_mul (c := ((hashN (l.take i) * 257 : Nat) : Int)) rfl rfl rfl (by rw [show ((hashN (l.take i) : Nat) : Int) * 257 = ((hashN (l.take i) * 257 : Nat) : Int) by omega]; exact w64 _ (by omega) (by omega))) rfl ?_)
    refine ao_r (rig_move rfl rfl) rfl (ao_r (rig_move rfl rfl) rfl (ao_r (rig_ix i rfl rfl rfl Try.underlying22 Try.sizeOf5 rfl rfl (by omega)) rfl (ao_r (rig_load1 rfl rfl Try.isAgg5 hbc.1) rfl (ao_r (rig_convInt (c := (b.toNat : Int)) rfl rfl Try.underlying5 Try.underlying3 (w64 _ (by omega) (by omega))) rfl ?_))))
    refine ao_r (rig_add (c := ((hashN (l.take i) * 257 + b.toNat : Nat) : Int)) rfl rfl rfl (by rw [show ((hashN (l.take i) * 257 : Nat) : Int) + (b.toNat : Int) = ((hashN (l.take i) * 257 + b.toNat : Nat) : Int) by omega]; exact w64 _ (by omega) (by omega))) rfl ?_
    refine ao_r (rig_add (c := ((hashN (l.take i) * 257 + b.toNat + 1 : Nat) : Int)) rfl rfl rfl (by rw [show ((hashN (l.take i) * 257 + b.toNat : Nat) : Int) + 1 = ((hashN (l.take i) * 257 + b.toNat + 1 : Nat) : Int) by omega]; exact w64 _ (by omega) (by omega))) rfl ?_
    refine ao_r (rig_rem (c := ((hashN (l.take (i + 1)) : Nat) : Int)) rfl rfl rfl (by decide) (by rw [hnext, hashS]; rfl)) rfl (ao_r (rig_assign rfl rfl) rfl (ao_nil ?_))
    refine hK4 _ _ (awp_region (ao_r (rig_move rfl rfl) rfl (ao_r (rig_add (c := ((i + 1 : Nat) : Int)) rfl rfl rfl (w64 _ (by omega) (by omega))) rfl (ao_r (rig_assign rfl rfl) rfl (ao_nil ?_)))))
    exact ⟨[(0, .slice (some ⟨bb, off, none⟩) l.length cap), (1, .int .i64 k), (6, .int .i64 (hashN (l.take (i + 1)) : Nat)), (7, .int .i64 (i + 1 : Nat))], _, ⟨rfl, rfl, rfl, rfl, trivial⟩, by omega, i + 1, by omega, rfl, rfl, rfl⟩
  · obtain rfl : i = k := by omega
    refine awp_exit (hK2 _ _ (awp_rs (ao_r (rig_move rfl rfl) rfl (ao_r (rig_assign rfl rfl) rfl (ao_r (rig_assign rfl rfl) rfl (ao_nil ?_))))))
    exact awp_ret ⟨_, res2 Try.results37 rfl rfl, by rw [numV, hok]; rfl, HpLe.refl _⟩
theorem e16 : Enters Try.prog 16 := enters_of Try.func16 (by kernel_rfl) rfl
set_option maxRecDepth 100000 in
theorem F16 (m : Hp) (v : Value) (l : List UInt8) (size : Int) (hv : RdSl m encB 1 v l) (hl : l.length ≤ 1099511627776) (hcap : ∀ A cap, v = .slice A l.length cap → l.length ≤ cap) : RC Try.prog 16 #[v, .int .i64 size] m (.tuple #[.int .i64 (numV l size), .bool (numOk l.length size)]) := by
  obtain ⟨A, cap, rfl, _⟩ := RdSl.form encB_len (by decide) hv
  have hcap := hcap A cap rfl
  refine rc_of_gc fun m1 hm => gc_intro (vs := [_, _]) Try.func16 rfl Try.ntmps16 (by simp) ?_
  refine awp_rs (ao_r (rig_assign rfl rfl) rfl (ao_r (rig_assign rfl rfl) rfl (ao_nil ?_)))
  refine awp_sk fun K1 hK1 => ?_
  refine awp_mid (fun r m' => r = [(0, .slice A l.length cap), (1, .int .i64 size), (20, .bool (!numOk l.length size))] ∧ m1 = m') (awp_region ?_) ?_
  · refine ao_r (rig_move rfl rfl) rfl (ao_r (rig_lss rfl rfl rfl) rfl (ao_r (rig_move rfl rfl) rfl ?_))
    cases h1 : decide (size < 1) with
    | true =>
      refine ao_no rfl rfl rfl rfl (ao_no rfl rfl rfl rfl (ao_r (rig_pickT rfl rfl rfl) rfl (ao_r (rig_move rfl rfl) rfl (ao_no rfl rfl rfl rfl (ao_no rfl rfl rfl rfl (ao_no rfl rfl rfl rfl (ao_no rfl rfl rfl rfl (ao_r (rig_pickT rfl rfl rfl) rfl (ao_nil ?_)))))))))
      exact ⟨[(0, .slice A l.length cap), (1, .int .i64 size), (20, .bool true)], ⟨rfl, rfl, rfl, trivial⟩, by simp only [numOk, h1]; rfl, rfl⟩
    | false =>
      refine ao_on rfl rfl (ao_r (rig_move rfl rfl) rfl (ao_on rfl rfl (ao_r (rig_gtr rfl rfl rfl) rfl (ao_r (rig_pickF rfl rfl rfl) rfl (ao_r (rig_move rfl rfl) rfl ?_)))))
      cases h2 : decide (64 < size) with
      | true =>
        refine ao_no rfl rfl rfl rfl (ao_no rfl rfl rfl rfl (ao_no rfl rfl rfl rfl (ao_no rfl rfl rfl rfl (ao_r (rig_pickT rfl rfl rfl) rfl (ao_nil ?_)))))
        exact ⟨[(0, .slice A l.length cap), (1, .int .i64 size), (20, .bool true)], ⟨rfl, rfl, rfl, trivial⟩, by simp only [numOk, h1, h2]; rfl, rfl⟩
      | false =>
        refine ao_on rfl rfl (ao_r (rig_move rfl rfl) rfl (ao_on rfl rfl (ao_r (rig_lenSl rfl rfl Try.underlying22) rfl (ao_on rfl rfl (ao_r (rig_move rfl rfl) rfl (ao_on rfl rfl (ao_r (rig_lss rfl rfl rfl) rfl (ao_r (rig_pickF rfl rfl rfl) rfl (ao_nil ?_)))))))))
        exact ⟨[(0, .slice A l.length cap), (1, .int .i64 size), (20, .bool (decide ((l.length : Int) < size)))], ⟨rfl, rfl, rfl, trivial⟩, by simp only [numOk, h1, h2]; simp, rfl⟩
  rintro r m' ⟨rfl, rfl⟩
  refine awp_cond rfl (fun h => ?_) (fun h => ?_)
  · have hf : numOk l.length size = false := by simpa using h
    refine awp_rs (ao_r (rig_assign rfl rfl) rfl (ao_r (rig_assign rfl rfl) rfl (ao_nil ?_)))
    exact awp_ret ⟨_, res2 Try.results16 rfl rfl, by rw [numV, hf]; rfl, HpLe.refl _⟩
  have hok : numOk l.length size = true := by simpa using h
  obtain ⟨hs1, hs2, hs3⟩ := numOk_spec hok
  obtain ⟨k, rfl⟩ : ∃ k : Nat, size = k := ⟨size.toNat, by omega⟩
  refine awp_skip (hK1 _ _ (awp_rs (ao_r (rig_assign rfl rfl) rfl (ao_nil ?_))))
  have hvk : RdSl m encB 1 (.slice A k cap) (l.take k) := RdSl.take encB_len (by decide) hv (by omega) cap
  refine awp_sk fun K2 hK2 => awp_rs (ao_r (rig_move rfl rfl) rfl (ao_r (rig_move rfl rfl) rfl (ao_r (rig_slH k rfl rfl rfl Try.underlying22 Try.sizeOf5 rfl (by omega)) rfl (ao_r (rig_lenSl rfl rfl Try.underlying22) rfl (ao_r (rig_move rfl rfl) rfl (ao_nil ?_))))))
  refine awp_block ?_
  refine awp_le [(6, .int .i64 (hashN (l.take 0) : Nat)), (23, .slice A k cap), (24, .int .i64 k), (25, .int .i64 (0 : Nat))] ⟨rfl, rfl, rfl, rfl, trivial⟩ ?_
  refine awp_loop (fun n r mm => ∃ i : Nat, i ≤ k ∧ n = k - i ∧ r = [(6, .int .i64 (hashN (l.take i) : Nat)), (23, .slice A k cap), (24, .int .i64 k), (25, .int .i64 i)] ∧ m1 = mm) k ⟨0, by omega, rfl, rfl, rfl⟩ ?_
  rintro n r mm ⟨i, hi, rfl, rfl, rfl⟩
  refine awp_rs (ao_r (rig_lss rfl rfl rfl) rfl (ao_nil ?_))
  refine awp_sk fun K3 hK3 => ?_
  refine awp_if rfl (fun h2 => ?_) (fun h2 => ?_)
  · obtain ⟨b, hb⟩ := get_lt (l := l) (i := i) (by omega)
    obtain ⟨bb, off, cap', e, hbc⟩ := RdSl.get_ encB_len (by decide) (RdSl.le hv hm) hb
    simp only [Value.slice.injEq] at e
    obtain ⟨rfl, _, rfl⟩ := e
    have hh := hashN_lt (l.take i)
    have hbl := b.toNat_lt
    have hnext := hashN_take hb
    refine awp_skip (hK3 _ _ (awp_sk fun K4 hK4 => awp_block (awp_rs ?_)))
    refine ao_r (rig_ix i rfl rfl rfl Try.underlying22 Try.sizeOf5 rfl rfl (by omega)) rfl (ao_r (rig_load1 rfl rfl Try.isAgg5 hbc.1) rfl (ao_r (rig_assign rfl rfl) rfl (ao_nil ?_)))
    refine awp_region ?_
    refine ao_r (rig_move rfl rfl) rfl (ao_r (rig_mul (c := ((hashN (l.take i) * 257 : Nat) : Int)) rfl rfl rfl (by rw [show ((hashN (l.take i) : Nat) : Int) * 257 = ((hashN (l.take i) * 257 : Nat) : Int) by omega]; exact w64 _ (by omega) (by omega))) rfl ?_)
    refine ao_r (rig_move rfl rfl) rfl (ao_r (rig_convInt (c := (b.toNat : Int)) rfl rfl Try.underlying5 Try.underlying3 (w64 _ (by omega) (by omega))) rfl ?_)
    refine ao_r (rig_add (c := ((hashN (l.take i) * 257 + b.toNat : Nat) : Int)) rfl rfl rfl (by rw [show ((hashN (l.take i) * 257 : Nat) : Int) + (b.toNat : Int) = ((hashN (l.take i) * 257 + b.toNat : Nat) : Int) by omega]; exact w64 _ (by omega) (by omega))) rfl ?_
    refine ao_r (rig_add (c := ((hashN (l.take i) * 257 + b.toNat + 1 : Nat) : Int)) rfl rfl rfl (by rw [show ((hashN (l.take i) * 257 + b.toNat : Nat) : Int) + 1 = ((hashN (l.take i) * 257 + b.toNat + 1 : Nat) : Int) by omega]; exact w64 _ (by omega) (by omega))) rfl ?_
    refine ao_r (rig_rem (c := ((hashN (l.take (i + 1)) : Nat) : Int)) rfl rfl rfl (by decide) (by rw [hnext, hashS]; rfl)) rfl (ao_r (rig_assign rfl rfl) rfl (ao_nil ?_))
    refine hK4 _ _ (awp_region (ao_r (rig_add (c := ((i + 1 : Nat) : Int)) rfl rfl rfl (w64 _ (by omega) (by omega))) rfl (ao_r (rig_move rfl rfl) rfl (ao_nil ?_))))
    exact ⟨[(6, .int .i64 (hashN (l.take (i + 1)) : Nat)), (23, .slice (some ⟨bb, off, none⟩) k cap), (24, .int .i64 k), (25, .int .i64 (i + 1 : Nat))], _, ⟨rfl, rfl, rfl, rfl, trivial⟩, by omega, i + 1, by omega, rfl, rfl, rfl⟩
  · obtain rfl : i = k := by omega
    refine awp_exit (hK2 _ _ (awp_rs (ao_r (rig_move rfl rfl) rfl (ao_r (rig_assign rfl rfl) rfl (ao_r (rig_assign rfl rfl) rfl (ao_nil ?_))))))
    exact awp_ret ⟨_, res2 Try.results16 rfl rfl, by rw [numV, hok]; rfl, HpLe.refl _⟩
end Go.Proofs.Ytbonkkbpjlikjaa
/- Chapter 8: awake, prefixes, followed, less. -/
set_option linter.unusedVariables false
set_option linter.unusedSimpArgs false
namespace Go.Aw
open Go Go.RowKit
def preB (s p : ByteArray) : Bool := decide (p.size ≤ s.size) && decide (s.extract 0 p.size = p)
section
variable {P : Program} {o : Oper} {r : Env} {m : Hp}
theorem rig_strH {T : TypeId} {x z : Operand} {s : ByteArray} {k2 : IntKind} {i2 : Int} (j2 : Nat) (h : o.op = .slice T x none (some z) none) (ex : ev r x = some (.string s)) (ez : ev r z = some (.int k2 i2)) (hT : P.underlying T = some .string) (hi2 : i2 = j2) (hj2 : j2 ≤ s.size) : Rig P o r m (.string (s.extract 0 j2)) := rig_val fun n' sg a' w hf hs => by
  subst hi2
  have h2 : (0 : Int) ≤ (j2 : Int) ∧ (j2 : Int) ≤ (s.size : Int) := by omega
  simp [execOp, h, hf.eval ex, hf.eval ez, Instr.sliceAt, Instr.slice, run_underlying hT, Instr.sliceBounds, Instr.sliceBound, asIntOf, h2, hj2]
end
structure Sn where
  file : Int
  ino : Int
  size : Int
deriving DecidableEq
def encSn (x : Sn) : List Value := [.int .i64 x.file, .int .i64 x.ino, .int .i64 x.size]
theorem encSn_len (x : Sn) : (encSn x).length = 3 := rfl
theorem encSn_one (x : Sn) : ∀ q ∈ encSn x, q.oneCell' = true := by
  intro q hq; simp [encSn] at hq; rcases hq with rfl | rfl | rfl <;> rfl
def Sn.val (x : Sn) : Value := .agg #[.int .i64 x.file, .int .i64 x.ino, .int .i64 x.size]
def lessS (a b : Sn) : Bool := if a.file = b.file then (if a.size = b.size then decide (a.ino < b.ino) else decide (b.size < a.size)) else decide (a.file < b.file)
end Go.Aw
namespace Go.Proofs.Ytbonkkbpjlikjaa
open Go Go.Aw Go.RowKit
theorem e4 : Enters Try.prog 4 := enters_of Try.func4 (by kernel_rfl) rfl
set_option maxRecDepth 100000 in
theorem F4 (m : Hp) : GC Try.prog 4 #[] m (fun u m' => u = .bool true ∧ HpLe m m') := by
  refine gc_intro (vs := []) Try.func4 rfl Try.ntmps4 (by simp) ?_
  refine awp_rs (ao_r (rig_assign rfl rfl) rfl (ao_nil ?_))
  refine awp_u (awp_rs ?_)
  refine ao_x (ex_buildSlice (cs := #[.int .u8 0, .int .u8 9]) rfl (Dj_single m) rfl Try.underlying22 Try.sizeOf5 Try.zeroValue5 (by decide) (by decide) (by kernel_rfl)) rfl fun v8 m8 ⟨b8, hv8, hm8, hD8⟩ => ?_
  subst hv8 hm8
  have hm : HpLe m (U [Go.Aw.one b8 (.cells #[.int .u8 0, .int .u8 9] 5 (0, 0)), m]) := le_at 1 hD8 rfl
  have hrd : RdSl (U [Go.Aw.one b8 (.cells #[.int .u8 0, .int .u8 9] 5 (0, 0)), m]) encB 1 (.slice (some ⟨b8, 0, none⟩) 2 2) [0, 9] := ⟨_, 2, 2, rfl, rfl, .inr ⟨b8, 0, rfl, (cellsAt_one b8 #[.int .u8 0, .int .u8 9] 5).le (le_at 0 hD8 rfl)⟩⟩
  refine ao_r (rig_call rfl rfl e16 (F16 _ _ [0, 9] 1 hrd (by decide) (fun A cap e => by simp only [Value.slice.injEq] at e; simp; omega))) rfl ?_
  refine ao_r (rig_move rfl rfl) rfl (ao_r (rig_extract rfl rfl rfl) rfl (ao_r (rig_extract rfl rfl rfl) rfl (ao_r (rig_assign rfl rfl) rfl (ao_r (rig_assign rfl rfl) rfl (ao_nil ?_)))))
  refine awp_rs (ao_r (rig_move rfl rfl) rfl (ao_r (rig_move rfl rfl) rfl (ao_on rfl rfl (ao_r (rig_move rfl rfl) rfl (ao_on rfl rfl (ao_r (rig_eql rfl rfl rfl) rfl (ao_r (rig_pickT rfl rfl rfl) rfl (ao_r (rig_assign rfl rfl) rfl (ao_nil ?_)))))))))
  exact awp_ret ⟨_, res1 Try.results4 rfl, rfl, hm⟩
theorem e53 : Enters Try.prog 53 := enters_of Try.func53 (by kernel_rfl) rfl
set_option maxRecDepth 100000 in
theorem F53 (m : Hp) (s p : ByteArray) : RC Try.prog 53 #[.string s, .string p] m (.bool (preB s p)) := by
  refine rc_of_gc fun m1 hm => gc_intro (vs := [_, _]) Try.func53 rfl Try.ntmps53 (by simp) ?_
  refine awp_rs (ao_r (rig_assign rfl rfl) rfl (ao_nil ?_))
  refine awp_rs (ao_r (rig_move rfl rfl) rfl (ao_r (rig_lenStr rfl rfl Try.underlying9) rfl (ao_r (rig_move rfl rfl) rfl (ao_r (rig_lenStr rfl rfl Try.underlying9) rfl (ao_r (rig_geq rfl rfl rfl) rfl (ao_r (rig_move rfl rfl) rfl ?_))))))
  cases h : decide ((p.size : Int) ≤ s.size) with
  | true =>
    have hle : p.size ≤ s.size := by have := of_decide_eq_true h; omega
    refine ao_on rfl rfl (ao_r (rig_move rfl rfl) rfl (ao_on rfl rfl (ao_r (rig_move rfl rfl) rfl (ao_on rfl rfl (ao_r (rig_lenStr rfl rfl Try.underlying9) rfl (ao_on rfl rfl (ao_r (rig_strH p.size rfl rfl rfl Try.underlying9 rfl hle) rfl (ao_on rfl rfl (ao_r (rig_move rfl rfl) rfl (ao_on rfl rfl (ao_r (rig_seql rfl rfl rfl) rfl (ao_r (rig_pickT rfl rfl rfl) rfl (ao_r (rig_assign rfl rfl) rfl (ao_nil ?_))))))))))))))
    exact awp_ret ⟨_, res1 Try.results53 rfl, by simp only [preB, decide_eq_true hle, Bool.true_and], HpLe.refl _⟩
  | false =>
    have hle : ¬ p.size ≤ s.size := by have := of_decide_eq_false h; omega
    refine ao_no rfl rfl rfl rfl (ao_no rfl rfl rfl rfl (ao_no rfl rfl rfl rfl (ao_no rfl rfl rfl rfl (ao_no rfl rfl rfl rfl (ao_no rfl rfl rfl rfl (ao_r (rig_pickF rfl rfl rfl) rfl (ao_r (rig_assign rfl rfl) rfl (ao_nil ?_))))))))
    exact awp_ret ⟨_, res1 Try.results53 rfl, by simp only [preB, decide_eq_false hle, Bool.false_and], HpLe.refl _⟩
theorem e47 : Enters Try.prog 47 := enters_of Try.func47 (by kernel_rfl) rfl
set_option maxRecDepth 100000 in
theorem F47 (m : Hp) (s p : ByteArray) : RC Try.prog 47 #[.string s, .string p] m (.bool (preB s p)) := by
  refine rc_of_gc fun m1 hm => gc_intro (vs := [_, _]) Try.func47 rfl Try.ntmps47 (by simp) ?_
  refine awp_rs (ao_r (rig_assign rfl rfl) rfl (ao_nil ?_))
  refine awp_rs (ao_r (rig_move rfl rfl) rfl (ao_r (rig_lenStr rfl rfl Try.underlying9) rfl (ao_r (rig_move rfl rfl) rfl (ao_r (rig_lenStr rfl rfl Try.underlying9) rfl (ao_r (rig_geq rfl rfl rfl) rfl (ao_r (rig_move rfl rfl) rfl ?_))))))
  cases h : decide ((p.size : Int) ≤ s.size) with
  | true =>
    have hle : p.size ≤ s.size := by have := of_decide_eq_true h; omega
    refine ao_on rfl rfl (ao_r (rig_move rfl rfl) rfl (ao_on rfl rfl (ao_r (rig_move rfl rfl) rfl (ao_on rfl rfl (ao_r (rig_lenStr rfl rfl Try.underlying9) rfl (ao_on rfl rfl (ao_r (rig_strH p.size rfl rfl rfl Try.underlying9 rfl hle) rfl (ao_on rfl rfl (ao_r (rig_move rfl rfl) rfl (ao_on rfl rfl (ao_r (rig_seql rfl rfl rfl) rfl (ao_r (rig_pickT rfl rfl rfl) rfl (ao_r (rig_assign rfl rfl) rfl (ao_nil ?_))))))))))))))
    exact awp_ret ⟨_, res1 Try.results47 rfl, by simp only [preB, decide_eq_true hle, Bool.true_and], HpLe.refl _⟩
  | false =>
    have hle : ¬ p.size ≤ s.size := by have := of_decide_eq_false h; omega
    refine ao_no rfl rfl rfl rfl (ao_no rfl rfl rfl rfl (ao_no rfl rfl rfl rfl (ao_no rfl rfl rfl rfl (ao_no rfl rfl rfl rfl (ao_no rfl rfl rfl rfl (ao_r (rig_pickF rfl rfl rfl) rfl (ao_r (rig_assign rfl rfl) rfl (ao_nil ?_))))))))
    exact awp_ret ⟨_, res1 Try.results47 rfl, by simp only [preB, decide_eq_false hle, Bool.false_and], HpLe.refl _⟩
theorem e30 : Enters Try.prog 30 := enters_of Try.func30 (by kernel_rfl) rfl
set_option maxRecDepth 100000 in
theorem F30 (m : Hp) (s p : ByteArray) : RC Try.prog 30 #[.string s, .string p] m (.bool (preB s p)) := by
  refine rc_of_gc fun m1 hm => gc_intro (vs := [_, _]) Try.func30 rfl Try.ntmps30 (by simp) ?_
  refine awp_rs (ao_r (rig_assign rfl rfl) rfl (ao_nil ?_))
  refine awp_rs (ao_r (rig_move rfl rfl) rfl (ao_r (rig_move rfl rfl) rfl (ao_r (rig_call rfl rfl e47 (F47 _ s p)) rfl (ao_r (rig_assign rfl rfl) rfl (ao_nil ?_)))))
  exact awp_ret ⟨_, res1 Try.results30 rfl, rfl, HpLe.refl _⟩
def folN (pfx : ByteArray) (ino : Int) (n : Nm) : Bool := decide (n.ino = ino) && preB n.nm pfx
def folB (ns : List Nm) (oz : List Int) (pfx : ByteArray) (ino : Int) : Bool := ns.any (folN pfx ino) || oz.any (zIs ino)
theorem e38 : Enters Try.prog 38 := enters_of Try.func38 (by kernel_rfl) rfl
set_option maxRecDepth 100000 in
theorem F38 (m : Hp) (vn vf vo : Value) (ns : List Nm) (oz : List Int) (pfx : ByteArray) (ino : Int) (hn : RdSl m encN 2 vn ns) (ho : RdSl m encZ 1 vo oz) (hl : ns.length ≤ 1048576) (hol : oz.length ≤ 1048576) : RC Try.prog 38 #[.agg #[vn, vf, vo], .string pfx, .int .i64 ino] m (.bool (folB ns oz pfx ino)) := by
  obtain ⟨A, ca, rfl, _⟩ := RdSl.form encN_len (by decide) hn
  obtain ⟨Ao, co, rfl, _⟩ := RdSl.form encZ_len (by decide) ho
  refine rc_of_gc fun m1 hm => gc_intro (vs := [_, _, _]) Try.func38 rfl Try.ntmps38 (by simp) ?_
  refine awp_rs ?_
  refine ao_x (ex_boxR rfl rfl) rfl fun v m2 ⟨p3, hv, hl2, hc2⟩ => ao_r (rig_assign rfl rfl) rfl (ao_nil ?_)
  subst hv
  have hm2 := hm.trans hl2
  obtain ⟨d0, d1, d2, _⟩ := id hc2
  refine awp_sk fun K1 hK1 => awp_rs (ao_r (rig_assign rfl rfl) rfl (ao_nil ?_))
  refine awp_block ?_
  refine awp_le [(1, .string pfx), (2, .int .i64 ino), (3, .pointer (some ⟨p3, 0, none⟩)), (7, .int .i64 (0 : Nat))] ⟨rfl, rfl, rfl, rfl, trivial⟩ ?_
  refine awp_loop (fun k r mm => ∃ i : Nat, i ≤ ns.length ∧ k = ns.length - i ∧ r = [(1, .string pfx), (2, .int .i64 ino), (3, .pointer (some ⟨p3, 0, none⟩)), (7, .int .i64 i)] ∧ m2 = mm ∧ (ns.take i).any (folN pfx ino) = false) _ ⟨0, by omega, rfl, rfl, rfl, rfl⟩ ?_
  rintro k r mm ⟨i, hi, rfl, rfl, rfl, hj⟩
  refine awp_sk fun K2 hK2 => awp_rs ?_
  refine ao_r (rig_move rfl rfl) rfl (ao_r (rig_fieldAddr rfl rfl Try.underlying30 rfl Try.sizeOf26 rfl) rfl (ao_r (rig_load1 rfl rfl Try.isAgg26 d0) rfl (ao_r (rig_lenSl rfl rfl Try.underlying26) rfl (ao_r (rig_lss rfl rfl rfl) rfl (ao_nil ?_)))))
  refine awp_if rfl (fun h => ?_) (fun h => ?_)
  · obtain ⟨x, hx⟩ := get_lt (l := ns) (i := i) (by omega)
    obtain ⟨b, off, cap', e, hxc⟩ := RdSl.get_ encN_len (by decide) (RdSl.le hn hm2) hx
    simp only [Value.slice.injEq] at e
    obtain ⟨rfl, _, rfl⟩ := e
    obtain ⟨x0, x1, _⟩ := id hxc
    refine awp_skip (hK2 _ _ (awp_sk fun K3 hK3 => awp_block ?_))
    refine awp_mid (fun r m' => r = [(1, .string pfx), (2, .int .i64 ino), (3, .pointer (some ⟨p3, 0, none⟩)), (7, .int .i64 i), (33, .bool (folN pfx ino x))] ∧ m2 = m') (awp_region ?_) ?_
    · refine ao_r (rig_fieldAddr rfl rfl Try.underlying30 rfl Try.sizeOf26 rfl) rfl (ao_r (rig_load1 rfl rfl Try.isAgg26 d0) rfl (ao_r (rig_move rfl rfl) rfl (ao_r (rig_ix i rfl rfl rfl Try.underlying26 Try.sizeOf68 rfl rfl (by omega)) rfl (ao_r (rig_fieldAddr rfl rfl Try.underlying68 rfl Try.sizeOf3 rfl) rfl (ao_r (rig_load1 rfl rfl Try.isAgg3 x1) rfl (ao_r (rig_move rfl rfl) rfl (ao_r (rig_eql rfl rfl rfl) rfl (ao_r (rig_move rfl rfl) rfl ?_))))))))
      cases h1 : decide (x.ino = ino) with
      | true =>
        refine ao_on rfl rfl (ao_r (rig_fieldAddr rfl rfl Try.underlying30 rfl Try.sizeOf26 rfl) rfl (ao_on rfl rfl (ao_r (rig_load1 rfl rfl Try.isAgg26 d0) rfl (ao_on rfl rfl (ao_r (rig_move rfl rfl) rfl (ao_on rfl rfl (ao_r (rig_ix i rfl rfl rfl Try.underlying26 Try.sizeOf68 rfl rfl (by omega)) rfl (ao_on rfl rfl (ao_r (rig_fieldAddr rfl rfl Try.underlying68 rfl Try.sizeOf9 rfl) rfl (ao_on rfl rfl (ao_r (rig_load1 rfl rfl Try.isAgg9 x0) rfl ?_)))))))))))
        refine ao_on rfl rfl (ao_r (rig_move rfl rfl) rfl (ao_on rfl rfl (ao_r (rig_call rfl rfl e53 (F53 _ x.nm pfx)) rfl (ao_r (rig_pickT rfl rfl rfl) rfl (ao_nil ?_)))))
        exact ⟨[(1, .string pfx), (2, .int .i64 ino), (3, .pointer (some ⟨p3, 0, none⟩)), (7, .int .i64 i), (33, .bool (preB x.nm pfx))], ⟨rfl, rfl, rfl, rfl, rfl, trivial⟩, by simp only [folN, h1, Bool.true_and], rfl⟩
      | false =>
        refine ao_no rfl rfl rfl rfl (ao_no rfl rfl rfl rfl (ao_no rfl rfl rfl rfl (ao_no rfl rfl rfl rfl (ao_no rfl rfl rfl rfl (ao_no rfl rfl rfl rfl (ao_no rfl rfl rfl rfl (ao_no rfl rfl rfl rfl (ao_r (rig_pickF rfl rfl rfl) rfl (ao_nil ?_)))))))))
        exact ⟨[(1, .string pfx), (2, .int .i64 ino), (3, .pointer (some ⟨p3, 0, none⟩)), (7, .int .i64 i), (33, .bool false)], ⟨rfl, rfl, rfl, rfl, rfl, trivial⟩, by simp only [folN, h1, Bool.false_and], rfl⟩
    rintro r m' ⟨rfl, rfl⟩
    refine awp_cond rfl (fun h2 => ?_) (fun h2 => ?_)
    · refine awp_rs (ao_r (rig_assign rfl rfl) rfl (ao_nil ?_))
      have ha : ns.any (folN pfx ino) = true := List.any_eq_true.2 ⟨x, List.mem_of_getElem? hx, h2⟩
      exact awp_ret ⟨_, res1 Try.results38 rfl, by rw [folB, ha, Bool.true_or], hl2⟩
    · refine awp_skip (hK3 _ _ (awp_region ?_))
      refine ao_r (rig_move rfl rfl) rfl (ao_r (rig_add (c := ((i + 1 : Nat) : Int)) rfl rfl rfl (w64 _ (by omega) (by omega))) rfl (ao_r (rig_assign rfl rfl) rfl (ao_nil ?_)))
      exact ⟨[(1, .string pfx), (2, .int .i64 ino), (3, .pointer (some ⟨p3, 0, none⟩)), (7, .int .i64 (i + 1 : Nat))], _, ⟨rfl, rfl, rfl, rfl, trivial⟩, by omega, i + 1, by omega, rfl, rfl, rfl, (any_takeG hx hj).trans h2⟩
  · rw [List.take_of_length_le (by omega)] at hj
    refine awp_exit (hK1 _ _ ?_)
    refine awp_sk fun K1 hK1 => awp_rs (ao_r (rig_assign rfl rfl) rfl (ao_nil ?_))
    refine awp_block ?_
    refine awp_le [(2, .int .i64 ino), (3, .pointer (some ⟨p3, 0, none⟩)), (8, .int .i64 (0 : Nat))] ⟨rfl, rfl, rfl, trivial⟩ ?_
    refine awp_loop (fun k r mm => ∃ i : Nat, i ≤ oz.length ∧ k = oz.length - i ∧ r = [(2, .int .i64 ino), (3, .pointer (some ⟨p3, 0, none⟩)), (8, .int .i64 i)] ∧ m2 = mm ∧ (oz.take i).any (zIs ino) = false) oz.length ⟨0, by omega, rfl, rfl, rfl, rfl⟩ ?_
    rintro k r mm ⟨i, hi, rfl, rfl, rfl, hjo⟩
    refine awp_sk fun K2 hK2 => awp_rs ?_
    refine ao_r (rig_move rfl rfl) rfl (ao_r (rig_fieldAddr rfl rfl Try.underlying30 rfl Try.sizeOf28 rfl) rfl (ao_r (rig_load1 rfl rfl Try.isAgg28 d2) rfl (ao_r (rig_lenSl rfl rfl Try.underlying28) rfl (ao_r (rig_lss rfl rfl rfl) rfl (ao_nil ?_)))))
    refine awp_if rfl (fun h => ?_) (fun h => ?_)
    · obtain ⟨x, hx⟩ := get_lt (l := oz) (i := i) (by omega)
      obtain ⟨b, off, cap', e, hxc⟩ := RdSl.get_ encZ_len (by decide) (RdSl.le ho hm2) hx
      simp only [Value.slice.injEq] at e
      obtain ⟨rfl, _, rfl⟩ := e
      refine awp_skip (hK2 _ _ (awp_sk fun K3 hK3 => awp_block (awp_rs ?_)))
      refine ao_r (rig_fieldAddr rfl rfl Try.underlying30 rfl Try.sizeOf28 rfl) rfl (ao_r (rig_load1 rfl rfl Try.isAgg28 d2) rfl (ao_r (rig_move rfl rfl) rfl (ao_r (rig_ix i rfl rfl rfl Try.underlying28 Try.sizeOf3 rfl rfl (by omega)) rfl (ao_r (rig_load1 rfl rfl Try.isAgg3 hxc.1) rfl (ao_r (rig_move rfl rfl) rfl (ao_r (rig_eql rfl rfl rfl) rfl (ao_nil ?_)))))))
      refine awp_cond rfl (fun h2 => ?_) (fun h2 => ?_)
      · refine awp_rs (ao_r (rig_assign rfl rfl) rfl (ao_nil ?_))
        have ha : oz.any (zIs ino) = true := List.any_eq_true.2 ⟨x, List.mem_of_getElem? hx, h2⟩
        exact awp_ret ⟨_, res1 Try.results38 rfl, by rw [folB, ha, Bool.or_true], hl2⟩
      · refine awp_skip (hK3 _ _ (awp_region ?_))
        refine ao_r (rig_move rfl rfl) rfl (ao_r (rig_add (c := ((i + 1 : Nat) : Int)) rfl rfl rfl (w64 _ (by omega) (by omega))) rfl (ao_r (rig_assign rfl rfl) rfl (ao_nil ?_)))
        exact ⟨[(2, .int .i64 ino), (3, .pointer (some ⟨p3, 0, none⟩)), (8, .int .i64 (i + 1 : Nat))], _, ⟨rfl, rfl, rfl, trivial⟩, by omega, i + 1, by omega, rfl, rfl, rfl, (any_takeG hx hjo).trans h2⟩
    · rw [List.take_of_length_le (by omega)] at hjo
      refine awp_exit (hK1 _ _ (awp_rs (ao_r (rig_assign rfl rfl) rfl (ao_nil ?_))))
      exact awp_ret ⟨_, res1 Try.results38 rfl, by rw [folB, hj, hjo]; rfl, hl2⟩
theorem e39 : Enters Try.prog 39 := enters_of Try.func39 (by kernel_rfl) rfl
set_option maxRecDepth 100000 in
theorem F39 (m : Hp) (a b : Sn) : GC Try.prog 39 #[a.val, b.val] m (fun u m' => u = .bool (lessS a b) ∧ HpLe m m') := by
  refine gc_intro (vs := [_, _]) Try.func39 rfl Try.ntmps39 (by simp) ?_
  refine awp_rs ?_
  refine ao_x (ex_boxR rfl rfl) rfl fun v m2 ⟨p2, hv, hl2, hc2⟩ => ?_
  subst hv
  refine ao_x (ex_boxR rfl rfl) rfl fun v m3 ⟨p3, hv, hl3, hc3⟩ => ao_r (rig_assign rfl rfl) rfl (ao_nil ?_)
  subst hv
  obtain ⟨a0, a1, a2, _⟩ := hc2.le hl3
  obtain ⟨b0, b1, b2, _⟩ := id hc3
  have hle := hl2.trans hl3
  refine awp_sk fun K1 hK1 => awp_rs ?_
  refine ao_r (rig_fieldAddr rfl rfl Try.underlying45 rfl Try.sizeOf3 rfl) rfl (ao_r (rig_load1 rfl rfl Try.isAgg3 a0) rfl (ao_r (rig_fieldAddr rfl rfl Try.underlying45 rfl Try.sizeOf3 rfl) rfl (ao_r (rig_load1 rfl rfl Try.isAgg3 b0) rfl (ao_r (rig_neq rfl rfl rfl) rfl (ao_nil ?_)))))
  refine awp_ifn rfl (fun h => ?_) (fun h => awp_skip (hK1 _ _ ?_))
  · refine awp_rs (ao_r (rig_fieldAddr rfl rfl Try.underlying45 rfl Try.sizeOf3 rfl) rfl (ao_r (rig_load1 rfl rfl Try.isAgg3 a0) rfl (ao_r (rig_fieldAddr rfl rfl Try.underlying45 rfl Try.sizeOf3 rfl) rfl (ao_r (rig_load1 rfl rfl Try.isAgg3 b0) rfl (ao_r (rig_lss rfl rfl rfl) rfl (ao_r (rig_assign rfl rfl) rfl (ao_nil ?_)))))))
    exact awp_ret ⟨_, res1 Try.results39 rfl, by rw [lessS, if_neg h], hle⟩
  refine awp_sk fun K1 hK1 => awp_rs ?_
  refine ao_r (rig_fieldAddr rfl rfl Try.underlying45 rfl Try.sizeOf3 rfl) rfl (ao_r (rig_load1 rfl rfl Try.isAgg3 a2) rfl (ao_r (rig_fieldAddr rfl rfl Try.underlying45 rfl Try.sizeOf3 rfl) rfl (ao_r (rig_load1 rfl rfl Try.isAgg3 b2) rfl (ao_r (rig_neq rfl rfl rfl) rfl (ao_nil ?_)))))
  refine awp_ifn rfl (fun h2 => ?_) (fun h2 => awp_skip (hK1 _ _ ?_))
  · refine awp_rs (ao_r (rig_fieldAddr rfl rfl Try.underlying45 rfl Try.sizeOf3 rfl) rfl (ao_r (rig_load1 rfl rfl Try.isAgg3 a2) rfl (ao_r (rig_fieldAddr rfl rfl Try.underlying45 rfl Try.sizeOf3 rfl) rfl (ao_r (rig_load1 rfl rfl Try.isAgg3 b2) rfl (ao_r (rig_gtr rfl rfl rfl) rfl (ao_r (rig_assign rfl rfl) rfl (ao_nil ?_)))))))
    exact awp_ret ⟨_, res1 Try.results39 rfl, by rw [lessS, if_pos h, if_neg h2], hle⟩
  refine awp_rs (ao_r (rig_fieldAddr rfl rfl Try.underlying45 rfl Try.sizeOf3 rfl) rfl (ao_r (rig_load1 rfl rfl Try.isAgg3 a1) rfl (ao_r (rig_fieldAddr rfl rfl Try.underlying45 rfl Try.sizeOf3 rfl) rfl (ao_r (rig_load1 rfl rfl Try.isAgg3 b1) rfl (ao_r (rig_lss rfl rfl rfl) rfl (ao_r (rig_assign rfl rfl) rfl (ao_nil ?_)))))))
  exact awp_ret ⟨_, res1 Try.results39 rfl, by rw [lessS, if_pos h, if_pos h2], hle⟩
end Go.Proofs.Ytbonkkbpjlikjaa
/- Chapter 8: lists of what was seen: equality, Longest of the reference. -/
set_option linter.unusedVariables false
set_option linter.unusedSimpArgs false
namespace Go.Proofs.Ytbonkkbpjlikjaa
open Go Go.Aw Go.RowKit
theorem fields45 : Try.prog.fieldsOf 45 = #[{ name := "File", type := 3, offset := 0, embedded := false, tag := "", pkgPath := "", byteOffset := 0 }, { name := "Inode", type := 3, offset := 1, embedded := false, tag := "", pkgPath := "", byteOffset := 8 }, { name := "Size", type := 3, offset := 2, embedded := false, tag := "", pkgPath := "", byteOffset := 16 }] := by
  simp [Program.fieldsOf, Try.underlying45]
theorem rig_neqSn {o : Oper} {r : Env} {m : Hp} {T' : TypeId} {x y : Operand} {a b : Sn} (h : o.op = .binOp .neq 45 x y T') (ex : ev r x = some a.val) (ey : ev r y = some b.val) : Rig Try.prog o r m (.bool (!decide (a = b))) := rig_val fun n sg c w hf hs => by
  have hg : Try.prog.eqGuardType Try.prog.depth 45 = false := by kernel_rfl
  have hp : Try.prog.stoodInHeld 45 = false := by kernel_rfl
  have hu : Try.prog.underlying 45 = some (.struct (Try.prog.fieldsOf 45)) := by rw [fields45]; exact Try.underlying45
  have hd : (a.file == b.file && (a.ino == b.ino && a.size == b.size)) = decide (a = b) := by
    rw [Bool.eq_iff_iff]; cases a; cases b; simp [Sn.mk.injEq]
  simp only [execOp, h, hf.eval ex, hf.eval ey, Sn.val]
  simp only [Sem.run_bind, run_eqGuard_agg w .neq 45 x y _ _ hg, Result.andThen_ok, run_neq_struct, run_equalIn_agg w 9999 45 _ _ hu hp, fields45]
  have hi : ∀ (d : Nat) (u v : Int) (w : World), (Op.equalIn (d + 1) 3 (.int .i64 u) (.int .i64 v)).run Try.prog w = .ok (u == v) w := fun d u v w => run_equalIn_int w d 3 .i64 _ u v Try.underlying3
  simp [Op.eqFields, part, Try.isAgg3, hi 9998]
  rw [← hd]
  by_cases h1 : a.file = b.file
  · by_cases h2 : a.ino = b.ino
    · by_cases h3 : a.size = b.size
      · simp [h1, h2, h3]
      · simp [h1, h2, h3]
    · simp [h1, h2]
  · simp [h1]
theorem e12 : Enters Try.prog 12 := enters_of Try.func12 (by kernel_rfl) rfl
set_option maxRecDepth 100000 in
theorem F12 (m : Hp) (va vb : Value) (a b : List Sn) (ha : RdSl m encSn 3 va a) (hb : RdSl m encSn 3 vb b) (hl : a.length ≤ 1099511627776) (hl2 : b.length ≤ 1099511627776) : RC Try.prog 12 #[va, vb] m (.bool (decide (a = b))) := by
  obtain ⟨A, ca, rfl, _⟩ := RdSl.form encSn_len (by decide) ha
  obtain ⟨Bb, cb, rfl, _⟩ := RdSl.form encSn_len (by decide) hb
  refine rc_of_gc fun m1 hm => gc_intro (vs := [_, _]) Try.func12 rfl Try.ntmps12 (by simp) ?_
  refine awp_rs (ao_r (rig_assign rfl rfl) rfl (ao_nil ?_))
  refine awp_sk fun K1 hK1 => awp_rs (ao_r (rig_move rfl rfl) rfl (ao_r (rig_lenSl rfl rfl Try.underlying41) rfl (ao_r (rig_move rfl rfl) rfl (ao_r (rig_lenSl rfl rfl Try.underlying41) rfl (ao_r (rig_neq rfl rfl rfl) rfl (ao_nil ?_))))))
  refine awp_ifn rfl (fun h => ?_) (fun h => awp_skip (hK1 _ _ ?_))
  · refine awp_rs (ao_r (rig_assign rfl rfl) rfl (ao_nil ?_))
    exact awp_ret ⟨_, res1 Try.results12 rfl, by rw [decide_eq_false (fun e => h (by rw [e]))], HpLe.refl _⟩
  have hlen : a.length = b.length := by omega
  refine awp_sk fun K1 hK1 => awp_rs (ao_r (rig_assign rfl rfl) rfl (ao_nil ?_))
  refine awp_block ?_
  refine awp_le [(0, .slice A a.length ca), (1, .slice Bb b.length cb), (5, .int .i64 (0 : Nat))] ⟨rfl, rfl, rfl, trivial⟩ ?_
  refine awp_loop (fun k r mm => ∃ i : Nat, i ≤ a.length ∧ k = a.length - i ∧ r = [(0, .slice A a.length ca), (1, .slice Bb b.length cb), (5, .int .i64 i)] ∧ m1 = mm ∧ a.take i = b.take i) _ ⟨0, by omega, rfl, rfl, rfl, rfl⟩ ?_
  rintro k r mm ⟨i, hi, rfl, rfl, rfl, hj⟩
  refine awp_sk fun K2 hK2 => awp_rs ?_
  refine ao_r (rig_move rfl rfl) rfl (ao_r (rig_move rfl rfl) rfl (ao_r (rig_lenSl rfl rfl Try.underlying41) rfl (ao_r (rig_lss rfl rfl rfl) rfl (ao_nil ?_))))
  refine awp_if rfl (fun h => ?_) (fun h => ?_)
  · obtain ⟨x, hx⟩ := get_lt (l := a) (i := i) (by omega)
    obtain ⟨y, hy⟩ := get_lt (l := b) (i := i) (by omega)
    obtain ⟨b1, o1, c1, e1, hxc⟩ := RdSl.get_ encSn_len (by decide) (RdSl.le ha hm) hx
    obtain ⟨b2, o2, c2, e2, hyc⟩ := RdSl.get_ encSn_len (by decide) (RdSl.le hb hm) hy
    simp only [Value.slice.injEq] at e1 e2
    obtain ⟨rfl, _, rfl⟩ := e1
    obtain ⟨rfl, _, rfl⟩ := e2
    refine awp_skip (hK2 _ _ (awp_sk fun K3 hK3 => awp_block ?_))
    refine awp_ds (.q 0 (.q 1 (.q 2 (.q 3 (.q 4 (.q 5 (.q 6 (.q 7 (.q 8 .fin))))))))) [] (by kernel_rfl) (by kernel_rfl) ?_
    refine oq rfl (rig_move rfl rfl) rfl (oq rfl (rig_move rfl rfl) rfl (oq rfl (rig_ix i rfl rfl rfl Try.underlying41 Try.sizeOf45 rfl rfl (by omega)) rfl (oq rfl (rig_loadN (vs := encSn x) rfl rfl Try.isAgg45 Try.sizeOf45 hxc) rfl ?_)))
    refine oq rfl (rig_move rfl rfl) rfl (oq rfl (rig_move rfl rfl) rfl (oq rfl (rig_ix i rfl rfl rfl Try.underlying41 Try.sizeOf45 rfl rfl (by omega)) rfl (oq rfl (rig_loadN (vs := encSn y) rfl rfl Try.isAgg45 Try.sizeOf45 hyc) rfl (oq rfl (rig_neqSn (a := x) (b := y) rfl rfl rfl) rfl (od_fin ?_)))))
    refine awp_ifn rfl (fun h2 => ?_) (fun h2 => ?_)
    · refine awp_rs (ao_r (rig_assign rfl rfl) rfl (ao_nil ?_))
      exact awp_ret ⟨_, res1 Try.results12 rfl, by rw [decide_eq_false (fun e => h2 (by rw [e, hy] at hx; exact (Option.some.inj hx).symm))], HpLe.refl _⟩
    · refine awp_skip (hK3 _ _ (awp_region ?_))
      refine ao_r (rig_move rfl rfl) rfl (ao_r (rig_add (c := ((i + 1 : Nat) : Int)) rfl rfl rfl (w64 _ (by omega) (by omega))) rfl (ao_r (rig_assign rfl rfl) rfl (ao_nil ?_)))
      exact ⟨[(0, .slice (some ⟨b1, o1, none⟩) a.length ca), (1, .slice (some ⟨b2, o2, none⟩) b.length cb), (5, .int .i64 (i + 1 : Nat))], _, ⟨rfl, rfl, rfl, trivial⟩, by omega, i + 1, by omega, rfl, rfl, rfl, by rw [takeS hx, takeS hy, hj, h2]⟩
  · rw [List.take_of_length_le (by omega), List.take_of_length_le (by omega)] at hj
    refine awp_exit (hK1 _ _ (awp_rs (ao_r (rig_assign rfl rfl) rfl (ao_nil ?_))))
    exact awp_ret ⟨_, res1 Try.results12 rfl, by rw [decide_eq_true hj], HpLe.refl _⟩
def fileIs (n : Int) (x : Sn) : Bool := decide (x.file = n)
def lonS (l : List Sn) (n : Int) : Sn := (l.find? (fileIs n)).getD ⟨0, 0, 0⟩
/-- The box of one that was seen. -/
def snB (p : Nat) (x : Sn) : Hp := Go.Aw.one p (.cells (encSn x).toArray 45 (0, 0))
theorem snB_at {L : List Hp} (i : Nat) {p : Nat} {x : Sn} (hD : Dj L) (hi : L[i]? = some (snB p x)) : CellsAt (U L) p 0 (encSn x) :=
  (cellsAt_one p (encSn x).toArray 45).le (le_at i hD hi)
theorem lonS_hit {l : List Sn} {n : Int} {i : Nat} {x : Sn} (hx : l[i]? = some x) (h : (l.take i).any (fileIs n) = false) (hp : fileIs n x = true) : lonS l n = x := by
  rw [lonS, find_take hx h hp]; rfl
theorem lonS_none {l : List Sn} {n : Int} (h : l.any (fileIs n) = false) : lonS l n = ⟨0, 0, 0⟩ := by
  rw [lonS, List.find?_eq_none.2 (fun y hy => by rw [List.any_eq_false] at h; exact h y hy)]; rfl
theorem e15 : Enters Try.prog 15 := enters_of Try.func15 (by kernel_rfl) rfl
set_option maxRecDepth 100000 in
theorem F15 (m : Hp) (v : Value) (l : List Sn) (n : Int) (hv : RdSl m encSn 3 v l) (hl : l.length ≤ 1099511627776) : GC Try.prog 15 #[v, .int .i64 n] m (fun u m' => u = .tuple #[(lonS l n).val, .bool (l.any (fileIs n))] ∧ HpLe m m') := by
  obtain ⟨A, ca, rfl, _⟩ := RdSl.form encSn_len (by decide) hv
  refine gc_intro (vs := [_, _]) Try.func15 rfl Try.ntmps15 (by simp) ?_
  refine awp_u (awp_rs ?_)
  refine ao_x (ex_alloc rfl (Dj_single m) Try.zeroValue45) rfl fun u m2 ⟨p4, hu, hm2, hD⟩ => ao_r (rig_assign rfl rfl) rfl (ao_nil ?_)
  subst hu hm2
  replace hD : Dj [snB p4 ⟨0, 0, 0⟩, m] := hD
  show AWp _ _ _ _ _ (U [snB p4 ⟨0, 0, 0⟩, m])
  have hm : HpLe m (U [snB p4 ⟨0, 0, 0⟩, m]) := le_at 1 hD rfl
  refine awp_sk fun K1 hK1 => awp_rs (ao_r (rig_assign rfl rfl) rfl (ao_nil ?_))
  refine awp_block ?_
  refine awp_le [(0, .slice A l.length ca), (1, .int .i64 n), (4, .pointer (some ⟨p4, 0, none⟩)), (6, .int .i64 (0 : Nat))] ⟨rfl, rfl, rfl, rfl, trivial⟩ ?_
  refine awp_loop (fun k r mm => ∃ i : Nat, i ≤ l.length ∧ k = l.length - i ∧ r = [(0, .slice A l.length ca), (1, .int .i64 n), (4, .pointer (some ⟨p4, 0, none⟩)), (6, .int .i64 i)] ∧ U [snB p4 ⟨0, 0, 0⟩, m] = mm ∧ (l.take i).any (fileIs n) = false) _ ⟨0, by omega, rfl, rfl, rfl, rfl⟩ ?_
  rintro k r mm ⟨i, hi, rfl, rfl, rfl, hj⟩
  refine awp_sk fun K2 hK2 => awp_rs ?_
  refine ao_r (rig_move rfl rfl) rfl (ao_r (rig_move rfl rfl) rfl (ao_r (rig_lenSl rfl rfl Try.underlying41) rfl (ao_r (rig_lss rfl rfl rfl) rfl (ao_nil ?_))))
  refine awp_if rfl (fun h => ?_) (fun h => ?_)
  · obtain ⟨x, hx⟩ := get_lt (l := l) (i := i) (by omega)
    obtain ⟨b1, o1, c1, e1, hxc⟩ := RdSl.get_ encSn_len (by decide) (RdSl.le hv hm) hx
    simp only [Value.slice.injEq] at e1
    obtain ⟨rfl, _, rfl⟩ := e1
    refine awp_skip (hK2 _ _ (awp_sk fun K3 hK3 => awp_block (awp_rs ?_)))
    refine ao_r (rig_move rfl rfl) rfl (ao_r (rig_move rfl rfl) rfl (ao_r (rig_ix i rfl rfl rfl Try.underlying41 Try.sizeOf45 rfl rfl (by omega)) rfl (ao_r (rig_fieldAddr rfl rfl Try.underlying45 rfl Try.sizeOf3 rfl) rfl (ao_r (rig_load1 rfl rfl Try.isAgg3 hxc.1) rfl (ao_r (rig_move rfl rfl) rfl (ao_r (rig_eql rfl rfl rfl) rfl (ao_nil ?_)))))))
    refine awp_cond rfl (fun h2 => ?_) (fun h2 => ?_)
    · refine awp_rs (ao_r (rig_move rfl rfl) rfl (ao_r (rig_move rfl rfl) rfl (ao_r (rig_ix i rfl rfl rfl Try.underlying41 Try.sizeOf45 rfl rfl (by omega)) rfl (ao_r (rig_loadN (vs := encSn x) rfl rfl Try.isAgg45 Try.sizeOf45 hxc) rfl ?_))))
      refine ao_x0 (ex_store (i := 0) rfl hD rfl rfl Try.sizeOf45 (encSn_one x) rfl (by simp [Value.cells, encSn])) fun u m7 ⟨_, hm7, hD7⟩ => ao_r (rig_assign rfl rfl) rfl (ao_nil ?_)
      subst hm7
      replace hD7 : Dj [snB p4 x, m] := hD7
      exact awp_ret ⟨_, resC2 (vs := encSn x) Try.results15 rfl rfl Try.isAgg45 Try.sizeOf45 (snB_at 0 hD7 rfl), by rw [lonS_hit hx hj h2, List.any_eq_true.2 ⟨x, List.mem_of_getElem? hx, h2⟩]; rfl, le_at 1 hD7 rfl⟩
    · refine awp_skip (hK3 _ _ (awp_region ?_))
      refine ao_r (rig_move rfl rfl) rfl (ao_r (rig_add (c := ((i + 1 : Nat) : Int)) rfl rfl rfl (w64 _ (by omega) (by omega))) rfl (ao_r (rig_assign rfl rfl) rfl (ao_nil ?_)))
      exact ⟨[(0, .slice (some ⟨b1, o1, none⟩) l.length ca), (1, .int .i64 n), (4, .pointer (some ⟨p4, 0, none⟩)), (6, .int .i64 (i + 1 : Nat))], _, ⟨rfl, rfl, rfl, rfl, trivial⟩, by omega, i + 1, by omega, rfl, rfl, rfl, (any_takeG hx hj).trans h2⟩
  · rw [List.take_of_length_le (by omega)] at hj
    refine awp_exit (hK1 _ _ (awp_rs (ao_r (rig_build (pl := #[(0, 1), (1, 1), (2, 1)]) (cs := (encSn ⟨0, 0, 0⟩).toArray) rfl rfl Try.underlying45 Try.zeroValue45 (fun w => by kernel_rfl) rfl) rfl ?_)))
    refine ao_x0 (ex_store (i := 0) rfl hD rfl rfl Try.sizeOf45 (encSn_one ⟨0, 0, 0⟩) rfl (by simp [Value.cells, encSn])) fun u m7 ⟨_, hm7, hD7⟩ => ao_r (rig_assign rfl rfl) rfl (ao_nil ?_)
    subst hm7
    replace hD7 : Dj [snB p4 ⟨0, 0, 0⟩, m] := hD7
    exact awp_ret ⟨_, resC2 (vs := encSn ⟨0, 0, 0⟩) Try.results15 rfl rfl Try.isAgg45 Try.sizeOf45 (snB_at 0 hD7 rfl), by rw [lonS_none hj, hj]; rfl, le_at 1 hD7 rfl⟩
end Go.Proofs.Ytbonkkbpjlikjaa
/- Chapter 8: Longest of the program; Read, both. -/
set_option linter.unusedVariables false
set_option linter.unusedSimpArgs false
namespace Go.Proofs.Ytbonkkbpjlikjaa
open Go Go.Aw Go.Pl Go.RowKit
theorem e52 : Enters Try.prog 52 := enters_of Try.func52 (by kernel_rfl) rfl
theorem F52 (m : Hp) (x : Int) : RC Try.prog 52 #[.int .i64 x] m (.bool false) := by
  refine rc_of_gc fun m1 hm => gc_intro (vs := [_]) Try.func52 rfl Try.ntmps52 (by simp) ?_
  refine awp_rs (ao_r (rig_assign rfl rfl) rfl (ao_nil ?_))
  refine awp_rs (ao_r (rig_move rfl rfl) rfl (ao_r (rig_move rfl rfl) rfl (ao_r (rig_neq rfl rfl rfl) rfl (ao_r (rig_assign rfl rfl) rfl (ao_nil ?_)))))
  exact awp_ret ⟨_, res1 Try.results52 rfl, by simp, HpLe.refl _⟩
theorem e35 : Enters Try.prog 35 := enters_of Try.func35 (by kernel_rfl) rfl
set_option maxRecDepth 100000 in
theorem F35 (m : Hp) (x y : Int) : RC Try.prog 35 #[.int .i64 x, .int .i64 y] m (.int .i64 (cmpI x y)) := by
  refine rc_of_gc fun m1 hm => gc_intro (vs := [_, _]) Try.func35 rfl Try.ntmps35 (by simp) ?_
  refine awp_rs (ao_r (rig_assign rfl rfl) rfl (ao_nil ?_))
  refine awp_rs (ao_r (rig_move rfl rfl) rfl (ao_r (rig_call rfl rfl e52 (F52 _ x)) rfl (ao_r (rig_assign rfl rfl) rfl (ao_nil ?_))))
  refine awp_rs (ao_r (rig_move rfl rfl) rfl (ao_r (rig_call rfl rfl e52 (F52 _ y)) rfl (ao_r (rig_assign rfl rfl) rfl (ao_nil ?_))))
  refine awp_sk fun K1 hK1 => awp_rs (ao_r (rig_move rfl rfl) rfl (ao_nil ?_))
  refine awp_false rfl (awp_skip (hK1 _ _ ?_))
  refine awp_sk fun K3 hK3 => awp_rs (ao_r (rig_move rfl rfl) rfl (ao_nil ?_))
  refine awp_false rfl (awp_skip (hK3 _ _ ?_))
  refine awp_sk fun K4 hK4 => awp_rs (ao_r (rig_move rfl rfl) rfl (ao_r (rig_move rfl rfl) rfl (ao_r (rig_lss rfl rfl rfl) rfl (ao_nil ?_))))
  refine awp_cond rfl (fun h => ?_) (fun h => ?_)
  · refine awp_rs (ao_r (rig_assign rfl rfl) rfl (ao_nil ?_))
    refine awp_ret ⟨_, res1 Try.results35 rfl, ?_, HpLe.refl _⟩
    rw [cmpI, if_pos (of_decide_eq_true h)]
  · refine awp_skip (hK4 _ _ ?_)
    refine awp_sk fun K5 hK5 => awp_rs (ao_r (rig_move rfl rfl) rfl (ao_r (rig_move rfl rfl) rfl (ao_r (rig_gtr rfl rfl rfl) rfl (ao_nil ?_))))
    refine awp_cond rfl (fun h2 => ?_) (fun h2 => ?_)
    · refine awp_rs (ao_r (rig_assign rfl rfl) rfl (ao_nil ?_))
      refine awp_ret ⟨_, res1 Try.results35 rfl, ?_, HpLe.refl _⟩
      rw [cmpI, if_neg (of_decide_eq_false h), if_pos (of_decide_eq_true h2)]
    · refine awp_skip (hK5 _ _ (awp_rs (ao_r (rig_assign rfl rfl) rfl (ao_nil ?_))))
      refine awp_ret ⟨_, res1 Try.results35 rfl, ?_, HpLe.refl _⟩
      rw [cmpI, if_neg (of_decide_eq_false h), if_neg (of_decide_eq_false h2)]
theorem e41 : Enters Try.prog 41 := enters_of Try.func41 (by kernel_rfl) rfl
set_option maxRecDepth 100000 in
theorem F41 (m : Hp) (x : Sn) (p : Nat) (n : Int) (hp : CellsAt m p 0 [.int .i64 n]) : RC Try.prog 41 #[x.val, .pointer (some ⟨p, 0, none⟩)] m (.bool (fileIs n x)) := by
  refine rc_of_gc fun m1 hm => gc_intro (vs := [_, _]) Try.func41 rfl Try.ntmps41 (by simp) ?_
  refine awp_rs ?_
  refine ao_x (ex_boxR rfl rfl) rfl fun v m2 ⟨p2, hv, hl2, hc2⟩ => ao_r (rig_assign rfl rfl) rfl (ao_nil ?_)
  subst hv
  have hp2 := (hp.le (hm.trans hl2)).1
  refine awp_rs (ao_r (rig_fieldAddr rfl rfl Try.underlying45 rfl Try.sizeOf3 rfl) rfl (ao_r (rig_load1 rfl rfl Try.isAgg3 hc2.1) rfl (ao_r (rig_load1 rfl rfl Try.isAgg3 hp2) rfl (ao_r (rig_eql rfl rfl rfl) rfl (ao_r (rig_assign rfl rfl) rfl (ao_nil ?_))))))
  exact awp_ret ⟨_, res1 Try.results41 rfl, rfl, hl2⟩
theorem e40 : Enters Try.prog 40 := enters_of Try.func40 (by kernel_rfl) rfl
set_option maxRecDepth 100000 in
theorem F40 (m : Hp) (v : Value) (l : List Sn) (p : Nat) (n : Int) (hv : RdSl m encSn 3 v l) (hp : CellsAt m p 0 [.int .i64 n]) (hl : l.length ≤ 1099511627776) : RC Try.prog 40 #[v, .func (.func 41) #[] #[.pointer (some ⟨p, 0, none⟩)]] m (.int .i64 (idxG (fileIs n) l)) := by
  obtain ⟨A, ca, rfl, _⟩ := RdSl.form encSn_len (by decide) hv
  refine rc_of_gc fun m1 hm => gc_intro (vs := [_, _]) Try.func40 rfl Try.ntmps40 (by simp) ?_
  refine awp_rs (ao_r (rig_assign rfl rfl) rfl (ao_nil ?_))
  refine awp_sk fun K1 hK1 => awp_rs (ao_r (rig_move rfl rfl) rfl (ao_r (rig_lenSl rfl rfl Try.underlying41) rfl (ao_r (rig_move rfl rfl) rfl (ao_nil ?_))))
  refine awp_block ?_
  refine awp_le [(0, .slice A l.length ca), (1, .func (.func 41) #[] #[.pointer (some ⟨p, 0, none⟩)]), (7, .int .i64 l.length), (8, .int .i64 (0 : Nat))] ⟨rfl, rfl, rfl, rfl, trivial⟩ ?_
  refine awp_loop (fun k r mm => ∃ i : Nat, i ≤ l.length ∧ k = l.length - i ∧ r = [(0, .slice A l.length ca), (1, .func (.func 41) #[] #[.pointer (some ⟨p, 0, none⟩)]), (7, .int .i64 l.length), (8, .int .i64 i)] ∧ m1 = mm ∧ (l.take i).any (fileIs n) = false) _ ⟨0, by omega, rfl, rfl, rfl, rfl⟩ ?_
  rintro k r mm ⟨i, hi, rfl, rfl, rfl, hj⟩
  refine awp_rs (ao_r (rig_lss rfl rfl rfl) rfl (ao_nil ?_))
  refine awp_sk fun K2 hK2 => ?_
  refine awp_if rfl (fun h => ?_) (fun h => ?_)
  · obtain ⟨x, hx⟩ := get_lt (l := l) (i := i) (by omega)
    obtain ⟨b1, o1, c1, e1, hxc⟩ := RdSl.get_ encSn_len (by decide) (RdSl.le hv hm) hx
    simp only [Value.slice.injEq] at e1
    obtain ⟨rfl, _, rfl⟩ := e1
    refine awp_skip (hK2 _ _ (awp_sk fun K3 hK3 => awp_block (awp_rs ?_)))
    refine ao_r (rig_move rfl rfl) rfl (ao_r (rig_assign rfl rfl) rfl (ao_nil ?_))
    refine awp_rs (ao_r (rig_move rfl rfl) rfl (ao_r (rig_move rfl rfl) rfl (ao_r (rig_move rfl rfl) rfl (ao_r (rig_ix i rfl rfl rfl Try.underlying41 Try.sizeOf45 rfl rfl (by omega)) rfl (ao_r (rig_loadN (vs := encSn x) rfl rfl Try.isAgg45 Try.sizeOf45 hxc) rfl (ao_r (rig_callv (vs := [x.val]) rfl rfl rfl e41 (F41 _ x p n (hp.le hm))) rfl (ao_nil ?_)))))))
    refine awp_cond rfl (fun h2 => ?_) (fun h2 => ?_)
    · refine awp_rs (ao_r (rig_move rfl rfl) rfl (ao_r (rig_assign rfl rfl) rfl (ao_nil ?_)))
      exact awp_ret ⟨_, res1 Try.results40 rfl, by rw [idxG_hit hx hj h2], HpLe.refl _⟩
    · refine awp_skip (hK3 _ _ (awp_region ?_))
      refine ao_r (rig_add (c := ((i + 1 : Nat) : Int)) rfl rfl rfl (w64 _ (by omega) (by omega))) rfl (ao_r (rig_move rfl rfl) rfl (ao_nil ?_))
      exact ⟨[(0, .slice (some ⟨b1, o1, none⟩) l.length ca), (1, .func (.func 41) #[] #[.pointer (some ⟨p, 0, none⟩)]), (7, .int .i64 l.length), (8, .int .i64 (i + 1 : Nat))], _, ⟨rfl, rfl, rfl, rfl, trivial⟩, by omega, i + 1, by omega, rfl, rfl, rfl, (any_takeG hx hj).trans h2⟩
  · rw [List.take_of_length_le (by omega)] at hj
    refine awp_exit (hK1 _ _ (awp_rs (ao_r (rig_assign rfl rfl) rfl (ao_nil ?_))))
    exact awp_ret ⟨_, res1 Try.results40 rfl, by rw [idxG_none hj], HpLe.refl _⟩
theorem e14 : Enters Try.prog 14 := enters_of Try.func14 (by kernel_rfl) rfl
set_option maxRecDepth 100000 in
theorem F14 (m : Hp) (v : Value) (l : List Sn) (n : Int) (hv : RdSl m encSn 3 v l) (hl : l.length ≤ 1099511627776) : GC Try.prog 14 #[v, .int .i64 n] m (fun u m' => u = .tuple #[(lonS l n).val, .bool (l.any (fileIs n))] ∧ HpLe m m') := by
  obtain ⟨A, ca, rfl, _⟩ := RdSl.form encSn_len (by decide) hv
  refine gc_intro (vs := [_, _]) Try.func14 rfl Try.ntmps14 (by simp) ?_
  refine awp_u (awp_rs ?_)
  refine ao_x (ex_box rfl (Dj_single m) rfl) rfl fun u m1 ⟨p3, hu, hm1, hD1⟩ => ?_
  subst hu hm1
  refine ao_x (ex_alloc rfl hD1 Try.zeroValue45) rfl fun u m2 ⟨p4, hu, hm2, hD⟩ => ao_r (rig_assign rfl rfl) rfl (ao_nil ?_)
  subst hu hm2
  replace hD : Dj [snB p4 ⟨0, 0, 0⟩, Go.Aw.one p3 (.cells #[.int .i64 n] 3 (0, 0)), m] := hD
  show AWp _ _ _ _ _ (U [snB p4 ⟨0, 0, 0⟩, Go.Aw.one p3 (.cells #[.int .i64 n] 3 (0, 0)), m])
  have hm : HpLe m (U [snB p4 ⟨0, 0, 0⟩, Go.Aw.one p3 (.cells #[.int .i64 n] 3 (0, 0)), m]) := le_at 2 hD rfl
  have hp3 : CellsAt (U [snB p4 ⟨0, 0, 0⟩, Go.Aw.one p3 (.cells #[.int .i64 n] 3 (0, 0)), m]) p3 0 [.int .i64 n] := (cellsAt_one p3 #[.int .i64 n] 3).le (le_at 1 hD rfl)
  refine awp_sk fun K1 hK1 => awp_rs (ao_r (rig_move rfl rfl) rfl (ao_r (rig_makeFunc (fs := []) (cs := [_]) rfl rfl rfl) rfl (ao_r (rig_call rfl rfl e40 (F40 _ _ l p3 n (RdSl.le hv hm) hp3 hl)) rfl (ao_r (rig_assign rfl rfl) rfl (ao_nil ?_)))))
  refine awp_rs (ao_r (rig_move rfl rfl) rfl (ao_r (rig_geq rfl rfl rfl) rfl (ao_nil ?_)))
  refine awp_if rfl (fun h => ?_) (fun h => awp_skip (hK1 _ _ ?_))
  · obtain ⟨i, x, hi, hx, hp⟩ := idxG_some h
    have hil := (List.getElem?_eq_some_iff.1 hx).1
    obtain ⟨b1, o1, c1, e1, hxc⟩ := RdSl.get_ encSn_len (by decide) (RdSl.le hv hm) hx
    simp only [Value.slice.injEq] at e1
    obtain ⟨rfl, _, rfl⟩ := e1
    rw [hi]
    have ha := idxG_any.1 h
    have hfi : i = l.findIdx (fileIs n) := by rw [idxG, if_pos ha] at hi; omega
    have hx2 : lonS l n = x := lonS_hit hx (by
      rw [List.any_eq_false]
      intro y hy
      obtain ⟨j, hj, rfl⟩ := List.mem_take_iff_getElem.1 hy
      have := List.not_of_lt_findIdx (p := fileIs n) (xs := l) (i := j) (by omega)
      simpa using this) hp
    refine awp_rs (ao_r (rig_move rfl rfl) rfl (ao_r (rig_move rfl rfl) rfl (ao_r (rig_ix i rfl rfl rfl Try.underlying41 Try.sizeOf45 rfl rfl hil) rfl (ao_r (rig_loadN (vs := encSn x) rfl rfl Try.isAgg45 Try.sizeOf45 hxc) rfl ?_))))
    refine ao_x0 (ex_store (i := 0) rfl hD rfl rfl Try.sizeOf45 (encSn_one x) rfl (by simp [Value.cells, encSn])) fun u m7 ⟨_, hm7, hD7⟩ => ao_r (rig_assign rfl rfl) rfl (ao_nil ?_)
    subst hm7
    replace hD7 : Dj [snB p4 x, Go.Aw.one p3 (.cells #[.int .i64 n] 3 (0, 0)), m] := hD7
    exact awp_ret ⟨_, resC2 (vs := encSn x) Try.results14 rfl rfl Try.isAgg45 Try.sizeOf45 (snB_at 0 hD7 rfl), by rw [hx2, ha]; rfl, le_at 2 hD7 rfl⟩
  · have ha : l.any (fileIs n) = false := by
      rw [Bool.eq_false_iff]; exact fun hc => h (idxG_any.2 hc)
    refine awp_rs (ao_r (rig_build (pl := #[(0, 1), (1, 1), (2, 1)]) (cs := (encSn ⟨0, 0, 0⟩).toArray) rfl rfl Try.underlying45 Try.zeroValue45 (fun w => by kernel_rfl) rfl) rfl ?_)
    refine ao_x0 (ex_store (i := 0) rfl hD rfl rfl Try.sizeOf45 (encSn_one ⟨0, 0, 0⟩) rfl (by simp [Value.cells, encSn])) fun u m7 ⟨_, hm7, hD7⟩ => ao_r (rig_assign rfl rfl) rfl (ao_nil ?_)
    subst hm7
    replace hD7 : Dj [snB p4 ⟨0, 0, 0⟩, Go.Aw.one p3 (.cells #[.int .i64 n] 3 (0, 0)), m] := hD7
    exact awp_ret ⟨_, resC2 (vs := encSn ⟨0, 0, 0⟩) Try.results14 rfl rfl Try.isAgg45 Try.sizeOf45 (snB_at 0 hD7 rfl), by rw [lonS_none ha, ha]; rfl, le_at 2 hD7 rfl⟩
theorem e36 : Enters Try.prog 36 := enters_of Try.func36 (by kernel_rfl) rfl
set_option maxHeartbeats 1000000 in
set_option maxRecDepth 100000 in
/-- Read of the reference, at a file that is there. -/
theorem F36 (m : Hp) (vn vf vo : Value) (fs : List Fl) (i : Nat) (x : Fl) (hf : RdSl m encF 5 vf fs) (hl : fs.length ≤ 1048576) (hi : idxG (inoIs x.ino) fs = i) (hx : fs[i]? = some x) (ho : x.Ok m) (hF : FOk 1048576 x) :
    GC Try.prog 36 #[.agg #[vn, vf, vo], .int .i64 x.ino] m (fun u m' => ∃ (y : Fl) (c G : Hp), u = .tuple #[y.val, .bool true] ∧ m' = U [c, G] ∧ Dj [c, G] ∧ HpLe m G ∧ y.ino = x.ino ∧ y.data = x.data.take (x.data.length - x.left.toNat) ∧ RdSl c encB 1 (.slice y.A y.n y.cap) y.data ∧ y.data.length ≤ y.cap) := by
  obtain ⟨Af, kf, rfl, _⟩ := RdSl.form encF_len (by decide) hf
  have hil := (List.getElem?_eq_some_iff.1 hx).1
  have hxn := ho.len
  refine gc_intro (vs := [_, _]) Try.func36 rfl Try.ntmps36 (by simp) ?_
  refine awp_rs ?_
  refine ao_x (ex_boxR rfl rfl) rfl fun v m2 ⟨p2, hv, hl2, hc2⟩ => ?_
  subst hv
  rw [U_one m2]
  refine ao_x (ex_alloc rfl (Dj_single m2) Try.zeroValue61) rfl fun u m3 ⟨p4, hu, hm3, hD1⟩ => ao_r (rig_assign rfl rfl) rfl (ao_nil ?_)
  subst hu hm3
  replace hD1 : Dj [filB p4 ⟨0, none, 0, 0, [], false, false, 0⟩, m2] := hD1
  show AWp _ _ _ _ _ (U [filB p4 ⟨0, none, 0, 0, [], false, false, 0⟩, m2])
  have h12 : HpLe m2 (U [filB p4 ⟨0, none, 0, 0, [], false, false, 0⟩, m2]) := le_at 1 hD1 rfl
  have hm1 := hl2.trans h12
  have hc2' := hc2.le h12
  obtain ⟨d0, d1, d2, _⟩ := id hc2'
  refine awp_rs (ao_r (rig_loadN (vs := [_, _, _]) rfl rfl Try.isAgg30 Try.sizeOf30 hc2') rfl (ao_r (rig_move rfl rfl) rfl (ao_r (rig_call rfl rfl e21 (F21 _ _ _ _ fs x.ino (RdSl.le hf hm1) hl)) rfl (ao_r (rig_assign rfl rfl) rfl (ao_nil ?_)))))
  rw [hi]
  refine awp_sk fun K1 hK1 => awp_rs (ao_r (rig_move rfl rfl) rfl (ao_r (rig_lss rfl rfl rfl) rfl (ao_nil ?_)))
  refine awp_if rfl (fun h => by omega) (fun _ => awp_skip (hK1 _ _ (awp_rs ?_)))
  obtain ⟨b1, o1, c1, e1, hxc⟩ := RdSl.get_ encF_len (by decide) (RdSl.le hf hm1) hx
  simp only [Value.slice.injEq] at e1
  obtain ⟨rfl, _, rfl⟩ := e1
  refine ao_r (rig_fieldAddr rfl rfl Try.underlying30 rfl Try.sizeOf27 rfl) rfl (ao_r (rig_load1 rfl rfl Try.isAgg27 d1) rfl (ao_r (rig_move rfl rfl) rfl (ao_r (rig_ix i rfl rfl rfl Try.underlying27 Try.sizeOf61 rfl rfl hil) rfl (ao_r (rig_loadN (vs := encF x) rfl rfl Try.isAgg61 Try.sizeOf61 hxc) rfl ?_))))
  refine ao_x (ex_alloc rfl hD1 Try.zeroValue61) rfl fun u m7 ⟨p7, hu, hm7, hD7⟩ => ?_
  subst hu hm7
  refine ao_x0 (ex_store (i := 0) rfl hD7 rfl rfl Try.sizeOf61 (encF_one x) rfl (by simp [Value.cells, encF])) fun u m8 ⟨_, hm8, hD8⟩ => ao_nil ?_
  subst hm8
  rw [List.set_cons_zero, putR_all _ _ (by rfl)] at hD8 ⊢
  replace hD8 : Dj [filB p7 x, filB p4 ⟨0, none, 0, 0, [], false, false, 0⟩, m2] := hD8
  show AWp _ _ _ _ _ (U [filB p7 x, filB p4 ⟨0, none, 0, 0, [], false, false, 0⟩, m2])
  obtain ⟨x0, x1, x2, x3, x4, _⟩ := filB_at 0 hD8 rfl
  have hm8 : HpLe m (U [filB p7 x, filB p4 ⟨0, none, 0, 0, [], false, false, 0⟩, m2]) := hl2.trans (le_at 2 hD8 rfl)
  have hf0 := hF.l0
  have hf1 := hF.l1
  have hfd := hF.d
  obtain ⟨L, hL⟩ : ∃ L : Nat, x.left = L := ⟨x.left.toNat, by omega⟩
  have hLt : x.left.toNat = L := by omega
  rw [hLt]
  have hk : x.data.length - L ≤ x.data.length := Nat.sub_le _ _
  refine awp_rs (ao_r (rig_fieldAddr rfl rfl Try.underlying61 rfl Try.sizeOf22 rfl) rfl (ao_r (rig_load1 rfl rfl Try.isAgg22 x1) rfl (ao_r (rig_fieldAddr rfl rfl Try.underlying61 rfl Try.sizeOf22 rfl) rfl (ao_r (rig_load1 rfl rfl Try.isAgg22 x1) rfl (ao_r (rig_lenSl rfl rfl Try.underlying22) rfl (ao_r (rig_fieldAddr rfl rfl Try.underlying61 rfl Try.sizeOf3 rfl) rfl (ao_r (rig_load1 rfl rfl Try.isAgg3 x4) rfl ?_)))))))
  refine ao_r (rig_sub (c := ((x.data.length - L : Nat) : Int)) rfl rfl rfl (by rw [hL, hxn, show (x.data.length : Int) - (L : Int) = ((x.data.length - L : Nat) : Int) by omega]; exact w64 _ (by omega) (by omega))) rfl ?_
  refine ao_r (rig_slH (x.data.length - L) rfl rfl rfl Try.underlying22 Try.sizeOf5 rfl (by have := ho.2; omega)) rfl ?_
  have hsrc := RdSl.take encB_len (by decide) ho.1 hk x.cap
  refine ao_x (ex_appendNil (by_ := 1) rfl hD8 rfl rfl Try.underlying22 inf5 rfl (by decide) (by decide) (RdSl.le hsrc hm8) (one_rows encB_one _) (by rw [rows_length encB_len, List.length_take]; omega)) rfl fun v9 m9 ⟨c9, hO9, hm9, hD9⟩ => ao_r (rig_fieldAddr rfl rfl Try.underlying61 rfl Try.sizeOf22 rfl) rfl ?_
  subst hm9
  obtain ⟨A9, k9, rfl⟩ := hO9.len encB_len (by decide)
  have hk9 := hO9.le_cap
  refine ao_x0 (ex_store (i := 1) rfl hD9 rfl rfl Try.sizeOf22 (by simp [Value.cells, Value.oneCell']) rfl (by simp [Value.cells, encF])) fun u m10 ⟨_, hm10, hD10⟩ => ao_nil ?_
  subst hm10
  replace hD10 : Dj [c9, filB p7 ⟨x.ino, A9, (x.data.take (x.data.length - L)).length, k9, x.data.take (x.data.length - L), x.copy, x.whole, x.left⟩, filB p4 ⟨0, none, 0, 0, [], false, false, 0⟩, m2] := hD10
  show AWp _ _ _ _ _ (U [c9, filB p7 ⟨x.ino, A9, (x.data.take (x.data.length - L)).length, k9, x.data.take (x.data.length - L), x.copy, x.whole, x.left⟩, filB p4 ⟨0, none, 0, 0, [], false, false, 0⟩, m2])
  refine awp_rs (ao_r (rig_fieldAddr rfl rfl Try.underlying61 rfl Try.sizeOf3 rfl) rfl ?_)
  refine ao_x0 (ex_store (i := 1) rfl hD10 rfl rfl Try.sizeOf3 (by simp [Value.cells, Value.oneCell']) rfl (by simp [Value.cells, encF])) fun u m11 ⟨_, hm11, hD11⟩ => ao_nil ?_
  subst hm11
  replace hD11 : Dj [c9, filB p7 ⟨x.ino, A9, (x.data.take (x.data.length - L)).length, k9, x.data.take (x.data.length - L), x.copy, x.whole, 0⟩, filB p4 ⟨0, none, 0, 0, [], false, false, 0⟩, m2] := hD11
  show AWp _ _ _ _ _ (U [c9, filB p7 ⟨x.ino, A9, (x.data.take (x.data.length - L)).length, k9, x.data.take (x.data.length - L), x.copy, x.whole, 0⟩, filB p4 ⟨0, none, 0, 0, [], false, false, 0⟩, m2])
  refine awp_rs (ao_r (rig_loadN (vs := encF _) rfl rfl Try.isAgg61 Try.sizeOf61 (filB_at 1 hD11 rfl)) rfl ?_)
  refine ao_x0 (ex_store (i := 2) rfl hD11 rfl rfl Try.sizeOf61 (encF_one _) rfl (by simp [Value.cells, encF])) fun u m12 ⟨_, hm12, hD12⟩ => ao_r (rig_assign rfl rfl) rfl (ao_nil ?_)
  subst hm12
  replace hD12 : Dj [c9, filB p7 ⟨x.ino, A9, (x.data.take (x.data.length - L)).length, k9, x.data.take (x.data.length - L), x.copy, x.whole, 0⟩, filB p4 ⟨x.ino, A9, (x.data.take (x.data.length - L)).length, k9, x.data.take (x.data.length - L), x.copy, x.whole, 0⟩, m2] := hD12
  exact awp_ret ⟨_, resC2 (vs := encF ⟨x.ino, A9, (x.data.take (x.data.length - L)).length, k9, x.data.take (x.data.length - L), x.copy, x.whole, 0⟩) Try.results36 rfl rfl Try.isAgg61 Try.sizeOf61 (filB_at 2 hD12 rfl), ⟨x.ino, A9, (x.data.take (x.data.length - L)).length, k9, x.data.take (x.data.length - L), x.copy, x.whole, 0⟩, c9, _, rfl, (U_flat [c9] _).symm, Dj_unflat (A := [c9]) hD12, hl2.trans (le_at 2 hD12.2 rfl), rfl, rfl, hO9.rd, hk9⟩
end Go.Proofs.Ytbonkkbpjlikjaa
