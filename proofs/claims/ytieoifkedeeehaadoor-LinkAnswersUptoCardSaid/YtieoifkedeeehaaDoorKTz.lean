/- Link: math/bits.TrailingZeros32, Len32. -/
import Derived.Test.YtieoifkedeeehaaDoorKBase
namespace Go.LH.K
open Go Go.LH
set_option linter.unusedSimpArgs false
set_option linter.unusedVariables false
set_option maxRecDepth 100000
set_option maxHeartbeats 4000000
theorem and_odd {q n : Nat} (h : 2 * q + 1 < 2 ^ n) : (2 * q + 1) &&& (2 ^ n - (2 * q + 1)) = 1 := by
  apply Nat.eq_of_testBit_eq
  intro j
  rw [Nat.testBit_and, Nat.testBit_two_pow_sub_succ (x := 2 * q) (by omega)]
  cases j with
  | zero =>
    have hn : 0 < n := by
      rcases Nat.eq_zero_or_pos n with rfl | h0
      · simp at h
      · exact h0
    simp [Nat.testBit_zero, hn]
  | succ j =>
    rw [Nat.testBit_succ, Nat.testBit_succ, show (2 * q + 1) / 2 = q by omega, show 2 * q / 2 = q by omega]
    cases h1 : q.testBit j <;> simp [Nat.testBit_succ]
theorem and_low {t q : Nat} (ht : t ≤ 32) (h : 2 ^ t * (2 * q + 1) < 4294967296) : (2 ^ t * (2 * q + 1)) &&& (4294967296 - 2 ^ t * (2 * q + 1)) = 2 ^ t := by
  have e : (4294967296 : Nat) = 2 ^ t * 2 ^ (32 - t) := by rw [← Nat.pow_add, show t + (32 - t) = 32 by omega]
  have hq : 2 * q + 1 < 2 ^ (32 - t) := by
    rw [e] at h
    exact Nat.lt_of_mul_lt_mul_left h
  have e2 : 4294967296 - 2 ^ t * (2 * q + 1) = 2 ^ t * (2 ^ (32 - t) - (2 * q + 1)) := by rw [e, Nat.mul_sub]
  rw [e2, Nat.mul_comm (2 ^ t), Nat.mul_comm (2 ^ t), ← Nat.shiftLeft_eq, ← Nat.shiftLeft_eq, ← Nat.shiftLeft_and_distrib, and_odd hq]
  simp [Nat.shiftLeft_eq]
/-- The bit operators, held folded. -/
def andU (k : IntKind) (a b : Int) : Int := k.wrap (BitVec.ofInt k.bits a &&& BitVec.ofInt k.bits b).toNat
def xorU (k : IntKind) (a b : Int) : Int := k.wrap (BitVec.ofInt k.bits a ^^^ BitVec.ofInt k.bits b).toNat
theorem band (k : IntKind) (a b : Int) : binE .and (.int k a) (.int k b) = some (.int k (andU k a b)) := by simp [binE, andU]
theorem bxor (k : IntKind) (a b : Int) : binE .xor (.int k a) (.int k b) = some (.int k (xorU k a b)) := by simp [binE, xorU]
attribute [go_sem ↓] band bxor
theorem wrap32 {n : Nat} (h : n < 4294967296) : IntKind.wrap .u32 (n : Int) = n := by
  simp [IntKind.wrap, IntKind.bits, IntKind.signed]; omega
theorem and32 {x y : Nat} (hx : x < 4294967296) (hy : y < 4294967296) : andU .u32 x y = ((x &&& y : Nat) : Int) := by
  unfold andU; rw [show IntKind.bits .u32 = 32 from rfl, BitVec.ofInt_natCast, BitVec.ofInt_natCast]
  have e : (BitVec.ofNat 32 x &&& BitVec.ofNat 32 y).toNat = x &&& y := by
    rw [BitVec.toNat_and, BitVec.toNat_ofNat, BitVec.toNat_ofNat, Nat.mod_eq_of_lt (by omega), Nat.mod_eq_of_lt (by omega)]
  rw [e, wrap32]
  exact Nat.lt_of_le_of_lt Nat.and_le_left hx
theorem neg32 {x : Nat} (h0 : 0 < x) (h : x < 4294967296) : IntKind.wrap .u32 (0 - (x : Int)) = ((4294967296 - x : Nat) : Int) := by
  simp [IntKind.wrap, IntKind.bits, IntKind.signed]; omega
theorem fd (a b : Nat) : (a : Int).fdiv (b : Int) = ((a / b : Nat) : Int) := (Int.ofNat_fdiv a b).symm
theorem m27 : min 27 32 = 27 := rfl
theorem m16 : min 16 32 = 16 := rfl
theorem m8 : min 8 32 = 8 := rfl
def tzI (t : Nat) : Nat := 2 ^ t * 125613361 % 4294967296 / 134217728
theorem tz_i : ∀ t, t < 32 → (IntKind.wrap .u32 (((2 ^ t : Nat) : Int) * 125613361)).fdiv 134217728 = ((tzI t : Nat) : Int) ∧ tzI t < 32 ∧ tzTab[tzI t]? = some t := by decide +kernel
theorem tab_drop {α : Type} : ∀ {l : List α} {i : Nat} {x : α}, l[i]? = some x → ∃ r, l.drop i = x :: r
  | [], i, x, h => by simp at h
  | y :: r, 0, x, h => by simp at h; subst h; exact ⟨r, rfl⟩
  | y :: r, i + 1, x, h => by obtain ⟨s, hs⟩ := tab_drop (l := r) (i := i) (by simpa using h); exact ⟨s, by simpa using hs⟩
/-- bits.Len's table. -/
def lenCk (t : ByteArray) (y l : Nat) : Bool := !(Nat.ble (2 ^ (l - 1)) y && Nat.blt y (2 ^ l) && Nat.ble 1 l) || (match t[y]? with | some v => Nat.beq v.toNat l | none => false)
theorem len_ck : (List.range 256).all (fun y => (List.range 9).all fun l => lenCk ⟨⟨[0, 1, 2, 2, 3, 3, 3, 3, 4, 4, 4, 4, 4, 4, 4, 4, 5, 5, 5, 5, 5, 5, 5, 5, 5, 5, 5, 5, 5, 5, 5, 5, 6, 6, 6, 6, 6, 6, 6, 6, 6, 6, 6, 6, 6, 6, 6, 6, 6, 6, 6, 6, 6, 6, 6, 6, 6, 6, 6, 6, 6, 6, 6, 6, 7, 7, 7, 7, 7, 7, 7, 7, 7, 7, 7, 7, 7, 7, 7, 7, 7, 7, 7, 7, 7, 7, 7, 7, 7, 7, 7, 7, 7, 7, 7, 7, 7, 7, 7, 7, 7, 7, 7, 7, 7, 7, 7, 7, 7, 7, 7, 7, 7, 7, 7, 7, 7, 7, 7, 7, 7, 7, 7, 7, 7, 7, 7, 7, 8, 8, 8, 8, 8, 8, 8, 8, 8, 8, 8, 8, 8, 8, 8, 8, 8, 8, 8, 8, 8, 8, 8, 8, 8, 8, 8, 8, 8, 8, 8, 8, 8, 8, 8, 8, 8, 8, 8, 8, 8, 8, 8, 8, 8, 8, 8, 8, 8, 8, 8, 8, 8, 8, 8, 8, 8, 8, 8, 8, 8, 8, 8, 8, 8, 8, 8, 8, 8, 8, 8, 8, 8, 8, 8, 8, 8, 8, 8, 8, 8, 8, 8, 8, 8, 8, 8, 8, 8, 8, 8, 8, 8, 8, 8, 8, 8, 8, 8, 8, 8, 8, 8, 8, 8, 8, 8, 8, 8, 8, 8, 8, 8, 8, 8, 8, 8, 8, 8, 8, 8, 8, 8, 8, 8, 8, 8, 8]⟩⟩ y l) = true := by decide +kernel
theorem len_tab (y : Nat) (hy : y < 256) (l : Nat) (hl : l < 9) (h1 : 2 ^ (l - 1) ≤ y) (h2 : y < 2 ^ l) (h3 : 1 ≤ l) : (⟨⟨[0, 1, 2, 2, 3, 3, 3, 3, 4, 4, 4, 4, 4, 4, 4, 4, 5, 5, 5, 5, 5, 5, 5, 5, 5, 5, 5, 5, 5, 5, 5, 5, 6, 6, 6, 6, 6, 6, 6, 6, 6, 6, 6, 6, 6, 6, 6, 6, 6, 6, 6, 6, 6, 6, 6, 6, 6, 6, 6, 6, 6, 6, 6, 6, 7, 7, 7, 7, 7, 7, 7, 7, 7, 7, 7, 7, 7, 7, 7, 7, 7, 7, 7, 7, 7, 7, 7, 7, 7, 7, 7, 7, 7, 7, 7, 7, 7, 7, 7, 7, 7, 7, 7, 7, 7, 7, 7, 7, 7, 7, 7, 7, 7, 7, 7, 7, 7, 7, 7, 7, 7, 7, 7, 7, 7, 7, 7, 7, 8, 8, 8, 8, 8, 8, 8, 8, 8, 8, 8, 8, 8, 8, 8, 8, 8, 8, 8, 8, 8, 8, 8, 8, 8, 8, 8, 8, 8, 8, 8, 8, 8, 8, 8, 8, 8, 8, 8, 8, 8, 8, 8, 8, 8, 8, 8, 8, 8, 8, 8, 8, 8, 8, 8, 8, 8, 8, 8, 8, 8, 8, 8, 8, 8, 8, 8, 8, 8, 8, 8, 8, 8, 8, 8, 8, 8, 8, 8, 8, 8, 8, 8, 8, 8, 8, 8, 8, 8, 8, 8, 8, 8, 8, 8, 8, 8, 8, 8, 8, 8, 8, 8, 8, 8, 8, 8, 8, 8, 8, 8, 8, 8, 8, 8, 8, 8, 8, 8, 8, 8, 8, 8, 8, 8, 8, 8, 8]⟩⟩ : ByteArray)[y]? = some (UInt8.ofNat l) := by
  have h := List.all_eq_true.1 (List.all_eq_true.1 len_ck y (by simpa using hy)) l (by simpa using hl)
  generalize (⟨⟨[0, 1, 2, 2, 3, 3, 3, 3, 4, 4, 4, 4, 4, 4, 4, 4, 5, 5, 5, 5, 5, 5, 5, 5, 5, 5, 5, 5, 5, 5, 5, 5, 6, 6, 6, 6, 6, 6, 6, 6, 6, 6, 6, 6, 6, 6, 6, 6, 6, 6, 6, 6, 6, 6, 6, 6, 6, 6, 6, 6, 6, 6, 6, 6, 7, 7, 7, 7, 7, 7, 7, 7, 7, 7, 7, 7, 7, 7, 7, 7, 7, 7, 7, 7, 7, 7, 7, 7, 7, 7, 7, 7, 7, 7, 7, 7, 7, 7, 7, 7, 7, 7, 7, 7, 7, 7, 7, 7, 7, 7, 7, 7, 7, 7, 7, 7, 7, 7, 7, 7, 7, 7, 7, 7, 7, 7, 7, 7, 8, 8, 8, 8, 8, 8, 8, 8, 8, 8, 8, 8, 8, 8, 8, 8, 8, 8, 8, 8, 8, 8, 8, 8, 8, 8, 8, 8, 8, 8, 8, 8, 8, 8, 8, 8, 8, 8, 8, 8, 8, 8, 8, 8, 8, 8, 8, 8, 8, 8, 8, 8, 8, 8, 8, 8, 8, 8, 8, 8, 8, 8, 8, 8, 8, 8, 8, 8, 8, 8, 8, 8, 8, 8, 8, 8, 8, 8, 8, 8, 8, 8, 8, 8, 8, 8, 8, 8, 8, 8, 8, 8, 8, 8, 8, 8, 8, 8, 8, 8, 8, 8, 8, 8, 8, 8, 8, 8, 8, 8, 8, 8, 8, 8, 8, 8, 8, 8, 8, 8, 8, 8, 8, 8, 8, 8, 8, 8]⟩⟩ : ByteArray) = t at h ⊢
  unfold lenCk at h
  rw [show Nat.ble (2 ^ (l - 1)) y = true by simpa using h1, show Nat.blt y (2 ^ l) = true by simpa [Nat.blt, Nat.succ_le_iff] using Nat.succ_le_of_lt h2, show Nat.ble 1 l = true by simpa using h3] at h
  cases e : t[y]? with
  | none => rw [e] at h; simp at h
  | some v =>
    rw [e] at h
    have : v.toNat = l := by simpa using h
    subst this
    simp
variable {P : Program} {b : Nat → Addr} (hP : Codes P)
include hP
theorem z_tz {t q : Nat} (ht : t < 32) (h : 2 ^ t * (2 * q + 1) < 4294967296) : Ans (zG b) P 42 [.c (uC (2 ^ t * (2 * q + 1) : Nat))] (.c (iC t)) := by
  have hpos : 0 < 2 ^ t * (2 * q + 1) := Nat.mul_pos (Nat.pow_pos (by decide)) (by omega)
  have hand := and_low (by omega) h
  generalize hx : 2 ^ t * (2 * q + 1) = x at h hand hpos ⊢
  have h0 : ((x : Int) == 0) = false := by simp; omega
  have h1 := neg32 hpos h
  have h2 := and32 h (y := 4294967296 - x) (by omega)
  rw [hand] at h2
  obtain ⟨h3, h4, h5⟩ := tz_i t ht
  generalize 2 ^ t = p at h2 h3
  have h6 : (0 : Int) ≤ ((tzI t : Nat) : Int) := Int.natCast_nonneg _
  have h7 : ((tzI t : Nat) : Int) < ((32 : Nat) : Int) := Int.ofNat_lt.2 h4
  have h8 : zG b 20 = some (tzTab.map fun (n : Nat) => .int .u8 n) := rfl
  obtain ⟨r, hr⟩ : ∃ r, (((tzTab.map fun (n : Nat) => Value.int .u8 n)).map Cv.val).drop (tzI t) = .val (.int .u8 ((t : Nat) : Int)) :: r := tab_drop (by simp [h5])
  have hw : IntKind.wrap .i64 ((t : Nat) : Int) = t := wrap_nat (by omega)
  clear hx
  generalize hn : tzI t = i at *
  clear hn
  refine good_z hP rfl rfl ?_
  simp -implicitDefEqProofs only [go_sem, kbase, Nat.reduceBEq, Nat.reduceLT, Nat.reduceAdd, Nat.reduceEqDiff, Nat.reduceLeDiff, reduceIte, Int.reduceEq, Int.reduceLT, Int.reduceLE, Int.reduceToNat, Int.reduceAdd, r42, m27, m16, m8, Int.reducePow]
  repeat' first | simp -implicitDefEqProofs only [go_sem, kbase, Nat.reduceBEq, Nat.reduceLT, Nat.reduceAdd, Nat.reduceEqDiff, Nat.reduceLeDiff, reduceIte, Int.reduceEq, Int.reduceLT, Int.reduceLE, Int.reduceToNat, Int.reduceAdd, *, m27, m16, m8, Int.reducePow, Int.toNat_natCast, Nat.mul_one, Nat.zero_add] | (with_reducible refine guard_intro (fun _ => ?_) (fun _ => ?_)) | (with_reducible refine cond_intro (fun _ => ?_) (fun _ => ?_)) | ((with_reducible apply gc_intro); exact rfl) | ((with_reducible apply endE_intro); exact rfl; exact rfl) | (with_reducible refine guardD_intro (fun _ => ?_) (fun _ => ?_))
  all_goals first | exact rfl | exact ⟨rfl, rfl⟩ | (simp []; done)
theorem z_len {x l : Nat} (hx : x < 4294967296) (hl : 1 ≤ l) (h1 : 2 ^ (l - 1) ≤ x) (h2 : x < 2 ^ l) : Ans (zG b) P 40 [.c (uC x)] (.c (iC l)) := by
  have tab := len_tab
  have hle : ∀ n, x < 2 ^ n → l ≤ n := by
    intro n hn
    rcases Nat.lt_or_ge n l with h | h
    · have := Nat.pow_le_pow_right (n := 2) (by decide) (show n ≤ l - 1 by omega); omega
    · exact h
  have hge : ∀ n, 2 ^ n ≤ x → n + 1 ≤ l := by
    intro n hn
    rcases Nat.lt_or_ge n l with h | h
    · omega
    · have := Nat.pow_le_pow_right (n := 2) (by decide) h; omega
  have hl32 := hle 32 (by omega)
  have core : ∀ k, k < l → l ≤ k + 8 → x / 2 ^ k < 256 ∧ (⟨⟨[0, 1, 2, 2, 3, 3, 3, 3, 4, 4, 4, 4, 4, 4, 4, 4, 5, 5, 5, 5, 5, 5, 5, 5, 5, 5, 5, 5, 5, 5, 5, 5, 6, 6, 6, 6, 6, 6, 6, 6, 6, 6, 6, 6, 6, 6, 6, 6, 6, 6, 6, 6, 6, 6, 6, 6, 6, 6, 6, 6, 6, 6, 6, 6, 7, 7, 7, 7, 7, 7, 7, 7, 7, 7, 7, 7, 7, 7, 7, 7, 7, 7, 7, 7, 7, 7, 7, 7, 7, 7, 7, 7, 7, 7, 7, 7, 7, 7, 7, 7, 7, 7, 7, 7, 7, 7, 7, 7, 7, 7, 7, 7, 7, 7, 7, 7, 7, 7, 7, 7, 7, 7, 7, 7, 7, 7, 7, 7, 8, 8, 8, 8, 8, 8, 8, 8, 8, 8, 8, 8, 8, 8, 8, 8, 8, 8, 8, 8, 8, 8, 8, 8, 8, 8, 8, 8, 8, 8, 8, 8, 8, 8, 8, 8, 8, 8, 8, 8, 8, 8, 8, 8, 8, 8, 8, 8, 8, 8, 8, 8, 8, 8, 8, 8, 8, 8, 8, 8, 8, 8, 8, 8, 8, 8, 8, 8, 8, 8, 8, 8, 8, 8, 8, 8, 8, 8, 8, 8, 8, 8, 8, 8, 8, 8, 8, 8, 8, 8, 8, 8, 8, 8, 8, 8, 8, 8, 8, 8, 8, 8, 8, 8, 8, 8, 8, 8, 8, 8, 8, 8, 8, 8, 8, 8, 8, 8, 8, 8, 8, 8, 8, 8, 8, 8, 8, 8]⟩⟩ : ByteArray)[x / 2 ^ k]? = some (UInt8.ofNat (l - k)) ∧ (UInt8.ofNat (l - k)).toNat = l - k := by
    intro k hk hk8
    have hp : 0 < 2 ^ k := Nat.pow_pos (by decide)
    have e1 : 2 ^ l = 2 ^ (l - k) * 2 ^ k := by rw [← Nat.pow_add, show l - k + k = l by omega]
    have e2 : 2 ^ (l - 1) = 2 ^ (l - k - 1) * 2 ^ k := by rw [← Nat.pow_add, show l - k - 1 + k = l - 1 by omega]
    have q1 : x / 2 ^ k < 2 ^ (l - k) := (Nat.div_lt_iff_lt_mul hp).2 (by rw [← e1]; exact h2)
    have q2 : 2 ^ (l - k - 1) ≤ x / 2 ^ k := (Nat.le_div_iff_mul_le hp).2 (by rw [← e2]; exact h1)
    have q3 : 2 ^ (l - k) ≤ 256 := Nat.pow_le_pow_right (n := 2) (by decide) (show l - k ≤ 8 by omega)
    exact ⟨by omega, tab _ (by omega) (l - k) (by omega) q2 q1 (by omega), by simp; omega⟩
  clear tab
  refine good_z hP rfl rfl ?_
  by_cases c1 : x < 65536
  · have d1 : ¬ (65536 : Int) ≤ (x : Int) := by omega
    have hl16 : l ≤ 16 := hle 16 (by omega)
    by_cases c2 : x < 256
    · have d2 : ¬ (256 : Int) ≤ (x : Int) := by omega
      have hl8 : l ≤ 8 := hle 8 (by omega)
      obtain ⟨k1, k2, k3⟩ := core 0 (by omega) (by omega)
      rw [Nat.pow_zero, Nat.div_one] at k1 k2
      rw [Nat.sub_zero] at k2 k3
      have hw : IntKind.wrap .u8 (x : Int) = x := by simp [IntKind.wrap, IntKind.bits, IntKind.signed]; omega
      have h6 : (0 : Int) ≤ ((x : Nat) : Int) := by omega
      have hw2 : IntKind.wrap .i64 ((l : Nat) : Int) = l := wrap_nat (by omega)
      clear core hle hge h1 h2 hl hl8 hl16 hl32
      simp -implicitDefEqProofs only [go_sem, kbase, Nat.reduceBEq, Nat.reduceLT, Nat.reduceAdd, Nat.reduceEqDiff, Nat.reduceLeDiff, reduceIte, Int.reduceEq, Int.reduceLT, Int.reduceLE, Int.reduceToNat, Int.reduceAdd, r40, m27, m16, m8, Int.reducePow]
      repeat' first | simp -implicitDefEqProofs only [go_sem, kbase, Nat.reduceBEq, Nat.reduceLT, Nat.reduceAdd, Nat.reduceEqDiff, Nat.reduceLeDiff, reduceIte, Int.reduceEq, Int.reduceLT, Int.reduceLE, Int.reduceToNat, Int.reduceAdd, *, m27, m16, m8, Int.reducePow, Int.toNat_natCast, Int.zero_add] | (with_reducible refine guard_intro (fun _ => ?_) (fun _ => ?_)) | (with_reducible refine cond_intro (fun _ => ?_) (fun _ => ?_)) | ((with_reducible apply gc_intro); exact rfl) | ((with_reducible apply endE_intro); exact rfl; exact rfl) | (with_reducible refine guardD_intro (fun _ => ?_) (fun _ => ?_))
      all_goals first | exact rfl | exact ⟨rfl, rfl⟩ | (simp []; done)
    · have d2 : (256 : Int) ≤ (x : Int) := by omega
      have hl9 := hge 8 (by omega)
      obtain ⟨k1, k2, k3⟩ := core 8 (by omega) (by omega)
      have hf : (x : Int).fdiv 256 = ((x / 256 : Nat) : Int) := fd x 256
      rw [show 2 ^ 8 = 256 from rfl] at k1 k2
      generalize hy : x / 256 = y at k1 k2 hf
      have hw : IntKind.wrap .u8 (y : Int) = y := by simp [IntKind.wrap, IntKind.bits, IntKind.signed]; omega
      have h6 : (0 : Int) ≤ ((y : Nat) : Int) := by omega
      have hw0 : IntKind.wrap .i64 8 = 8 := by decide
      have hw2 : IntKind.wrap .i64 ((l - 8 : Nat) : Int) = ((l - 8 : Nat) : Int) := wrap_nat (by omega)
      have hw3 : IntKind.wrap .i64 (8 + ((l - 8 : Nat) : Int)) = (l : Int) := by rw [wrap_id (by unfold i64; omega)]; omega
      clear core hle hge h1 h2 hl hl9 hl16 hl32 hy
      simp -implicitDefEqProofs only [go_sem, kbase, Nat.reduceBEq, Nat.reduceLT, Nat.reduceAdd, Nat.reduceEqDiff, Nat.reduceLeDiff, reduceIte, Int.reduceEq, Int.reduceLT, Int.reduceLE, Int.reduceToNat, Int.reduceAdd, r40, m27, m16, m8, Int.reducePow]
      repeat' first | simp -implicitDefEqProofs only [go_sem, kbase, Nat.reduceBEq, Nat.reduceLT, Nat.reduceAdd, Nat.reduceEqDiff, Nat.reduceLeDiff, reduceIte, Int.reduceEq, Int.reduceLT, Int.reduceLE, Int.reduceToNat, Int.reduceAdd, *, m27, m16, m8, Int.reducePow, Int.toNat_natCast, Int.zero_add] | (with_reducible refine guard_intro (fun _ => ?_) (fun _ => ?_)) | (with_reducible refine cond_intro (fun _ => ?_) (fun _ => ?_)) | ((with_reducible apply gc_intro); exact rfl) | ((with_reducible apply endE_intro); exact rfl; exact rfl) | (with_reducible refine guardD_intro (fun _ => ?_) (fun _ => ?_))
      all_goals first | exact rfl | exact ⟨rfl, rfl⟩ | (simp []; done)
  · have d1 : (65536 : Int) ≤ (x : Int) := by omega
    have hl17 := hge 16 (by omega)
    have hf : (x : Int).fdiv 65536 = ((x / 65536 : Nat) : Int) := fd x 65536
    by_cases c2 : x / 65536 < 256
    · have d2 : ¬ (256 : Int) ≤ ((x / 65536 : Nat) : Int) := by omega
      have hl24 : l ≤ 24 := hle 24 (by omega)
      obtain ⟨k1, k2, k3⟩ := core 16 (by omega) (by omega)
      rw [show 2 ^ 16 = 65536 from rfl] at k1 k2
      generalize hy : x / 65536 = y at k1 k2 hf d2
      have hw : IntKind.wrap .u8 (y : Int) = y := by simp [IntKind.wrap, IntKind.bits, IntKind.signed]; omega
      have h6 : (0 : Int) ≤ ((y : Nat) : Int) := by omega
      have hw2 : IntKind.wrap .i64 ((l - 16 : Nat) : Int) = ((l - 16 : Nat) : Int) := wrap_nat (by omega)
      have hw3 : IntKind.wrap .i64 (16 + ((l - 16 : Nat) : Int)) = (l : Int) := by rw [wrap_id (by unfold i64; omega)]; omega
      clear core hle hge h1 h2 hl hl24 hl17 hl32 hy c2
      simp -implicitDefEqProofs only [go_sem, kbase, Nat.reduceBEq, Nat.reduceLT, Nat.reduceAdd, Nat.reduceEqDiff, Nat.reduceLeDiff, reduceIte, Int.reduceEq, Int.reduceLT, Int.reduceLE, Int.reduceToNat, Int.reduceAdd, r40, m27, m16, m8, Int.reducePow]
      repeat' first | simp -implicitDefEqProofs only [go_sem, kbase, Nat.reduceBEq, Nat.reduceLT, Nat.reduceAdd, Nat.reduceEqDiff, Nat.reduceLeDiff, reduceIte, Int.reduceEq, Int.reduceLT, Int.reduceLE, Int.reduceToNat, Int.reduceAdd, *, m27, m16, m8, Int.reducePow, Int.toNat_natCast, Int.zero_add] | (with_reducible refine guard_intro (fun _ => ?_) (fun _ => ?_)) | (with_reducible refine cond_intro (fun _ => ?_) (fun _ => ?_)) | ((with_reducible apply gc_intro); exact rfl) | ((with_reducible apply endE_intro); exact rfl; exact rfl) | (with_reducible refine guardD_intro (fun _ => ?_) (fun _ => ?_))
      all_goals first | exact rfl | exact ⟨rfl, rfl⟩ | (simp []; done)
    · have d2 : (256 : Int) ≤ ((x / 65536 : Nat) : Int) := by omega
      have hl25 := hge 24 (by omega)
      obtain ⟨k1, k2, k3⟩ := core 24 (by omega) (by omega)
      have hf2 : ((x / 65536 : Nat) : Int).fdiv 256 = ((x / 65536 / 256 : Nat) : Int) := fd _ 256
      rw [show 2 ^ 24 = 65536 * 256 from rfl, ← Nat.div_div_eq_div_mul] at k1 k2
      generalize hy : x / 65536 / 256 = y at k1 k2 hf2
      generalize hz : x / 65536 = z at hf hf2 d2
      have hw : IntKind.wrap .u8 (y : Int) = y := by simp [IntKind.wrap, IntKind.bits, IntKind.signed]; omega
      have h6 : (0 : Int) ≤ ((y : Nat) : Int) := by omega
      have hw0 : IntKind.wrap .i64 (16 + 8) = 24 := by decide
      have hw1 : IntKind.wrap .i64 24 = 24 := by decide
      have hw2 : IntKind.wrap .i64 ((l - 24 : Nat) : Int) = ((l - 24 : Nat) : Int) := wrap_nat (by omega)
      have hw3 : IntKind.wrap .i64 (24 + ((l - 24 : Nat) : Int)) = (l : Int) := by rw [wrap_id (by unfold i64; omega)]; omega
      clear core hle hge h1 h2 hl hl25 hl17 hl32 hy c2 hz
      simp -implicitDefEqProofs only [go_sem, kbase, Nat.reduceBEq, Nat.reduceLT, Nat.reduceAdd, Nat.reduceEqDiff, Nat.reduceLeDiff, reduceIte, Int.reduceEq, Int.reduceLT, Int.reduceLE, Int.reduceToNat, Int.reduceAdd, r40, m27, m16, m8, Int.reducePow]
      repeat' first | simp -implicitDefEqProofs only [go_sem, kbase, Nat.reduceBEq, Nat.reduceLT, Nat.reduceAdd, Nat.reduceEqDiff, Nat.reduceLeDiff, reduceIte, Int.reduceEq, Int.reduceLT, Int.reduceLE, Int.reduceToNat, Int.reduceAdd, *, m27, m16, m8, Int.reducePow, Int.toNat_natCast, Int.zero_add] | (with_reducible refine guard_intro (fun _ => ?_) (fun _ => ?_)) | (with_reducible refine cond_intro (fun _ => ?_) (fun _ => ?_)) | ((with_reducible apply gc_intro); exact rfl) | ((with_reducible apply endE_intro); exact rfl; exact rfl) | (with_reducible refine guardD_intro (fun _ => ?_) (fun _ => ?_))
      all_goals first | exact rfl | exact ⟨rfl, rfl⟩ | (simp []; done)
end Go.LH.K
