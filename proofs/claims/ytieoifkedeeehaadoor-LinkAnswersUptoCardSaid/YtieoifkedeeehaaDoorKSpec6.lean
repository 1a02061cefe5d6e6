/- Link: bits turned over. -/
import Derived.Test.YtieoifkedeeehaaDoorKTz
namespace Go.LH.K
open Go Go.LH
def bR (l : List UInt8) : List (List Cv) := l.map fun x => [Cv.val (.int .u8 x.toNat)]
theorem bR_len {l : List UInt8} : (bR l).length = l.length := by simp [bR]
theorem bytes_bR : ∀ l : List UInt8, bytesOfRows (bR l) = some l
  | [] => rfl
  | x :: r => by
    have := bytes_bR r
    unfold bR at this ⊢
    simp [bytesOfRows, this]
def tog (q : List UInt8) (j : Nat) : List UInt8 := match q[j / 8]? with
  | some x => q.set (j / 8) (x ^^^ UInt8.ofNat (2 ^ (j % 8)))
  | none => q
def turnN (q : List UInt8) (a m : Nat) : Nat → List UInt8
  | 0 => q
  | i + 1 => if m.testBit i then tog (turnN q a m i) (a + i) else turnN q a m i
theorem tog_len {q : List UInt8} {j : Nat} : (tog q j).length = q.length := by
  unfold tog; split <;> simp
theorem turnN_len {q : List UInt8} {a m : Nat} : ∀ n, (turnN q a m n).length = q.length
  | 0 => rfl
  | n + 1 => by
    simp only [turnN]
    split
    · rw [tog_len, turnN_len n]
    · exact turnN_len n
theorem turn_skip {q : List UInt8} {a m k : Nat} : ∀ n, k ≤ n → (∀ i, k ≤ i → i < n → m.testBit i = false) → turnN q a m n = turnN q a m k
  | 0, h, _ => by rw [show k = 0 by omega]
  | n + 1, h, hb => by
    rcases Nat.lt_or_ge n k with h1 | h1
    · rw [show k = n + 1 by omega]
    · simp only [turnN]
      rw [hb n h1 (by omega), if_neg (by simp)]
      exact turn_skip n h1 fun i h2 h3 => hb i h2 (by omega)
/-- What Turn answers: none is an error. -/
def turnL (q : List UInt8) (a : Int) (m : Nat) : Option (List UInt8) := if m = 0 ∨ a < 0 ∨ 8 * (q.length : Int) ≤ a + m.log2 then none else some (turnN q a.toNat m 32)
theorem odd_part : ∀ n x : Nat, 0 < x → x ≤ n → ∃ t q, x = 2 ^ t * (2 * q + 1)
  | 0, x, h, h1 => by omega
  | n + 1, x, h, h1 => by
    rcases Nat.mod_two_eq_zero_or_one x with h2 | h2
    · obtain ⟨t, q, e⟩ := odd_part n (x / 2) (by omega) (by omega)
      refine ⟨t + 1, q, ?_⟩
      rw [Nat.pow_succ, Nat.mul_comm (2 ^ t), Nat.mul_assoc, ← e]
      omega
    · exact ⟨0, x / 2, by rw [Nat.pow_zero]; omega⟩
theorem and_pred (t q : Nat) : (2 ^ t * (2 * q + 1)) &&& (2 ^ t * (2 * q + 1) - 1) = 2 ^ (t + 1) * q := by
  have hp : 0 < 2 ^ t := Nat.pow_pos (by decide)
  have hx : (2 ^ t * (2 * q + 1) - 1) / 2 ^ t = 2 * q := by
    have : 2 ^ t * (2 * q + 1) - 1 = (2 ^ t - 1) + 2 ^ t * (2 * q) := by rw [Nat.mul_add, Nat.mul_one]; omega
    rw [this, Nat.add_mul_div_left _ _ hp, Nat.div_eq_of_lt (by omega)]
    omega
  apply Nat.eq_of_testBit_eq
  intro j
  rw [Nat.testBit_and, Nat.testBit_two_pow_mul, Nat.testBit_two_pow_mul]
  by_cases hj : t ≤ j
  · obtain ⟨i, rfl⟩ : ∃ i, j = t + i := ⟨j - t, by omega⟩
    have e : (2 ^ t * (2 * q + 1) - 1).testBit (t + i) = (2 * q).testBit i := by
      have : ((2 ^ t * (2 * q + 1) - 1) / 2 ^ t).testBit i = (2 ^ t * (2 * q + 1) - 1).testBit (i + t) := Nat.testBit_div_two_pow _ _
      rw [hx] at this; rw [this, Nat.add_comm i t]
    rw [e, show t + i - t = i by omega]
    cases i with
    | zero => simp [Nat.testBit_zero]; omega
    | succ i =>
      have h1 : t + (i + 1) ≥ t := by omega
      have h2 : t + (i + 1) ≥ t + 1 := by omega
      rw [Nat.testBit_succ, Nat.testBit_succ, show (2 * q + 1) / 2 = q by omega, show 2 * q / 2 = q by omega, show t + (i + 1) - (t + 1) = i by omega]
      simp
  · have h1 : ¬ j ≥ t := hj
    have h2 : ¬ j ≥ t + 1 := by omega
    simp [h1, h2]
theorem turn_next {m k : Nat} (hm : m < 4294967296) (h : m / 2 ^ k * 2 ^ k ≠ 0) : ∃ t q, m / 2 ^ k * 2 ^ k = 2 ^ t * (2 * q + 1) ∧ k ≤ t ∧ t < 32 ∧ m.testBit t = true ∧ (∀ i, k ≤ i → i < t → m.testBit i = false) ∧
    (m / 2 ^ k * 2 ^ k) &&& (m / 2 ^ k * 2 ^ k - 1) = m / 2 ^ (t + 1) * 2 ^ (t + 1) ∧ m / 2 ^ (t + 1) * 2 ^ (t + 1) < m / 2 ^ k * 2 ^ k := by
  have hy : 0 < m / 2 ^ k := by
    rcases Nat.eq_zero_or_pos (m / 2 ^ k) with e | e
    · rw [e] at h; simp at h
    · exact e
  obtain ⟨s, q, e⟩ := odd_part _ (m / 2 ^ k) hy (Nat.le_refl _)
  have hbit : ∀ i, m.testBit (k + i) = (2 ^ s * (2 * q + 1)).testBit i := by
    intro i; rw [← e, Nat.testBit_div_two_pow, Nat.add_comm]
  have hx : m / 2 ^ k * 2 ^ k = 2 ^ (k + s) * (2 * q + 1) := by rw [e, Nat.pow_add, Nat.mul_comm, Nat.mul_assoc]
  have hb : m.testBit (k + s) = true := by
    rw [hbit, Nat.testBit_two_pow_mul]; simp [Nat.testBit_zero]
  have hq : m / 2 ^ (k + s + 1) = q := by
    rw [Nat.add_assoc, Nat.pow_add, ← Nat.div_div_eq_div_mul, e, Nat.pow_succ, ← Nat.div_div_eq_div_mul, Nat.mul_div_cancel_left _ (Nat.pow_pos (by decide))]
    omega
  refine ⟨k + s, q, hx, by omega, ?_, hb, ?_, ?_, ?_⟩
  · rcases Nat.lt_or_ge (k + s) 32 with h1 | h1
    · exact h1
    · rw [Nat.testBit_lt_two_pow (Nat.lt_of_lt_of_le (show m < 2 ^ 32 from hm) (Nat.pow_le_pow_right (by decide) h1))] at hb
      cases hb
  · intro i h1 h2
    obtain ⟨j, rfl⟩ : ∃ j, i = k + j := ⟨i - k, by omega⟩
    rw [hbit, Nat.testBit_two_pow_mul]
    have : ¬ j ≥ s := by omega
    simp [this]
  · rw [hx, and_pred, hq, Nat.mul_comm]
  · rw [hx, hq, Nat.pow_succ, Nat.mul_comm q, Nat.mul_assoc]
    exact Nat.mul_lt_mul_of_pos_left (by omega) (Nat.pow_pos (by decide))
theorem turn_end {q : List UInt8} {a m k : Nat} (hm : m < 4294967296) (hk : k ≤ 32) (h : m / 2 ^ k * 2 ^ k = 0) : turnN q a m k = turnN q a m 32 := by
  have hy : m / 2 ^ k = 0 := by
    rcases Nat.eq_zero_or_pos (m / 2 ^ k) with e | e
    · exact e
    · have := Nat.mul_pos e (Nat.pow_pos (n := k) (show 0 < 2 by decide)); omega
  refine (turn_skip 32 hk fun i h1 h2 => ?_).symm
  obtain ⟨j, rfl⟩ : ∃ j, i = k + j := ⟨i - k, by omega⟩
  rw [Nat.add_comm, ← Nat.testBit_div_two_pow, hy]; simp
theorem xor8 (x y : UInt8) : xorU .u8 (x.toNat : Int) (y.toNat : Int) = ((x ^^^ y).toNat : Int) := by
  unfold xorU
  rw [show IntKind.bits .u8 = 8 from rfl, BitVec.ofInt_natCast, BitVec.ofInt_natCast]
  have e : (BitVec.ofNat 8 x.toNat ^^^ BitVec.ofNat 8 y.toNat).toNat = (x ^^^ y).toNat := by
    rw [UInt8.toNat_xor, BitVec.toNat_xor, BitVec.toNat_ofNat, BitVec.toNat_ofNat, Nat.mod_eq_of_lt x.toNat_lt, Nat.mod_eq_of_lt y.toNat_lt]
  rw [e]
  have := (x ^^^ y).toNat_lt
  generalize (x ^^^ y).toNat = z at *
  simp [IntKind.wrap, IntKind.bits, IntKind.signed]; omega
theorem bit8 : ∀ k, k < 8 → IntKind.wrap .u8 (1 * 2 ^ min k 8) = ((UInt8.ofNat (2 ^ k)).toNat : Int) := by decide
theorem log_le {m t : Nat} (h : m.testBit t = true) : t ≤ m.log2 := by
  have hm : m ≠ 0 := by intro e; subst e; simp at h
  rcases Nat.lt_or_ge m.log2 t with h1 | h1
  · have := Nat.lt_log2_self (n := m)
    rw [Nat.testBit_lt_two_pow (Nat.lt_of_lt_of_le this (Nat.pow_le_pow_right (by decide) h1))] at h
    cases h
  · exact h1
theorem log_bit {m : Nat} (h : m ≠ 0) : m.testBit m.log2 = true := Nat.testBit_log2 h
theorem log_32 {m : Nat} (hm : m < 4294967296) : m.log2 < 32 := by
  rcases Nat.eq_zero_or_pos m with rfl | h
  · decide
  · exact (Nat.log2_lt (by omega)).2 hm
end Go.LH.K
