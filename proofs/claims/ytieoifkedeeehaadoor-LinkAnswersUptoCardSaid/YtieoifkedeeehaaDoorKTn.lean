/- Link: bytes.Clone, crc.Turn, the document's Turn. -/
import Derived.Test.YtieoifkedeeehaaDoorKSpec6
namespace Go.LH.K
open Go Go.LH
set_option linter.unusedSimpArgs false
set_option linter.unusedVariables false
set_option maxRecDepth 10000
set_option maxHeartbeats 4000000
theorem tog_at {q : List UInt8} {j : Nat} (h : j / 8 < q.length) : ∃ x : UInt8, (bR q)[j / 8]? = some [Cv.val (.int .u8 x.toNat)] ∧ (bR q).set (j / 8) [Cv.val (.int .u8 (x ^^^ UInt8.ofNat (2 ^ (j % 8))).toNat)] = bR (tog q j) := by
  refine ⟨q[j / 8], by simp [bR, h], ?_⟩
  unfold tog
  rw [List.getElem?_eq_getElem h]
  simp [bR, List.map_set]
variable {P : Program} {b : Nat → Addr} (hP : Codes P)
include hP
def byL (l : List UInt8) : Entry := ⟨false, l.length, 1, bR l⟩
def rsL (l : List UInt8) : Sv := .c (.rs 0 l.length 0 l.length)
theorem h_clone {x : UInt8} {r : List UInt8} (hl : r.length < 1000000000) : AnsH (zG b) P 41 [.c (.sl 1 (bR (x :: r)))] [] (rsL (x :: r)) [byL (x :: r)] := by
  have hm : r.length + 1 ≤ most := by unfold most; omega
  have ht : List.take r.length (List.map (fun x : UInt8 => [Cv.val (.int .u8 x.toNat)]) r) = List.map (fun x : UInt8 => [Cv.val (.int .u8 x.toNat)]) r := List.take_of_length_le (by simp)
  refine good_h hP rfl rfl ?_
  simp -implicitDefEqProofs only [go_sem, kbase, Nat.reduceBEq, Nat.reduceLT, Nat.reduceAdd, Nat.reduceEqDiff, Nat.reduceLeDiff, reduceIte, Int.reduceEq, Int.reduceLT, Int.reduceLE, Int.reduceToNat, Int.reduceAdd, r41, nilOf, bR]
  repeat' first | simp -implicitDefEqProofs only [go_sem, kbase, Nat.reduceBEq, Nat.reduceLT, Nat.reduceAdd, Nat.reduceEqDiff, Nat.reduceLeDiff, reduceIte, Int.reduceEq, Int.reduceLT, Int.reduceLE, Int.reduceToNat, Int.reduceAdd, *, nilOf] | (with_reducible refine guard_intro (fun _ => ?_) (fun _ => ?_)) | (with_reducible refine cond_intro (fun _ => ?_) (fun _ => ?_)) | ((with_reducible apply gc_intro); exact rfl) | ((with_reducible apply endE_intro); exact rfl; exact rfl) | (with_reducible refine guardD_intro (fun _ => ?_) (fun _ => ?_))
  all_goals first | exact rfl | exact ⟨rfl, rfl⟩ | (simp [ht, rsL, byL, bR]; done)
def turnA (b : Nat → Addr) : Option (List UInt8) → Sv
  | none => .tup [.c (.val (.slice none 0 0)), .c (.val (sent b 0))]
  | some q => .tup [.c (.sl 1 (bR q)), .c (.val .nilIface)]
theorem z_turn {y : List UInt8} {a : Int} {m : Nat} (hy : y.length ≤ 4096) (ha : i64 a) (hm : m < 4294967296) : Ans (zG b) P 32 [.c (.sl 1 (bR y)), .c (iC a), .c (uC m)] (turnA b (turnL y a m)) := by
  by_cases c1 : m = 0
  · subst c1
    rw [show turnL y a 0 = none by simp [turnL]]
    refine good_z hP rfl rfl ?_
    simp -implicitDefEqProofs only [go_sem, kbase, Nat.reduceBEq, Nat.reduceLT, Nat.reduceAdd, Nat.reduceEqDiff, Nat.reduceLeDiff, reduceIte, Int.reduceEq, Int.reduceLT, Int.reduceLE, Int.reduceToNat, Int.reduceAdd, r32]
    repeat' first | simp -implicitDefEqProofs only [go_sem, kbase, Nat.reduceBEq, Nat.reduceLT, Nat.reduceAdd, Nat.reduceEqDiff, Nat.reduceLeDiff, reduceIte, Int.reduceEq, Int.reduceLT, Int.reduceLE, Int.reduceToNat, Int.reduceAdd, *] | (with_reducible refine guard_intro (fun _ => ?_) (fun _ => ?_)) | (with_reducible refine cond_intro (fun _ => ?_) (fun _ => ?_)) | ((with_reducible apply gc_intro); exact rfl) | ((with_reducible apply endE_intro); exact rfl; exact rfl) | (with_reducible refine guardD_intro (fun _ => ?_) (fun _ => ?_))
    all_goals first | exact rfl | exact ⟨rfl, rfl⟩ | (simp []; done)
  have w1 : ((m : Int) == 0) = false := by simp; omega
  by_cases c2 : a < 0
  · rw [show turnL y a m = none by simp [turnL, c2]]
    refine good_z hP rfl rfl ?_
    simp -implicitDefEqProofs only [go_sem, kbase, Nat.reduceBEq, Nat.reduceLT, Nat.reduceAdd, Nat.reduceEqDiff, Nat.reduceLeDiff, reduceIte, Int.reduceEq, Int.reduceLT, Int.reduceLE, Int.reduceToNat, Int.reduceAdd, r32]
    repeat' first | simp -implicitDefEqProofs only [go_sem, kbase, Nat.reduceBEq, Nat.reduceLT, Nat.reduceAdd, Nat.reduceEqDiff, Nat.reduceLeDiff, reduceIte, Int.reduceEq, Int.reduceLT, Int.reduceLE, Int.reduceToNat, Int.reduceAdd, *] | (with_reducible refine guard_intro (fun _ => ?_) (fun _ => ?_)) | (with_reducible refine cond_intro (fun _ => ?_) (fun _ => ?_)) | ((with_reducible apply gc_intro); exact rfl) | ((with_reducible apply endE_intro); exact rfl; exact rfl) | (with_reducible refine guardD_intro (fun _ => ?_) (fun _ => ?_))
    all_goals first | exact rfl | exact ⟨rfl, rfl⟩ | (simp []; done)
  obtain ⟨A, rfl⟩ : ∃ A : Nat, a = A := ⟨a.toNat, by omega⟩
  unfold i64 at ha
  have w2 : ((A : Int)).tdiv 8 = ((A / 8 : Nat) : Int) := rfl
  have w3 : IntKind.wrap .i64 ((A / 8 : Nat) : Int) = ((A / 8 : Nat) : Int) := wrap_nat (by omega)
  have w4 : ((A : Int)).tmod 8 = ((A % 8 : Nat) : Int) := rfl
  by_cases c3 : y.length ≤ A / 8
  · rw [show turnL y A m = none by unfold turnL; rw [if_pos (by right; right; omega)]]
    have c3' : (y.length : Int) ≤ ((A / 8 : Nat) : Int) := by omega
    refine good_z hP rfl rfl ?_
    simp -implicitDefEqProofs only [go_sem, kbase, Nat.reduceBEq, Nat.reduceLT, Nat.reduceAdd, Nat.reduceEqDiff, Nat.reduceLeDiff, reduceIte, Int.reduceEq, Int.reduceLT, Int.reduceLE, Int.reduceToNat, Int.reduceAdd, r32]
    repeat' first | simp -implicitDefEqProofs only [go_sem, kbase, Nat.reduceBEq, Nat.reduceLT, Nat.reduceAdd, Nat.reduceEqDiff, Nat.reduceLeDiff, reduceIte, Int.reduceEq, Int.reduceLT, Int.reduceLE, Int.reduceToNat, Int.reduceAdd, *, bR_len] | (with_reducible refine guard_intro (fun _ => ?_) (fun _ => ?_)) | (with_reducible refine cond_intro (fun _ => ?_) (fun _ => ?_)) | ((with_reducible apply gc_intro); exact rfl) | ((with_reducible apply endE_intro); exact rfl; exact rfl) | (with_reducible refine guardD_intro (fun _ => ?_) (fun _ => ?_))
    all_goals first | exact rfl | exact ⟨rfl, rfl⟩ | (simp []; done)
  have c3' : ¬ (y.length : Int) ≤ ((A / 8 : Nat) : Int) := by omega
  have hl := log_32 hm
  have hlen := z_len (b := b) hP (x := m) (l := m.log2 + 1) hm (by omega) (Nat.log2_self_le c1) Nat.lt_log2_self
  have w5 : IntKind.wrap .i64 (((A % 8 : Nat) : Int) + ((m.log2 + 1 : Nat) : Int)) = ((A % 8 + m.log2 + 1 : Nat) : Int) := by rw [wrap_id (by unfold i64; omega)]; omega
  have w6 : IntKind.wrap .i64 (((A % 8 + m.log2 + 1 : Nat) : Int) - 1) = ((A % 8 + m.log2 : Nat) : Int) := by rw [wrap_id (by unfold i64; omega)]; omega
  have w7 : (((A % 8 + m.log2 : Nat) : Int)).tdiv 8 = (((A % 8 + m.log2) / 8 : Nat) : Int) := rfl
  have w8 : IntKind.wrap .i64 (((A % 8 + m.log2) / 8 : Nat) : Int) = (((A % 8 + m.log2) / 8 : Nat) : Int) := wrap_nat (by omega)
  have w9 : IntKind.wrap .i64 (((A / 8 : Nat) : Int) + (((A % 8 + m.log2) / 8 : Nat) : Int)) = (((A + m.log2) / 8 : Nat) : Int) := by rw [wrap_id (by unfold i64; omega)]; omega
  by_cases c4 : 8 * y.length ≤ A + m.log2
  · rw [show turnL y A m = none by unfold turnL; rw [if_pos (by right; right; omega)]]
    have c4' : (y.length : Int) ≤ (((A + m.log2) / 8 : Nat) : Int) := by omega
    refine good_z hP rfl rfl ?_
    simp -implicitDefEqProofs only [go_sem, kbase, Nat.reduceBEq, Nat.reduceLT, Nat.reduceAdd, Nat.reduceEqDiff, Nat.reduceLeDiff, reduceIte, Int.reduceEq, Int.reduceLT, Int.reduceLE, Int.reduceToNat, Int.reduceAdd, r32]
    repeat' first | simp -implicitDefEqProofs only [go_sem, kbase, Nat.reduceBEq, Nat.reduceLT, Nat.reduceAdd, Nat.reduceEqDiff, Nat.reduceLeDiff, reduceIte, Int.reduceEq, Int.reduceLT, Int.reduceLE, Int.reduceToNat, Int.reduceAdd, *, bR_len] | (with_reducible refine guard_intro (fun _ => ?_) (fun _ => ?_)) | (with_reducible refine cond_intro (fun _ => ?_) (fun _ => ?_)) | ((with_reducible apply gc_intro); exact rfl) | ((with_reducible apply endE_intro); exact rfl; exact rfl) | (with_reducible refine guardD_intro (fun _ => ?_) (fun _ => ?_)) | ((with_reducible apply call_eq (hlen)); exact rfl; exact rfl) | ((with_reducible apply call_fzeq (hlen)); exact rfl)
    all_goals first | exact rfl | exact ⟨rfl, rfl⟩ | (simp []; done)
  have c4' : ¬ (y.length : Int) ≤ (((A + m.log2) / 8 : Nat) : Int) := by omega
  rw [show turnL y A m = some (turnN y A m 32) by unfold turnL; rw [if_neg (by omega)]; rfl]
  obtain ⟨x, r, rfl⟩ : ∃ x r, y = x :: r := by
    cases y with
    | nil => simp at c3
    | cons x r => exact ⟨x, r, rfl⟩
  have hc := h_clone (b := b) hP (x := x) (r := r) (by simp at hy; omega)
  generalize x :: r = y at *
  refine good_z hP rfl rfl ?_
  simp -implicitDefEqProofs only [go_sem, kbase, Nat.reduceBEq, Nat.reduceLT, Nat.reduceAdd, Nat.reduceEqDiff, Nat.reduceLeDiff, reduceIte, Int.reduceEq, Int.reduceLT, Int.reduceLE, Int.reduceToNat, Int.reduceAdd, r32]
  repeat' first | simp -implicitDefEqProofs only [go_sem, kbase, Nat.reduceBEq, Nat.reduceLT, Nat.reduceAdd, Nat.reduceEqDiff, Nat.reduceLeDiff, reduceIte, Int.reduceEq, Int.reduceLT, Int.reduceLE, Int.reduceToNat, Int.reduceAdd, *, bR_len, rsL, byL] | (with_reducible refine guard_intro (fun _ => ?_) (fun _ => ?_)) | (with_reducible refine cond_intro (fun _ => ?_) (fun _ => ?_)) | ((with_reducible apply gc_intro); exact rfl) | ((with_reducible apply endE_intro); exact rfl; exact rfl) | (with_reducible refine guardD_intro (fun _ => ?_) (fun _ => ?_)) | ((with_reducible apply call_eq (hlen)); exact rfl; exact rfl) | ((with_reducible apply call_fzeq (hlen)); exact rfl) | ((with_reducible apply call_h (hg := hc)); exact rfl)
  clear hc hlen w1 w2 w3 w5 w6 w7 w8 w9 c3 c3' c4'
  refine loop_heap 0 (fun k => m / 2 ^ k * 2 ^ k) (fun k => k ≤ 32) (fun k sl => sset sl 2 (.c (uC (m / 2 ^ k * 2 ^ k : Nat)))) (fun k => [⟨false, y.length, 1, bR (turnN y A m k)⟩]) (by simp [sset]) (by simp [turnN]) (by omega) ?_
  intro k hk
  by_cases hx : m / 2 ^ k * 2 ^ k = 0
  · have he := turn_end (q := y) (a := A) hm hk hx
    have hx' : (((m / 2 ^ k * 2 ^ k : Nat) : Int) != 0) = false := by rw [hx]; rfl
    have hll := turnN_len (q := y) (a := A) (m := m) 32
    have htk : List.take y.length (bR (turnN y A m 32)) = bR (turnN y A m 32) := List.take_of_length_le (by rw [bR_len, hll]; exact Nat.le_refl _)
    clear hx
    simp -implicitDefEqProofs only [go_sem, kbase, Nat.reduceBEq, Nat.reduceLT, Nat.reduceAdd, Nat.reduceEqDiff, Nat.reduceLeDiff, reduceIte, Int.reduceEq, Int.reduceLT, Int.reduceLE, Int.reduceToNat, Int.reduceAdd]
    repeat' first | simp -implicitDefEqProofs only [go_sem, kbase, Nat.reduceBEq, Nat.reduceLT, Nat.reduceAdd, Nat.reduceEqDiff, Nat.reduceLeDiff, reduceIte, Int.reduceEq, Int.reduceLT, Int.reduceLE, Int.reduceToNat, Int.reduceAdd, *, bR_len] | (with_reducible refine guard_intro (fun _ => ?_) (fun _ => ?_)) | (with_reducible refine cond_intro (fun _ => ?_) (fun _ => ?_)) | ((with_reducible apply gc_intro); exact rfl) | ((with_reducible apply endE_intro); exact rfl; exact rfl) | (with_reducible refine guardD_intro (fun _ => ?_) (fun _ => ?_))
    all_goals first | exact rfl | exact ⟨rfl, rfl⟩ | (simp [turnA, turnN_len, htk]; done)
  · obtain ⟨t, q, e, h1, h2, h3, h4, h5, h6⟩ := turn_next hm hx
    have hlt : m / 2 ^ k * 2 ^ k ≤ m := Nat.div_mul_le_self _ _
    have htz := z_tz (b := b) hP (t := t) (q := q) h2 (by rw [← e]; omega)
    rw [← e] at htz
    have hlg := log_le h3
    have hsk := turn_skip (q := y) (a := A) t h1 h4
    have hst : turnN y A m (t + 1) = tog (turnN y A m k) (A + t) := by simp only [turnN]; rw [h3, if_pos rfl, hsk]
    have hst' : bR (tog (turnN y A m k) (A + t)) = bR (turnN y A m (t + 1)) := by rw [hst]
    have hll := turnN_len (q := y) (a := A) (m := m) k
    have hbl : (bR (turnN y A m k)).length = y.length := by rw [bR_len, hll]
    obtain ⟨z, r1, r2⟩ := tog_at (q := turnN y A m k) (j := A + t) (by omega)
    have hx' : (((m / 2 ^ k * 2 ^ k : Nat) : Int) != 0) = true := by simp only [bne_iff_ne, ne_eq]; omega
    have u1 : IntKind.wrap .u32 (((m / 2 ^ k * 2 ^ k : Nat) : Int) - 1) = ((m / 2 ^ k * 2 ^ k - 1 : Nat) : Int) := by
      rw [show ((m / 2 ^ k * 2 ^ k : Nat) : Int) - 1 = ((m / 2 ^ k * 2 ^ k - 1 : Nat) : Int) by omega]; exact wrap32 (by omega)
    have u2 := and32 (x := m / 2 ^ k * 2 ^ k) (y := m / 2 ^ k * 2 ^ k - 1) (by omega) (by omega)
    rw [h5] at u2
    rw [hst'] at r2
    clear e h4 hst hst' hsk hx h5
    have v2 : IntKind.wrap .i64 (((A % 8 : Nat) : Int) + (t : Int)) = ((A % 8 + t : Nat) : Int) := by rw [wrap_id (by unfold i64; omega)]; omega
    have v0 : ((A : Int)).tdiv 8 = ((A / 8 : Nat) : Int) := rfl
    have v1 : IntKind.wrap .i64 ((A / 8 : Nat) : Int) = ((A / 8 : Nat) : Int) := wrap_nat (by omega)
    have v3 : (((A % 8 + t : Nat) : Int)).tdiv 8 = (((A % 8 + t) / 8 : Nat) : Int) := rfl
    have v4 : IntKind.wrap .i64 (((A % 8 + t) / 8 : Nat) : Int) = (((A % 8 + t) / 8 : Nat) : Int) := wrap_nat (by omega)
    have v5 : IntKind.wrap .i64 (((A / 8 : Nat) : Int) + (((A % 8 + t) / 8 : Nat) : Int)) = (((A + t) / 8 : Nat) : Int) := by rw [wrap_id (by unfold i64; omega)]; omega
    have v6 : (((A % 8 + t : Nat) : Int)).tmod 8 = (((A + t) % 8 : Nat) : Int) := by
      rw [show (((A % 8 + t : Nat) : Int)).tmod 8 = (((A % 8 + t) % 8 : Nat) : Int) from rfl]; omega
    have v7 := bit8 ((A + t) % 8) (by omega)
    have v8 := xor8 z (UInt8.ofNat (2 ^ ((A + t) % 8)))
    have v9 : (((A + t) / 8 : Nat) : Int) < (y.length : Int) := by omega
    clear h1 h3 hlg hlt hy c4 c2 ha hm hl
    simp -implicitDefEqProofs only [go_sem, kbase, Nat.reduceBEq, Nat.reduceLT, Nat.reduceAdd, Nat.reduceEqDiff, Nat.reduceLeDiff, reduceIte, Int.reduceEq, Int.reduceLT, Int.reduceLE, Int.reduceToNat, Int.reduceAdd]
    repeat' first | simp -implicitDefEqProofs only [go_sem, kbase, Nat.reduceBEq, Nat.reduceLT, Nat.reduceAdd, Nat.reduceEqDiff, Nat.reduceLeDiff, reduceIte, Int.reduceEq, Int.reduceLT, Int.reduceLE, Int.reduceToNat, Int.reduceAdd, *, Int.natCast_nonneg, Int.toNat_natCast, bR_len] | (with_reducible refine guard_intro (fun _ => ?_) (fun _ => ?_)) | (with_reducible refine cond_intro (fun _ => ?_) (fun _ => ?_)) | ((with_reducible apply gc_intro); exact rfl) | ((with_reducible apply endE_intro); exact rfl; exact rfl) | (with_reducible refine guardD_intro (fun _ => ?_) (fun _ => ?_)) | ((with_reducible apply call_eq (htz)); exact rfl; exact rfl) | ((with_reducible apply call_fzeq (htz)); exact rfl)
    all_goals (refine ⟨t + 1, h6, by omega, ?_⟩; simp)
def turnR : Option (List UInt8) → Sv
  | none => .tup [.c (.val (.slice none 0 0)), .c (iC 12)]
  | some q => .tup [.c (.sl 1 (bR q)), .c (iC 0)]
theorem r_turn {y : List UInt8} {a : Int} {m : Nat} (hy : y.length ≤ 4096) (ha : i64 a) (hm : m < 4294967296) : Ans (zG b) P 37 [.c (.sl 1 (bR y)), .c (iC a), .c (uC m)] (turnR (turnL y a m)) := by
  by_cases c1 : m = 0
  · subst c1
    rw [show turnL y a 0 = none by simp [turnL]]
    refine good_z hP rfl rfl ?_
    simp -implicitDefEqProofs only [go_sem, kbase, Nat.reduceBEq, Nat.reduceLT, Nat.reduceAdd, Nat.reduceEqDiff, Nat.reduceLeDiff, reduceIte, Int.reduceEq, Int.reduceLT, Int.reduceLE, Int.reduceToNat, Int.reduceAdd, r37]
    repeat' first | simp -implicitDefEqProofs only [go_sem, kbase, Nat.reduceBEq, Nat.reduceLT, Nat.reduceAdd, Nat.reduceEqDiff, Nat.reduceLeDiff, reduceIte, Int.reduceEq, Int.reduceLT, Int.reduceLE, Int.reduceToNat, Int.reduceAdd, *] | (with_reducible refine guard_intro (fun _ => ?_) (fun _ => ?_)) | (with_reducible refine cond_intro (fun _ => ?_) (fun _ => ?_)) | ((with_reducible apply gc_intro); exact rfl) | ((with_reducible apply endE_intro); exact rfl; exact rfl) | (with_reducible refine guardD_intro (fun _ => ?_) (fun _ => ?_))
    all_goals first | exact rfl | exact ⟨rfl, rfl⟩ | (simp []; done)
  have w1 : ((m : Int) == 0) = false := by simp; omega
  by_cases c2 : a < 0
  · rw [show turnL y a m = none by simp [turnL, c2]]
    refine good_z hP rfl rfl ?_
    simp -implicitDefEqProofs only [go_sem, kbase, Nat.reduceBEq, Nat.reduceLT, Nat.reduceAdd, Nat.reduceEqDiff, Nat.reduceLeDiff, reduceIte, Int.reduceEq, Int.reduceLT, Int.reduceLE, Int.reduceToNat, Int.reduceAdd, r37]
    repeat' first | simp -implicitDefEqProofs only [go_sem, kbase, Nat.reduceBEq, Nat.reduceLT, Nat.reduceAdd, Nat.reduceEqDiff, Nat.reduceLeDiff, reduceIte, Int.reduceEq, Int.reduceLT, Int.reduceLE, Int.reduceToNat, Int.reduceAdd, *] | (with_reducible refine guard_intro (fun _ => ?_) (fun _ => ?_)) | (with_reducible refine cond_intro (fun _ => ?_) (fun _ => ?_)) | ((with_reducible apply gc_intro); exact rfl) | ((with_reducible apply endE_intro); exact rfl; exact rfl) | (with_reducible refine guardD_intro (fun _ => ?_) (fun _ => ?_))
    all_goals first | exact rfl | exact ⟨rfl, rfl⟩ | (simp []; done)
  obtain ⟨A, rfl⟩ : ∃ A : Nat, a = A := ⟨a.toNat, by omega⟩
  unfold i64 at ha
  have w2 : IntKind.wrap .i64 (8 * (y.length : Int)) = ((8 * y.length : Nat) : Int) := by rw [wrap_id (by unfold i64; omega)]; omega
  by_cases c3 : ((8 * y.length : Nat) : Int) < (A : Int)
  · rw [show turnL y A m = none by unfold turnL; rw [if_pos (by right; right; omega)]]
    refine good_z hP rfl rfl ?_
    simp -implicitDefEqProofs only [go_sem, kbase, Nat.reduceBEq, Nat.reduceLT, Nat.reduceAdd, Nat.reduceEqDiff, Nat.reduceLeDiff, reduceIte, Int.reduceEq, Int.reduceLT, Int.reduceLE, Int.reduceToNat, Int.reduceAdd, r37]
    repeat' first | simp -implicitDefEqProofs only [go_sem, kbase, Nat.reduceBEq, Nat.reduceLT, Nat.reduceAdd, Nat.reduceEqDiff, Nat.reduceLeDiff, reduceIte, Int.reduceEq, Int.reduceLT, Int.reduceLE, Int.reduceToNat, Int.reduceAdd, *, bR_len] | (with_reducible refine guard_intro (fun _ => ?_) (fun _ => ?_)) | (with_reducible refine cond_intro (fun _ => ?_) (fun _ => ?_)) | ((with_reducible apply gc_intro); exact rfl) | ((with_reducible apply endE_intro); exact rfl; exact rfl) | (with_reducible refine guardD_intro (fun _ => ?_) (fun _ => ?_))
    all_goals first | exact rfl | exact ⟨rfl, rfl⟩ | (simp []; done)
  have hl := log_32 hm
  have hml : y.length ≤ most := by unfold most; omega
  have htk0 : List.take y.length (bR y) = bR y := List.take_of_length_le (by rw [bR_len]; exact Nat.le_refl _)
  have hT : Hid (turnL y A m = if 8 * y.length ≤ A + m.log2 then none else some (turnN y A m 32)) := by
    unfold turnL Hid
    by_cases h : 8 * y.length ≤ A + m.log2
    · rw [if_pos h, if_pos (by right; right; omega)]
    · rw [if_neg h, if_neg (by omega)]; rfl
  generalize turnL y A m = T at *
  refine good_z hP rfl rfl ?_
  simp -implicitDefEqProofs only [go_sem, kbase, Nat.reduceBEq, Nat.reduceLT, Nat.reduceAdd, Nat.reduceEqDiff, Nat.reduceLeDiff, reduceIte, Int.reduceEq, Int.reduceLT, Int.reduceLE, Int.reduceToNat, Int.reduceAdd, r37]
  repeat' first | simp -implicitDefEqProofs only [go_sem, kbase, Nat.reduceBEq, Nat.reduceLT, Nat.reduceAdd, Nat.reduceEqDiff, Nat.reduceLeDiff, reduceIte, Int.reduceEq, Int.reduceLT, Int.reduceLE, Int.reduceToNat, Int.reduceAdd, *, bR_len] | (with_reducible refine guard_intro (fun _ => ?_) (fun _ => ?_)) | (with_reducible refine cond_intro (fun _ => ?_) (fun _ => ?_)) | ((with_reducible apply gc_intro); exact rfl) | ((with_reducible apply endE_intro); exact rfl; exact rfl) | (with_reducible refine guardD_intro (fun _ => ?_) (fun _ => ?_))
  refine loop_heap 0 (fun i => 32 - i) (fun i => i ≤ 32 ∧ ∀ j, j < i → m.testBit j = true → A + j < 8 * y.length) (fun i sl => sset sl 9 (.c (iC (i : Nat)))) (fun i => [⟨false, y.length, 1, bR (turnN y A m i)⟩]) rfl (by simp [turnN]) ⟨by omega, by omega⟩ ?_
  rintro i ⟨hi, hj⟩
  have hll := turnN_len (q := y) (a := A) (m := m) i
  have hbl : (bR (turnN y A m i)).length = y.length := by rw [bR_len, hll]
  by_cases hx : (i : Int) < 32
  · have hws := wrap_succ (n := i) (by omega)
    have f1 : ((m : Nat) : Int).fdiv (2 ^ min i 32) = ((m / 2 ^ i : Nat) : Int) := by
      rw [Nat.min_eq_left (by omega), show ((2 : Int) ^ i) = ((2 ^ i : Nat) : Int) by simp, fd]
    have hb := Nat.testBit_eq_decide_div_mod_eq (x := m) (i := i)
    have f2 : andU .u32 ((m / 2 ^ i : Nat) : Int) 1 = (((m / 2 ^ i) % 2 : Nat) : Int) := by
      rw [← Nat.and_one_is_mod]
      exact and32 (x := m / 2 ^ i) (y := 1) (Nat.lt_of_le_of_lt (Nat.div_le_self _ _) hm) (by omega)
    have hst : turnN y A m (i + 1) = if m.testBit i then tog (turnN y A m i) (A + i) else turnN y A m i := rfl
    cases hbt : m.testBit i with
    | false =>
      rw [hbt] at hst hb
      have hb0 : (m / 2 ^ i) % 2 = 0 := by simp at hb; omega
      rw [hb0] at f2
      have f3 : ((((0 : Nat) : Int)) == 0) = true := rfl
      clear hb hb0
      have hst : turnN y A m (i + 1) = turnN y A m i := hst
      have hI : Hid (∀ j, j < i + 1 → m.testBit j = true → A + j < 8 * y.length) := by
        intro j h1 h2
        rcases Nat.lt_or_ge j i with h3 | h3
        · exact hj j h3 h2
        · rw [show j = i by omega] at h2; rw [h2] at hbt; cases hbt
      clear hj hbt w1 htk0 hml
      simp -implicitDefEqProofs only [go_sem, kbase, Nat.reduceBEq, Nat.reduceLT, Nat.reduceAdd, Nat.reduceEqDiff, Nat.reduceLeDiff, reduceIte, Int.reduceEq, Int.reduceLT, Int.reduceLE, Int.reduceToNat, Int.reduceAdd]
      repeat' first | simp -implicitDefEqProofs only [go_sem, kbase, Nat.reduceBEq, Nat.reduceLT, Nat.reduceAdd, Nat.reduceEqDiff, Nat.reduceLeDiff, reduceIte, Int.reduceEq, Int.reduceLT, Int.reduceLE, Int.reduceToNat, Int.reduceAdd, *, Int.natCast_nonneg, Int.toNat_natCast, bR_len] | (with_reducible refine guard_intro (fun _ => ?_) (fun _ => ?_)) | (with_reducible refine cond_intro (fun _ => ?_) (fun _ => ?_)) | ((with_reducible apply gc_intro); exact rfl) | ((with_reducible apply endE_intro); exact rfl; exact rfl) | (with_reducible refine guardD_intro (fun _ => ?_) (fun _ => ?_))
      all_goals (refine ⟨i + 1, by omega, ⟨by omega, hI⟩, ?_⟩; simp [hst])
    | true =>
      rw [hbt] at hst hb
      have hb0 : (m / 2 ^ i) % 2 = 1 := by simpa using hb.symm
      rw [hb0] at f2
      have f2 : andU .u32 ((m / 2 ^ i : Nat) : Int) 1 = 1 := f2
      have f3 : ((1 : Int) == 0) = false := rfl
      have hst : turnN y A m (i + 1) = tog (turnN y A m i) (A + i) := hst
      have hlg := log_le hbt
      have u1 : IntKind.wrap .i64 ((A : Int) + (i : Int)) = ((A + i : Nat) : Int) := by rw [wrap_id (by unfold i64; omega)]; omega
      by_cases hE : ((8 * y.length : Nat) : Int) ≤ ((A + i : Nat) : Int)
      · have hT' : T = none := by
          have h := hT
          unfold Hid at h
          rw [h, if_pos (by omega)]
        clear hb hb0 hst hj hbt w1 htk0 hml hll
        simp -implicitDefEqProofs only [go_sem, kbase, Nat.reduceBEq, Nat.reduceLT, Nat.reduceAdd, Nat.reduceEqDiff, Nat.reduceLeDiff, reduceIte, Int.reduceEq, Int.reduceLT, Int.reduceLE, Int.reduceToNat, Int.reduceAdd]
        repeat' first | simp -implicitDefEqProofs only [go_sem, kbase, Nat.reduceBEq, Nat.reduceLT, Nat.reduceAdd, Nat.reduceEqDiff, Nat.reduceLeDiff, reduceIte, Int.reduceEq, Int.reduceLT, Int.reduceLE, Int.reduceToNat, Int.reduceAdd, *, Int.natCast_nonneg, Int.toNat_natCast, bR_len] | (with_reducible refine guard_intro (fun _ => ?_) (fun _ => ?_)) | (with_reducible refine cond_intro (fun _ => ?_) (fun _ => ?_)) | ((with_reducible apply gc_intro); exact rfl) | ((with_reducible apply endE_intro); exact rfl; exact rfl) | (with_reducible refine guardD_intro (fun _ => ?_) (fun _ => ?_))
        all_goals first | exact rfl | exact ⟨rfl, rfl⟩ | (simp [turnR]; done)
      · obtain ⟨z, r1, r2⟩ := tog_at (q := turnN y A m i) (j := A + i) (by omega)
        rw [← hst] at r2
        have v0 : (((A + i : Nat) : Int)).tdiv 8 = (((A + i) / 8 : Nat) : Int) := rfl
        have v1 : IntKind.wrap .i64 (((A + i) / 8 : Nat) : Int) = (((A + i) / 8 : Nat) : Int) := wrap_nat (by omega)
        have v6 : (((A + i : Nat) : Int)).tmod 8 = (((A + i) % 8 : Nat) : Int) := rfl
        have v7 := bit8 ((A + i) % 8) (by omega)
        have v8 := xor8 z (UInt8.ofNat (2 ^ ((A + i) % 8)))
        have v9 : (((A + i) / 8 : Nat) : Int) < (y.length : Int) := by omega
        have hI : Hid (∀ j, j < i + 1 → m.testBit j = true → A + j < 8 * y.length) := by
          intro j h1 h2
          rcases Nat.lt_or_ge j i with h3 | h3
          · exact hj j h3 h2
          · rw [show j = i by omega]; omega
        clear hb hb0 hj hbt w1 htk0 hml
        rw [hst] at r2
        simp -implicitDefEqProofs only [go_sem, kbase, Nat.reduceBEq, Nat.reduceLT, Nat.reduceAdd, Nat.reduceEqDiff, Nat.reduceLeDiff, reduceIte, Int.reduceEq, Int.reduceLT, Int.reduceLE, Int.reduceToNat, Int.reduceAdd]
        repeat' first | simp -implicitDefEqProofs only [go_sem, kbase, Nat.reduceBEq, Nat.reduceLT, Nat.reduceAdd, Nat.reduceEqDiff, Nat.reduceLeDiff, reduceIte, Int.reduceEq, Int.reduceLT, Int.reduceLE, Int.reduceToNat, Int.reduceAdd, *, Int.natCast_nonneg, Int.toNat_natCast, bR_len] | (with_reducible refine guard_intro (fun _ => ?_) (fun _ => ?_)) | (with_reducible refine cond_intro (fun _ => ?_) (fun _ => ?_)) | ((with_reducible apply gc_intro); exact rfl) | ((with_reducible apply endE_intro); exact rfl; exact rfl) | (with_reducible refine guardD_intro (fun _ => ?_) (fun _ => ?_))
        all_goals (refine ⟨i + 1, by omega, ⟨by omega, hI⟩, ?_⟩; simp [hst])
  · have hi32 : i = 32 := by omega
    have hn : ¬ 8 * y.length ≤ A + m.log2 := by
      have := hj m.log2 (by omega) (log_bit c1); omega
    have hT' : T = some (turnN y A m i) := by
      have h := hT
      unfold Hid at h
      rw [h, if_neg hn, hi32]
    have htk : List.take y.length (bR (turnN y A m i)) = bR (turnN y A m i) := List.take_of_length_le (by rw [bR_len, hll]; exact Nat.le_refl _)
    clear hi32 hj w1 htk0
    simp -implicitDefEqProofs only [go_sem, kbase, Nat.reduceBEq, Nat.reduceLT, Nat.reduceAdd, Nat.reduceEqDiff, Nat.reduceLeDiff, reduceIte, Int.reduceEq, Int.reduceLT, Int.reduceLE, Int.reduceToNat, Int.reduceAdd]
    repeat' first | simp -implicitDefEqProofs only [go_sem, kbase, Nat.reduceBEq, Nat.reduceLT, Nat.reduceAdd, Nat.reduceEqDiff, Nat.reduceLeDiff, reduceIte, Int.reduceEq, Int.reduceLT, Int.reduceLE, Int.reduceToNat, Int.reduceAdd, *, bR_len] | (with_reducible refine guard_intro (fun _ => ?_) (fun _ => ?_)) | (with_reducible refine cond_intro (fun _ => ?_) (fun _ => ?_)) | ((with_reducible apply gc_intro); exact rfl) | ((with_reducible apply endE_intro); exact rfl; exact rfl) | (with_reducible refine guardD_intro (fun _ => ?_) (fun _ => ?_))
    all_goals first | exact rfl | exact ⟨rfl, rfl⟩ | (simp [turnR, htk]; done)
end Go.LH.K
