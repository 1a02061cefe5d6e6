/- Link: what a range over the letters under way gathers, whatever its order. -/
import Derived.Test.YtieoifkedeeehaaDoorKSpec3
namespace Go.LH.K
open Go Go.LH
theorem esF_at : ∀ (s : Sg) (i p g : Nat) (k : Cv) (cs : List Cv) (bn : Nat), (esF i s)[p]? = some (mElem g k cs bn) → ∃ (j : Nat) (x : LS), bn = i + j ∧ s[j]? = some x ∧ x.spent = false ∧ g = 1 ∧ k = iC ((bn : Int) + 1) ∧ cs = lrow x
  | [], i, p, g, k, cs, bn, h => by simp [esF] at h
  | y :: r, i, p, g, k, cs, bn, h => by
    simp only [esF] at h
    split at h
    · obtain ⟨j, x, h1, h2, h3⟩ := esF_at r (i + 1) p g k cs bn h
      exact ⟨j + 1, x, by omega, by simpa using h2, h3⟩
    · rename_i hy
      cases p with
      | zero =>
        simp only [List.getElem?_cons_zero, Option.some.injEq, ent, mElem, Cv.sl.injEq, List.cons.injEq, and_true] at h
        obtain ⟨rfl, rfl, rfl, rfl⟩ := h
        exact ⟨0, y, by omega, rfl, by simpa using hy, rfl, rfl, rfl⟩
      | succ p =>
        obtain ⟨j, x, h1, h2, h3⟩ := esF_at r (i + 1) p g k cs bn (by simpa using h)
        exact ⟨j + 1, x, by omega, by simpa using h2, h3⟩
theorem es_at {s : Sg} {p g : Nat} {k : Cv} {cs : List Cv} {bn : Nat} (h : (esOf s)[p]? = some (mElem g k cs bn)) : ∃ x : LS, s[bn]? = some x ∧ x.spent = false ∧ g = 1 ∧ k = iC ((bn : Int) + 1) ∧ cs = lrow x := by
  obtain ⟨j, x, h1, h2, h3⟩ := esF_at s 0 p g k cs bn h
  exact ⟨x, by rw [h1, Nat.zero_add]; exact h2, h3⟩
theorem esF_in : ∀ (s : Sg) (i j : Nat) (x : LS), s[j]? = some x → x.spent = false → ∃ p : Nat, (esF i s)[p]? = some (mElem 1 (iC (((i + j : Nat) : Int) + 1)) (lrow x) (i + j))
  | [], i, j, x, h, hs => by simp at h
  | y :: r, i, j, x, h, hs => by
    simp only [esF]
    cases j with
    | zero =>
      obtain rfl : y = x := by simpa using h
      rw [if_neg (by simp [hs])]
      exact ⟨0, rfl⟩
    | succ j =>
      obtain ⟨p, hp⟩ := esF_in r (i + 1) j x (by simpa using h) hs
      rw [show i + (j + 1) = i + 1 + j by omega]
      split
      · exact ⟨p, hp⟩
      · exact ⟨p + 1, by simpa using hp⟩
theorem es_in {s : Sg} {j : Nat} {x : LS} (h : s[j]? = some x) (hs : x.spent = false) : ∃ p : Nat, (esOf s)[p]? = some (mElem 1 (iC ((j : Int) + 1)) (lrow x) j) := by
  obtain ⟨p, hp⟩ := esF_in s 0 j x h hs
  rw [Nat.zero_add] at hp
  exact ⟨p, hp⟩
theorem mAtB_far : ∀ (s : Sg) (i b : Nat), b < i → mAtB b (esF i s) = none
  | [], i, b, h => rfl
  | x :: r, i, b, h => by
    simp only [esF]
    split
    · exact mAtB_far r (i + 1) b (by omega)
    · simp only [ent, mElem, mAtB]
      have : (i == b) = false := by simp; omega
      simp only [this, Bool.false_eq_true, if_false]
      exact mAtB_far r (i + 1) b (by omega)
theorem mAtB_F : ∀ (s : Sg) (i j : Nat) (x : LS), s[j]? = some x → x.spent = false → mAtB (i + j) (esF i s) = some (iC (((i + j : Nat) : Int) + 1), .agg (lrow x))
  | [], i, j, x, h, hs => by simp at h
  | y :: r, i, j, x, h, hs => by
    simp only [esF]
    cases j with
    | zero =>
      obtain rfl : y = x := by simpa using h
      rw [if_neg (by simp [hs])]
      simp [ent, mElem, mAtB, packS]
    | succ j =>
      have ih := mAtB_F r (i + 1) j x (by simpa using h) hs
      rw [show i + (j + 1) = i + 1 + j by omega]
      split
      · exact ih
      · simp only [ent, mElem, mAtB]
        have : (i == i + 1 + j) = false := by simp; omega
        simp only [this, Bool.false_eq_true, if_false]
        exact ih
theorem mAtB_es {s : Sg} {j : Nat} {x : LS} (h : s[j]? = some x) (hs : x.spent = false) : mAtB j (esOf s) = some (iC ((j : Int) + 1), .agg [iC x.fr, iC x.to, sC x.by_, bC x.spoilt]) := by
  have := mAtB_F s 0 j x h hs
  rw [Nat.zero_add] at this
  exact this
/-- What has been gathered, those with these places seen. -/
def accW (s : Sg) (t : Int) : List Nat → List Int
  | [] => []
  | j :: r => match s[j]? with
    | some x => if x.to == t then ((j : Int) + 1) :: accW s t r else accW s t r
    | none => accW s t r
theorem accW_app (s : Sg) (t : Int) : ∀ (a c : List Nat), accW s t (a ++ c) = accW s t a ++ accW s t c
  | [], c => rfl
  | j :: r, c => by
    simp only [List.cons_append, accW]
    rw [accW_app s t r c]
    split
    · split <;> rfl
    · rfl
theorem accW_len (s : Sg) (t : Int) : ∀ (a : List Nat), (accW s t a).length ≤ a.length
  | [] => by simp [accW]
  | j :: r => by
    have := accW_len s t r
    simp only [accW]
    split
    · split <;> simp <;> omega
    · simp; omega
theorem accW_mem (s : Sg) (t : Int) (n : Int) : ∀ (a : List Nat), n ∈ accW s t a ↔ ∃ (j : Nat) (x : LS), j ∈ a ∧ s[j]? = some x ∧ x.to = t ∧ n = (j : Int) + 1
  | [] => by simp [accW]
  | i :: r => by
    have ih := accW_mem s t n r
    constructor
    · intro h
      simp only [accW] at h
      split at h
      · rename_i x hx
        split at h
        · rename_i ht
          rcases List.mem_cons.1 h with rfl | h
          · exact ⟨i, x, by simp, hx, by simpa using ht, rfl⟩
          · obtain ⟨j, x, h1, h2⟩ := ih.1 h; exact ⟨j, x, by simp [h1], h2⟩
        · obtain ⟨j, x, h1, h2⟩ := ih.1 h; exact ⟨j, x, by simp [h1], h2⟩
      · obtain ⟨j, x, h1, h2⟩ := ih.1 h; exact ⟨j, x, by simp [h1], h2⟩
    · rintro ⟨j, x, h1, h2, h3, h4⟩
      simp only [accW]
      rcases List.mem_cons.1 h1 with rfl | h1
      · rw [h2]
        simp only [h3, beq_self_eq_true, if_true]
        exact List.mem_cons.2 (.inl h4)
      · have := ih.2 ⟨j, x, h1, h2, h3, h4⟩
        split
        · split
          · exact List.mem_cons.2 (.inr this)
          · exact this
        · exact this
theorem accW_nd (s : Sg) (t : Int) : ∀ (a : List Nat), a.Nodup → (accW s t a).Nodup
  | [], _ => by simp [accW]
  | i :: r, h => by
    obtain ⟨h1, h2⟩ := List.nodup_cons.1 h
    have ih := accW_nd s t r h2
    simp only [accW]
    split
    · split
      · refine List.nodup_cons.2 ⟨fun hm => ?_, ih⟩
        obtain ⟨j, x, h3, _, _, h4⟩ := (accW_mem s t _ r).1 hm
        obtain rfl : j = i := by omega
        exact h1 h3
      · exact ih
    · exact ih
/-- All of them seen: those that wait, in some order. -/
theorem accW_perm {s : Sg} {t : Int} {a : List Nat} (hn : a.Nodup) (hl : ∀ j ∈ a, ∃ x : LS, s[j]? = some x ∧ x.spent = false) (hall : ∀ (j : Nat) (x : LS), s[j]? = some x → x.spent = false → j ∈ a) : (accW s t a).Perm (waitS s t) := by
  have hw : (waitS s t).Nodup := (wait_up t s 0).imp fun h => by omega
  refine (List.perm_ext_iff_of_nodup (accW_nd s t a hn) hw).2 fun n => ?_
  rw [accW_mem]
  unfold waitS
  rw [waits_mem]
  constructor
  · rintro ⟨j, x, h1, h2, h3, h4⟩
    obtain ⟨y, h5, h6⟩ := hl j h1
    obtain rfl : x = y := by rw [h2] at h5; exact Option.some.inj h5
    exact ⟨j, x, h2, by simp [isFor, h6, h3], by omega⟩
  · rintro ⟨j, x, h1, h2, h3⟩
    simp only [isFor, Bool.and_eq_true, Bool.not_eq_true', beq_iff_eq] at h2
    exact ⟨j, x, hall j x h1 h2.1, h1, h2.2, by omega⟩
theorem sorted_wait {s : Sg} {t : Int} {l : List Int} (h : l.Perm (waitS s t)) : l.mergeSort (fun x y => decide (x ≤ y)) = waitS s t := by
  have h1 : (l.mergeSort (fun x y => decide (x ≤ y))).Perm (waitS s t) := (List.mergeSort_perm l _).trans h
  have h2 : (l.mergeSort (fun x y => decide (x ≤ y))).Pairwise (fun x y => decide (x ≤ y) = true) :=
    List.pairwise_mergeSort (fun a b c h1 h2 => by simp at *; omega) (fun a b => by simp; omega) l
  have h3 : (waitS s t).Pairwise (fun x y => decide (x ≤ y) = true) := (wait_up t s 0).imp fun h => by simp; omega
  exact h1.eq_of_pairwise (fun a b _ _ h4 h5 => by simp at h4 h5; omega) h2 h3
theorem accW_none {s : Sg} {t : Int} {a : List Nat} {j : Nat} {x : LS} (h : s[j]? = some x) (ht : (x.to == t) = false) : accW s t (a ++ [j]) = accW s t a := by
  rw [accW_app]; simp [accW, h, ht]
theorem accW_some {s : Sg} {t : Int} {a : List Nat} {j : Nat} {x : LS} (h : s[j]? = some x) (ht : (x.to == t) = true) : accW s t (a ++ [j]) = accW s t a ++ [(j : Int) + 1] := by
  rw [accW_app]; simp [accW, h, ht]
end Go.LH.K
