/- Link: who waits; all for a module are spent. -/
import Derived.Test.YtieoifkedeeehaaDoorKSpec2
namespace Go.LH.K
open Go Go.LH
/-- Does it wait for that module? -/
def isFor (t : Int) (x : LS) : Bool := !x.spent && x.to == t
def waitF (t : Int) : Nat → Sg → List Int
  | _, [] => []
  | i, x :: r => if isFor t x then ((i : Int) + 1) :: waitF t (i + 1) r else waitF t (i + 1) r
def waitS (s : Sg) (t : Int) : List Int := waitF t 0 s
def flushS (s : Sg) (t : Int) : Sg := s.map fun x => if isFor t x then spend x else x
def wdI (l : List Int) : Nat := if l.isEmpty then 0 else 1
/-- A list of numbers in memory. -/
def intsE (l : List Int) : Entry := ⟨false, l.length, wdI l, l.map intE⟩
theorem wdI_app {l : List Int} {n : Int} : wdI (l ++ [n]) = 1 := by cases l <;> rfl
theorem wdI_or (l : List Int) : wdI l = 1 ∨ wdI l = 0 ∧ l.map intE = [] := by
  cases l with
  | nil => exact .inr ⟨rfl, rfl⟩
  | cons y r => exact .inl rfl
theorem waitF_app (t : Int) : ∀ (s u : Sg) (i : Nat), waitF t i (s ++ u) = waitF t i s ++ waitF t (i + s.length) u
  | [], u, i => by simp [waitF]
  | x :: r, u, i => by
    simp only [List.cons_append, waitF, List.length_cons]
    rw [waitF_app t r u (i + 1), show i + 1 + r.length = i + (r.length + 1) by omega]
    split <;> simp
theorem wait_step {s : Sg} {t : Int} {k : Nat} {x : LS} (h : s[k]? = some x) : waitS (s.take (k + 1)) t = if isFor t x then waitS (s.take k) t ++ [(k : Int) + 1] else waitS (s.take k) t := by
  have hk := (List.getElem?_eq_some_iff.1 h).1
  have e : s.take (k + 1) = s.take k ++ [x] := by rw [List.take_add_one, h]; rfl
  rw [e]
  unfold waitS
  rw [waitF_app]
  have : (s.take k).length = k := by simp; omega
  rw [Nat.zero_add, this]
  simp only [waitF]
  split <;> simp
theorem wait_len (t : Int) : ∀ (s : Sg) (i : Nat), (waitF t i s).length ≤ s.length
  | [], i => by simp [waitF]
  | x :: r, i => by
    have := wait_len t r (i + 1)
    simp only [waitF]
    split <;> simp <;> omega
/-- Each of them is the number of one that waits. -/
theorem waits_mem (t : Int) : ∀ (s : Sg) (i : Nat) (n : Int), n ∈ waitF t i s ↔ ∃ (k : Nat) (x : LS), s[k]? = some x ∧ isFor t x = true ∧ n = (i : Int) + k + 1
  | [], i, n => by simp [waitF]
  | y :: r, i, n => by
    have ih := waits_mem t r (i + 1) n
    constructor
    · intro h
      simp only [waitF] at h
      split at h
      · rename_i hy
        rcases List.mem_cons.1 h with rfl | h
        · exact ⟨0, y, rfl, hy, by omega⟩
        · obtain ⟨k, x, h1, h2, h3⟩ := ih.1 h
          exact ⟨k + 1, x, by simpa using h1, h2, by omega⟩
      · obtain ⟨k, x, h1, h2, h3⟩ := ih.1 h
        exact ⟨k + 1, x, by simpa using h1, h2, by omega⟩
    · rintro ⟨k, x, h1, h2, h3⟩
      simp only [waitF]
      cases k with
      | zero =>
        obtain rfl : y = x := by simpa using h1
        rw [if_pos h2]
        exact List.mem_cons.2 (.inl (by omega))
      | succ k =>
        have := ih.2 ⟨k, x, by simpa using h1, h2, by omega⟩
        split
        · exact List.mem_cons.2 (.inr this)
        · exact this
/-- They rise. -/
theorem wait_up (t : Int) : ∀ (s : Sg) (i : Nat), (waitF t i s).Pairwise (· < ·)
  | [], i => by simp [waitF]
  | x :: r, i => by
    have ih := wait_up t r (i + 1)
    simp only [waitF]
    split
    · refine List.pairwise_cons.2 ⟨fun n hn => ?_, ih⟩
      obtain ⟨k, x, h1, h2, h3⟩ := (waits_mem t r (i + 1) n).1 hn
      omega
    · exact ih
theorem renE_ints {f : Nat → Nat} {l : List Int} : renE f (intsE l) = intsE l := (rfl)
attribute [go_sem] intE renE_ints
end Go.LH.K
