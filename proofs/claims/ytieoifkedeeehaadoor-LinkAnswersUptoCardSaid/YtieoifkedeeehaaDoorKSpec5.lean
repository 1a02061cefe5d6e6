/- Link: letters spent one by one. -/
import Derived.Test.YtieoifkedeeehaaDoorKSpec4
namespace Go.LH.K
open Go Go.LH
/-- Those with these numbers are spent. -/
def flushL (s : Sg) (l : List Int) : Sg := s.mapIdx fun i x => if ((i : Int) + 1) ∈ l then spend x else x
theorem flushL_nil (s : Sg) : flushL s [] = s := by
  apply List.ext_getElem?
  intro i
  simp [flushL]
theorem flushL_len (s : Sg) (l : List Int) : (flushL s l).length = s.length := by simp [flushL]
theorem flushL_get {s : Sg} {l : List Int} {i : Nat} {x : LS} (h : s[i]? = some x) : (flushL s l)[i]? = some (if ((i : Int) + 1) ∈ l then spend x else x) := by
  simp [flushL, h]
theorem flushL_all (s : Sg) (t : Int) : flushL s (waitS s t) = flushS s t := by
  apply List.ext_getElem?
  intro i
  cases h : s[i]? with
  | none => simp [flushL, flushS, h]
  | some x =>
    rw [flushL_get h]
    simp only [flushS, List.getElem?_map, h, Option.map_some]
    have : ((i : Int) + 1) ∈ waitS s t ↔ isFor t x = true := by
      unfold waitS
      rw [waits_mem]
      constructor
      · rintro ⟨k, y, h1, h2, h3⟩
        obtain rfl : k = i := by omega
        rw [h] at h1
        obtain rfl := Option.some.inj h1
        exact h2
      · intro h2
        exact ⟨i, x, h, h2, by omega⟩
    simp only [this]
/-- The next one. -/
theorem flush_step {s : Sg} {t n : Int} {k : Nat} (h : (waitS s t)[k]? = some n) : ∃ x, findS (flushL s ((waitS s t).take k)) n = some x ∧ (flushL s ((waitS s t).take k)).set (n - 1).toNat (spend x) = flushL s ((waitS s t).take (k + 1)) ∧ 1 ≤ n ∧ n ≤ s.length ∧
    (flushL s ((waitS s t).take k))[(n - 1).toNat]? = some x := by
  have hmem : n ∈ waitS s t := List.mem_of_getElem? h
  unfold waitS at hmem
  obtain ⟨j, x, h1, h2, h3⟩ := (waits_mem t s 0 n).1 hmem
  have hj := (List.getElem?_eq_some_iff.1 h1).1
  have hn : (n - 1).toNat = j := by omega
  have hnd : (waitS s t).Nodup := (wait_up t s 0).imp fun h => by omega
  have hnot : ((j : Int) + 1) ∉ (waitS s t).take k := by
    intro hm
    obtain ⟨i, hi, he⟩ := List.getElem_of_mem hm
    have hik : i < k := by simp at hi; omega
    have hk := (List.getElem?_eq_some_iff.1 h).1
    have e1 : (waitS s t)[i]'(by omega) = n := by rw [List.getElem_take] at he; omega
    have e2 : (waitS s t)[k] = n := (List.getElem?_eq_some_iff.1 h).2
    have := List.pairwise_iff_getElem.1 hnd i k (by omega) hk hik
    exact this (e1.trans e2.symm)
  have hg : (flushL s ((waitS s t).take k))[j]? = some x := by rw [flushL_get h1, if_neg hnot]
  simp only [isFor, Bool.and_eq_true, Bool.not_eq_true', beq_iff_eq] at h2
  refine ⟨x, ?_, ?_, by omega, by omega, by rw [hn]; exact hg⟩
  · unfold findS
    rw [flushL_len, if_pos (by omega), hn, hg]
    simp [h2.1]
  · rw [hn]
    apply List.ext_getElem?
    intro i
    rw [List.getElem?_set]
    have ht : (waitS s t).take (k + 1) = (waitS s t).take k ++ [n] := by rw [List.take_add_one, h]; rfl
    by_cases hij : j = i
    · subst hij
      rw [if_pos rfl, if_pos (by rw [flushL_len]; exact hj), flushL_get h1, if_pos]
      rw [ht]
      exact List.mem_append.2 (.inr (by simp; omega))
    · rw [if_neg hij]
      cases hi : s[i]? with
      | none => simp [flushL, hi]
      | some y =>
        rw [flushL_get hi, flushL_get hi, ht]
        have : ((i : Int) + 1 ∈ (waitS s t).take k ++ [n]) ↔ (i : Int) + 1 ∈ (waitS s t).take k := by
          simp only [List.mem_append, List.mem_singleton]
          constructor
          · rintro (h | h)
            · exact h
            · omega
          · exact .inl
        simp only [this]
end Go.LH.K
