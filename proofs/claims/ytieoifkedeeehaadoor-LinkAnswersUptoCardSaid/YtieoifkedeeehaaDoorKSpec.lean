/- Link: what the letters are, and what the calls answer. -/
import Derived.Test.YtieoifkedeeehaaDoorKBase
namespace Go.LH.K
open Go Go.LH
/-- A letter that was made: whose, for whom, its bytes; is it spoilt, is it spent? -/
structure LS where
  fr : Int
  to : Int
  by_ : ByteArray
  spoilt : Bool
  spent : Bool
  deriving Inhabited
abbrev Sg := List LS
/-- One under way, as the link holds it; one, as the document's link holds it. -/
def lrow (x : LS) : List Cv := [iC x.fr, iC x.to, sC x.by_, bC x.spoilt]
def rrow (x : LS) : List Cv := [iC x.fr, iC x.to, sC x.by_, bC x.spoilt, bC x.spent]
def zero4 : List Cv := [iC 0, iC 0, .val (.string ⟨⟨[]⟩⟩), bC false]
def zero3 : List Cv := [iC 0, iC 0, .val (.string ⟨⟨[]⟩⟩)]
def row3 (x : LS) : List Cv := [iC x.fr, iC x.to, sC x.by_]
def ent (x : LS) (i : Nat) : Cv := mElem 1 (iC ((i : Int) + 1)) (lrow x) i
/-- What is under way, from number i on. -/
def esF : Nat → Sg → List Cv
  | _, [] => []
  | i, x :: r => if x.spent then esF (i + 1) r else ent x i :: esF (i + 1) r
def esOf (s : Sg) : List Cv := esF 0 s
/-- The program's link in memory; the document's. -/
def LHp (s : Sg) : List Entry := [⟨true, 0, 2, [[.mp 1 0, iC s.length]]⟩, mapE 0 s.length (esOf s)]
def wdR (s : Sg) : Nat := if s.isEmpty then 0 else 5
def RHp (s : Sg) : List Entry := [⟨true, 0, 1, [[.rs 1 s.length 0 s.length]]⟩, ⟨false, s.length, wdR s, s.map rrow⟩]
/-- The letter of that number, where it is under way. -/
def findS (s : Sg) (n : Int) : Option LS := if 1 ≤ n ∧ n ≤ s.length then match s[(n - 1).toNat]? with
  | some x => if x.spent then none else some x
  | none => none
  else none

theorem mfind_ent {x : LS} {i j : Nat} {n : Int} {r : List Cv} : mfind .int (iC n) (ent x i :: r) j = if n = (i : Int) + 1 then some (some (j, 1, lrow x, i)) else mfind .int (iC n) r (j + 1) := by
  simp only [ent, mElem, mfind, cellEq, if_true]
  by_cases h : n = (i : Int) + 1
  · subst h; simp
  · have hb : (n == (i : Int) + 1) = false := by simpa using h
    simp [hb, h]
theorem mfind_far : ∀ (s : Sg) (i j : Nat) (n : Int), n < (i : Int) + 1 ∨ (i : Int) + s.length < n → mfind .int (iC n) (esF i s) j = some none
  | [], i, j, n, h => rfl
  | x :: r, i, j, n, h => by
    have h' : n < ((i + 1 : Nat) : Int) + 1 ∨ ((i + 1 : Nat) : Int) + r.length < n := by
      simp only [List.length_cons] at h
      omega
    unfold esF
    split
    · exact mfind_far r (i + 1) j n h'
    · rw [mfind_ent, if_neg (by simp only [List.length_cons] at h; omega)]
      exact mfind_far r (i + 1) (j + 1) n h'
theorem mfind_at : ∀ (s : Sg) (i j k : Nat) (x : LS), s[k]? = some x → (x.spent = true → mfind .int (iC ((i : Int) + k + 1)) (esF i s) j = some none) ∧
    (x.spent = false → ∃ p, mfind .int (iC ((i : Int) + k + 1)) (esF i s) j = some (some (j + p, 1, lrow x, i + k)) ∧ (∀ y : LS, y.spent = false → (esF i s).set p (mElem 1 (iC ((i : Int) + k + 1)) (lrow y) (i + k)) = esF i (s.set k y)) ∧ (∀ y : LS, y.spent = true → (esF i s).eraseIdx p = esF i (s.set k y)))
  | [], i, j, k, x, h => by simp at h
  | y :: r, i, j, 0, x, h => by
    obtain rfl : y = x := by simpa using h
    refine ⟨fun hs => ?_, fun hs => ?_⟩
    · unfold esF
      rw [if_pos hs]
      refine mfind_far r (i + 1) j _ (.inl (by omega))
    · refine ⟨0, ?_, fun z hz => ?_, fun z hz => ?_⟩
      · unfold esF
        rw [if_neg (by simp [hs]), mfind_ent, if_pos (by omega)]
        rfl
      · simp [esF, hs, hz, ent]
      · simp [esF, hs, hz]
  | y :: r, i, j, k + 1, x, h => by
    have h' : r[k]? = some x := by simpa using h
    have e1 : (i : Int) + (k + 1 : Nat) + 1 = ((i + 1 : Nat) : Int) + k + 1 := by omega
    have e2 : i + (k + 1) = i + 1 + k := by omega
    rw [e1, e2]
    have hne : ¬ ((i + 1 : Nat) : Int) + k + 1 = (i : Int) + 1 := by omega
    cases hy : y.spent with
    | true =>
      obtain ⟨q1, q2⟩ := mfind_at r (i + 1) j k x h'
      refine ⟨fun hs => ?_, fun hs => ?_⟩
      · unfold esF; rw [if_pos hy]; exact q1 hs
      · obtain ⟨p, g1, g2, g3⟩ := q2 hs
        refine ⟨p, ?_, fun z hz => ?_, fun z hz => ?_⟩
        · unfold esF; rw [if_pos hy]; exact g1
        · simp only [esF, hy, if_true, List.set_cons_succ]; exact g2 z hz
        · simp only [esF, hy, if_true, List.set_cons_succ]; exact g3 z hz
    | false =>
      obtain ⟨q1, q2⟩ := mfind_at r (i + 1) (j + 1) k x h'
      refine ⟨fun hs => ?_, fun hs => ?_⟩
      · unfold esF; rw [if_neg (by simp [hy]), mfind_ent, if_neg hne]; exact q1 hs
      · obtain ⟨p, g1, g2, g3⟩ := q2 hs
        refine ⟨p + 1, ?_, fun z hz => ?_, fun z hz => ?_⟩
        · unfold esF; rw [if_neg (by simp [hy]), mfind_ent, if_neg hne, g1]
          congr 3; omega
        · simp only [esF, hy, Bool.false_eq_true, if_false, List.set_cons_succ]; rw [g2 z hz]
        · simp only [esF, hy, Bool.false_eq_true, if_false, List.set_cons_succ, List.eraseIdx_cons_succ]; rw [g3 z hz]
/-- What the map says at a number. -/
theorem es_none {s : Sg} {n : Int} (h : findS s n = none) : mfind .int (iC n) (esOf s) 0 = some none := by
  unfold findS at h
  split at h
  · rename_i hn
    cases hx : s[(n - 1).toNat]? with
    | none => have := List.getElem?_eq_none_iff.1 hx; omega
    | some x =>
      rw [hx] at h
      simp only at h
      split at h
      · rename_i hs
        have := (mfind_at s 0 0 (n - 1).toNat x hx).1 hs
        rw [show ((0 : Nat) : Int) + (n - 1).toNat + 1 = n by omega] at this
        exact this
      · cases h
  · exact mfind_far s 0 0 n (by omega)
theorem es_some {s : Sg} {n : Int} {x : LS} (h : findS s n = some x) : (1 ≤ n ∧ n ≤ s.length) ∧ s[(n - 1).toNat]? = some x ∧ x.spent = false ∧ ∃ p, mfind .int (iC n) (esOf s) 0 = some (some (p, 1, lrow x, (n - 1).toNat)) ∧
    (∀ y : LS, y.spent = false → (esOf s).set p (mElem 1 (iC n) (lrow y) (n - 1).toNat) = esOf (s.set (n - 1).toNat y)) ∧ (∀ y : LS, y.spent = true → (esOf s).eraseIdx p = esOf (s.set (n - 1).toNat y)) := by
  unfold findS at h
  split at h
  · rename_i hn
    cases hx : s[(n - 1).toNat]? with
    | none => rw [hx] at h; cases h
    | some y =>
      rw [hx] at h
      simp only at h
      split at h
      · cases h
      · rename_i hs
        obtain rfl := Option.some.inj h
        have hs : y.spent = false := by simpa using hs
        obtain ⟨p, g1, g2, g3⟩ := (mfind_at s 0 0 (n - 1).toNat y hx).2 hs
        rw [show ((0 : Nat) : Int) + (n - 1).toNat + 1 = n by omega, Nat.zero_add, Nat.zero_add] at g1
        refine ⟨hn, rfl, hs, p, g1, fun z hz => ?_, g3⟩
        have := g2 z hz
        rw [show ((0 : Nat) : Int) + (n - 1).toNat + 1 = n by omega, Nat.zero_add] at this
        exact this
  · cases h
theorem esF_app : ∀ (s t : Sg) (i : Nat), esF i (s ++ t) = esF i s ++ esF (i + s.length) t
  | [], t, i => by simp [esF]
  | x :: r, t, i => by
    simp only [List.cons_append, esF, List.length_cons]
    rw [esF_app r t (i + 1), show i + 1 + r.length = i + (r.length + 1) by omega]
    split <;> simp
/-- A new letter. -/
theorem es_new {s : Sg} {x : LS} (h : x.spent = false) : mput .int (iC ((s.length + 1 : Nat) : Int)) 1 [iC x.fr, iC x.to, sC x.by_, bC x.spoilt] s.length (esOf s) = some (s.length + 1, esOf (s ++ [x])) := by
  rw [show ((s.length + 1 : Nat) : Int) = (s.length : Int) + 1 by omega]
  show mput .int (iC ((s.length : Int) + 1)) 1 (lrow x) s.length (esOf s) = some (s.length + 1, esOf (s ++ [x]))
  have h0 : mfind .int (iC ((s.length : Int) + 1)) (esOf s) 0 = some none := mfind_far s 0 0 _ (.inr (by omega))
  simp only [mput, h0]
  unfold esOf
  rw [esF_app]
  simp [esF, h, ent]
/-- A letter that has changed. -/
theorem es_put {s : Sg} {n : Int} {x y : LS} (h : findS s n = some x) (hy : y.spent = false) : mput .int (iC n) 1 [iC y.fr, iC y.to, sC y.by_, bC y.spoilt] s.length (esOf s) = some (s.length, esOf (s.set (n - 1).toNat y)) := by
  show mput .int (iC n) 1 (lrow y) s.length (esOf s) = _
  obtain ⟨_, _, _, p, h1, h2, _⟩ := es_some h
  simp only [mput, h1, h2 y hy]
end Go.LH.K
