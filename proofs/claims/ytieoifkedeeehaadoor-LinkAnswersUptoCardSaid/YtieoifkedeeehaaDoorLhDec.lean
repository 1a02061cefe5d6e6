/- LH: what a row's reading gives: the argument is plain content. -/
import Derived.ChangeArms
import Derived.Deep.Slices
import Derived.Test.YtieoifkedeeehaaDoorLhOne
namespace Go.LH
open Go
/-- What is told of the size of a datum. -/
structure SmallP {H : Type} (S : DataW H → Prop) : Prop where
  sl : ∀ es sp, S (.slice es sp) → es.length ≤ 4294967296 ∧ ∀ e ∈ es, S e
  ag : ∀ ps, S (.agg ps) → ∀ p ∈ ps, S p
  st : ∀ l, S (.lit (.string l)) → l.length ≤ 4294967296
def no (_ : Nat) : Prop := False
def CellsRep (w : World) (row : List Cv) (cs : List Value) : Prop := row.length = cs.length ∧ ∀ (j : Nat) (c : Cv) (u : Value), row[j]? = some c → cs[j]? = some u → RepV w no c u
section
variable {H : Type} (enc : TypeId × Value → H) (P : Program) (w : World) (S : DataW H → Prop)
/-- Every reading of that type gives content of that form. -/
def Dec (t : TypeId) {α : Type} (en : α → List Cv) (ok : α → Prop) : Prop :=
  ∀ (n : Nat) (cs : List Value) (x : DataW H × List MemPlace), DataW.trod enc P w 0 (fun _ => true) true n t cs = some x → S x.1 → ∃ a, ok a ∧ CellsRep w (en a) cs
end
section
variable {H : Type} {enc : TypeId × Value → H} {P : Program} {w : World} {S : DataW H → Prop}
theorem dec_one {c : Cv} {u : Value} (h : RepV w no c u) : CellsRep w [c] [u] := by
  refine ⟨rfl, fun j c' u' h1 h2 => ?_⟩
  match j, h1, h2 with
  | 0, h1, h2 => simp at h1 h2; subst h1; subst h2; exact h
theorem dec_int {t : TypeId} (ht : P.underlying t = some (.int .i64)) : Dec enc P w S t (fun n : Int => [.val (.int .i64 n)]) (fun n => -9223372036854775808 ≤ n ∧ n ≤ 9223372036854775807) := by
  intro n cs x h hs
  obtain ⟨k, rfl, rfl, hw⟩ := DataW.trod_int ht h
  refine ⟨k, ?_, dec_one (.val _ rfl)⟩
  simp only [Lit.wf, IntKind.min, IntKind.max, IntKind.signed, IntKind.bits, Bool.and_eq_true, decide_eq_true_eq] at hw
  simpa using hw
theorem dec_bool {t : TypeId} (ht : P.underlying t = some .bool) : Dec enc P w S t (fun b : Bool => [.val (.bool b)]) (fun _ => True) := by
  intro n cs x h hs
  obtain ⟨k, rfl, rfl⟩ := DataW.trod_bool ht h
  exact ⟨k, trivial, dec_one (.val _ rfl)⟩
theorem dec_string {t : TypeId} (hS : SmallP S) (ht : P.underlying t = some .string) : Dec enc P w S t (fun s : ByteArray => [.val (.string s)]) (fun s => s.size ≤ 4294967296) := by
  intro n cs x h hs
  obtain ⟨k, rfl, rfl, _⟩ := DataW.trod_string ht h
  exact ⟨k, by simpa using hS.st _ hs, dec_one (.val _ rfl)⟩
theorem dec_mapM {α β : Type} {f : α → Option β} : ∀ {l : List α} {r : List β}, l.mapM f = some r → l.length = r.length ∧ ∀ (i : Nat) (a : α), l[i]? = some a → ∃ b, r[i]? = some b ∧ f a = some b
  | [], r, h => by
    simp at h; subst h; exact ⟨rfl, fun i a h => by simp at h⟩
  | x :: l, r, h => by
    rw [List.mapM_cons] at h
    cases hx : f x with
    | none => simp [hx] at h
    | some y =>
      cases hl : l.mapM f with
      | none => simp [hx, hl] at h
      | some s =>
        simp [hx, hl] at h
        subst h
        obtain ⟨h1, h2⟩ := dec_mapM hl
        refine ⟨by simp [h1], fun i a hi => ?_⟩
        match i, hi with
        | 0, hi => simp at hi; subst hi; exact ⟨y, rfl, hx⟩
        | i + 1, hi => simpa using h2 i a (by simpa using hi)
theorem dec_cells {a : Addr} {n : Nat} {cs : List Value} (h : w.cells? 0 a n = some cs) : cs.length = n ∧ ∀ j, j < n → ∃ u, cs[j]? = some u ∧ w.cell? (a.add j) = some u := by
  unfold World.cells? at h
  rw [if_pos (Nat.zero_le _)] at h
  obtain ⟨h1, h2⟩ := dec_mapM h
  refine ⟨by simpa using h1.symm, fun j hj => ?_⟩
  obtain ⟨u, h3, h4⟩ := h2 j j (by simp [hj])
  exact ⟨u, h3, h4⟩
theorem dec_slice {t e : TypeId} {α : Type} {en : α → List Cv} {ok : α → Prop} {wd : Nat} (hS : SmallP S) (ht : P.underlying t = some (.slice e)) (hc : P.cellsOf e = wd) (hwd : 0 < wd) (hl : ∀ a, (en a).length = wd) (hd : Dec enc P w S e en ok) :
    Dec enc P w S t (fun l : List α => [.sl wd (l.map en)]) (fun l => (∀ x ∈ l, ok x) ∧ l.length ≤ 4294967296) := by
  intro n cs x h hs
  rcases DataW.trod_slice ht h with ⟨rfl, rfl⟩ | ⟨a, len, cap, elems, rest, m, _, rfl, rfl, _, hle, _, hlen, hel, _, _⟩
  · exact ⟨[], ⟨by simp, by simp⟩, dec_one (.sl0 _ _ _)⟩
  · obtain ⟨s1, s2⟩ := hS.sl _ _ hs
    have key : ∀ i, i < len → ∃ (x : α) (cs' : List Value), ok x ∧ CellsRep w (en x) cs' ∧ w.cells? 0 (a.add (i * wd)) wd = some cs' := by
      intro i hi
      have h1 := hel i hi
      rw [hc] at h1
      cases hcs : w.cells? 0 (a.add (i * wd)) wd with
      | none => rw [hcs] at h1; simp at h1; omega
      | some cs' =>
        rw [hcs] at h1
        simp only [Option.bind_some] at h1
        have hi' : i < elems.length := by omega
        rw [List.getElem?_eq_getElem hi'] at h1
        obtain ⟨x, hx1, hx2⟩ := hd m cs' _ h1 (s2 _ (List.mem_map.2 ⟨_, List.getElem_mem hi', rfl⟩))
        exact ⟨x, cs', hx1, hx2, rfl⟩
    by_cases h0 : len = 0
    · subst h0
      exact ⟨[], ⟨by simp, by simp⟩, dec_one (.sl0 _ _ _)⟩
    · have hne : Nonempty α := by
        obtain ⟨x, _⟩ := key 0 (by omega)
        exact ⟨x⟩
      let f : Nat → α := fun i => if hi : i < len then Classical.choose (key i hi) else Classical.choice hne
      have hf : ∀ i, i < len → ∃ cs' : List Value, ok (f i) ∧ CellsRep w (en (f i)) cs' ∧ w.cells? 0 (a.add (i * wd)) wd = some cs' := by
        intro i hi
        have := Classical.choose_spec (key i hi)
        simp only [f, hi, dif_pos]
        exact this
      have hsp : a.spot = none := by
        obtain ⟨cs', _, _, h3⟩ := hf 0 (by omega)
        obtain ⟨h4, h5⟩ := dec_cells h3
        obtain ⟨u, _, h6⟩ := h5 0 hwd
        simp only [Addr.add, Nat.zero_mul, if_true] at h6
        unfold World.cell? at h6
        split at h6
        · split at h6
          · cases h6
          · rename_i hns; simpa using hns
        · cases h6
      obtain ⟨b, o, sp⟩ := a
      simp only at hsp
      subst hsp
      have hadd : ∀ i j, ((⟨b, o, none⟩ : Addr).add i).add j = ⟨b, o + i + j, none⟩ := by
        intro i j
        simp only [Addr.add]
        split <;> split <;> simp_all
      have hcell : ∀ i j, i < len → j < wd → ∃ (c : Cv) (u : Value), (en (f i))[j]? = some c ∧ w.cell? ⟨b, o + i * wd + j, none⟩ = some u ∧ RepV w no c u := by
        intro i j hi hj
        obtain ⟨cs', h1, h2, h3⟩ := hf i hi
        obtain ⟨h4, h5⟩ := dec_cells h3
        obtain ⟨u, h6, h7⟩ := h5 j hj
        rw [hadd] at h7
        have hjl : j < (en (f i)).length := by rw [hl]; exact hj
        exact ⟨(en (f i))[j], u, List.getElem?_eq_getElem hjl, h7, h2.2 j _ u (List.getElem?_eq_getElem hjl) h6⟩
      refine ⟨(List.range len).map f, ⟨?_, by simp; rw [List.length_map] at s1; omega⟩, dec_one ?_⟩
      · intro x hx
        obtain ⟨i, hi, rfl⟩ := List.mem_map.1 hx
        obtain ⟨cs', h1, _⟩ := hf i (List.mem_range.1 hi)
        exact h1
      · have hrow : ∀ (r : Nat) (row : List Cv), (((List.range len).map f).map en)[r]? = some row → r < len ∧ row = en (f r) := by
          intro r row hr
          by_cases hrl : r < len
          · simp [hrl] at hr; exact ⟨hrl, hr.symm⟩
          · rw [List.getElem?_eq_none (by simp; omega)] at hr; cases hr
        have hb : b < w.heap.size := by
          obtain ⟨c, u, _, h2, _⟩ := hcell 0 0 (by omega) hwd
          unfold World.cell? at h2
          rcases Nat.lt_or_ge b w.heap.size with h | h
          · exact h
          · simp [Array.getElem?_eq_none h] at h2
        have hlen2 : (((List.range len).map f).map en).length = len := by simp
        have hv : RepV w no (.sl wd (((List.range len).map f).map en)) (.slice (some ⟨b, o, none⟩) (((List.range len).map f).map en).length cap) := by
          refine .sl wd _ b o cap (fun r j => (w.cell? ⟨b, o + r * wd + j, none⟩).getD undef) (by rw [hlen2]; exact hle) hb (fun h => h) ?_ ?_ ?_
          · intro r row hr
            obtain ⟨_, rfl⟩ := hrow r row hr
            exact hl _
          · intro r row j c hr hj
            obtain ⟨hrl, rfl⟩ := hrow r row hr
            have hjw : j < wd := by
              have := (List.getElem?_eq_some_iff.1 hj).1
              rwa [hl] at this
            obtain ⟨c', u, _, h2, _⟩ := hcell r j hrl hjw
            rw [h2]; rfl
          · intro r row j c hr hj
            obtain ⟨hrl, rfl⟩ := hrow r row hr
            have hjw : j < wd := by
              have := (List.getElem?_eq_some_iff.1 hj).1
              rwa [hl] at this
            obtain ⟨c', u, h1, h2, h3⟩ := hcell r j hrl hjw
            rw [h2]
            rw [h1] at hj
            obtain rfl := Option.some.inj hj
            exact h3
        rw [hlen2] at hv
        exact hv
/-- Fields one behind the other. -/
theorem dec_last {r : List Cv} {cs : List Value} {o k : Nat} (h : CellsRep w r ((cs.drop o).take k)) (hl : cs.length = o + k) : CellsRep w r (cs.drop o) := by
  rwa [List.take_of_length_le (by simp; omega)] at h
theorem dec_cons {r1 r2 : List Cv} {cs : List Value} {o k o' : Nat} (h : CellsRep w r1 ((cs.drop o).take k)) (ho : o' = o + k) (hl : o' ≤ cs.length) (h2 : CellsRep w r2 (cs.drop o')) : CellsRep w (r1 ++ r2) (cs.drop o) := by
  subst ho
  obtain ⟨a1, a2⟩ := h
  obtain ⟨b1, b2⟩ := h2
  have hk : r1.length = k := by rw [a1]; simp; omega
  refine ⟨by simp only [List.length_append, b1, hk, List.length_drop]; omega, fun j c u h1 h2 => ?_⟩
  by_cases hj : j < k
  · rw [List.getElem?_append_left (by omega)] at h1
    exact a2 j c u h1 (by rw [List.getElem?_take_of_lt hj]; exact h2)
  · rw [List.getElem?_append_right (by omega), hk] at h1
    refine b2 (j - k) c u h1 ?_
    rw [List.getElem?_drop] at h2 ⊢
    rw [← h2]; congr 1; omega
end
end Go.LH
