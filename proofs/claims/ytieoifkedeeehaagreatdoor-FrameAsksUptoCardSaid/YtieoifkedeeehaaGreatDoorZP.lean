/- FrameAsks: plain laws about whose a tick is. -/
import Derived.Test.YtieoifkedeeehaaGreatDoorZL
namespace Go.LH.Z
open Go Go.LH
def inW (w : Win) (t : Int) : Prop := w.start ≤ t ∧ t < w.start + w.len
instance (w : Win) (t : Int) : Decidable (inW w t) := by unfold inW; infer_instance
theorem wins_sorted {c : Cfg} (h : cfgOk c = true) : c.wins.Pairwise (fun a b => a.start + a.len ≤ b.start) := by
  have step : ∀ i (hi : i + 1 < c.wins.length), c.wins[i].start + c.wins[i].len ≤ c.wins[i + 1].start := by
    intro i hi
    have := (cfg_win h hi).2.2.2.2
    rwa [endOf_succ (by omega)] at this
  rw [List.pairwise_iff_getElem]
  intro i j hi hj hij
  obtain ⟨d, rfl⟩ : ∃ d, j = i + 1 + d := ⟨j - (i + 1), by omega⟩
  clear hij
  induction d with
  | zero => exact step i hj
  | succ d ih =>
    have h1 := ih (by omega)
    have h2 := step (i + 1 + d) hj
    have h3 := (cfg_win h (i := i + 1 + d) (by omega)).2.1
    have : i + 1 + (d + 1) = i + 1 + d + 1 := by omega
    simp only [this]
    omega
/-- In a list in order at most one holds a tick. -/
theorem fold_in {l : List Win} (hs : l.Pairwise (fun a b => a.start + a.len ≤ b.start)) (hp : ∀ w ∈ l, 1 ≤ w.len) {t : Int} (a : Int) {w : Win} (hw : w ∈ l) (ht : inW w t) :
    l.foldl (fun a w => if w.start ≤ t ∧ t < w.start + w.len then w.part else a) a = w.part := by
  induction l generalizing a with
  | nil => cases hw
  | cons x l ih =>
    rw [List.pairwise_cons] at hs
    simp only [List.foldl_cons]
    rcases List.mem_cons.1 hw with rfl | hw'
    · have ho : ∀ v ∈ l, ¬ (v.start ≤ t ∧ t < v.start + v.len) := by
        intro v hv hc
        have := hs.1 v hv
        have := ht.2
        omega
      have ht' : w.start ≤ t ∧ t < w.start + w.len := ht
      rw [if_pos ht']
      clear ih hs hw ht ht' hp
      induction l with
      | nil => rfl
      | cons y l ih2 =>
        simp only [List.foldl_cons]
        rw [if_neg (ho y (List.mem_cons_self ..))]
        exact ih2 fun v hv => ho v (List.mem_cons_of_mem _ hv)
    · exact ih hs.2 (fun v hv => hp v (List.mem_cons_of_mem _ hv)) _ hw'
theorem fold_out {l : List Win} {t : Int} (a : Int) (ho : ∀ w ∈ l, ¬ inW w t) :
    l.foldl (fun a w => if w.start ≤ t ∧ t < w.start + w.len then w.part else a) a = a := by
  induction l with
  | nil => rfl
  | cons y l ih =>
    simp only [List.foldl_cons]
    have hy := ho y (List.mem_cons_self ..)
    unfold inW at hy
    rw [if_neg hy]
    exact ih fun v hv => ho v (List.mem_cons_of_mem _ hv)
theorem wins_len {c : Cfg} (h : cfgOk c = true) : ∀ w ∈ c.wins, 0 ≤ w.start ∧ 1 ≤ w.len ∧ w.start + w.len ≤ c.ticks ∧ -1 ≤ w.part := by
  intro w hw
  obtain ⟨i, hi, rfl⟩ := List.mem_iff_getElem.1 hw
  obtain ⟨h1, h2, h3, h4, h5⟩ := cfg_win h hi
  simp only [ownB, Bool.and_eq_true, decide_eq_true_eq] at h4
  exact ⟨h1, h2, h3, h4.1⟩
theorem own_in {c : Cfg} (h : cfgOk c = true) {w : Win} (hw : w ∈ c.wins) {t : Int} (ht : inW w t) : ownT c t = w.part := by
  simp only [ownT, ownK, List.take_length]
  exact fold_in (wins_sorted h) (fun v hv => (wins_len h v hv).2.1) _ hw ht
theorem own_out {c : Cfg} {t : Int} (ho : ∀ w ∈ c.wins, ¬ inW w t) : ownT c t = -2 := by
  simp only [ownT, ownK, List.take_length]
  exact fold_out _ ho
theorem own_iff {c : Cfg} (h : cfgOk c = true) {p : Int} (hp : p ≠ -2) (t : Int) : ownT c t = p ↔ ∃ w ∈ c.wins, w.part = p ∧ inW w t := by
  constructor
  · intro ht
    by_cases hx : ∃ w ∈ c.wins, inW w t
    · obtain ⟨w, hw, hi⟩ := hx
      exact ⟨w, hw, by rw [← ht, own_in h hw hi], hi⟩
    · have := own_out (c := c) (t := t) fun w hw hi => hx ⟨w, hw, hi⟩
      rw [this] at ht; exact absurd ht.symm hp
  · rintro ⟨w, hw, rfl, hi⟩
    exact own_in h hw hi
/-- The first tick from t on, of n. -/
def nextN (c : Cfg) (p : Int) : Nat → Int → Option Int
  | 0, _ => none
  | n + 1, t => if ownT c t = p then some t else nextN c p n (t + 1)
theorem nextN_some {c : Cfg} {p : Int} : ∀ {n : Nat} {t j : Int}, t ≤ j → j < t + n → ownT c j = p → (∀ i, t ≤ i → i < j → ownT c i ≠ p) → nextN c p n t = some j
  | 0, t, j, h1, h2, _, _ => by omega
  | n + 1, t, j, h1, h2, h3, h4 => by
    simp only [nextN]
    by_cases he : t = j
    · subst he; rw [if_pos h3]
    · rw [if_neg (h4 t (Int.le_refl _) (by omega))]
      exact nextN_some (by omega) (by omega) h3 fun i hi hj => h4 i (by omega) hj
theorem nextN_none {c : Cfg} {p : Int} : ∀ {n : Nat} {t : Int}, (∀ i, t ≤ i → i < t + n → ownT c i ≠ p) → nextN c p n t = none
  | 0, t, _ => rfl
  | n + 1, t, h => by
    simp only [nextN]
    rw [if_neg (h t (Int.le_refl _) (by omega))]
    exact nextN_none fun i h1 h2 => h i (by omega) (by omega)
theorem winL_all (c : Cfg) (p : Int) : winL c p c.wins.length = c.wins.filter (fun w => w.part == p) := by simp [winL]
theorem mem_winL {c : Cfg} {p : Int} {w : Win} : w ∈ winL c p c.wins.length ↔ w ∈ c.wins ∧ w.part = p := by
  rw [winL_all, List.mem_filter]; simp
theorem winL_sorted {c : Cfg} (h : cfgOk c = true) (p : Int) : (winL c p c.wins.length).Pairwise (fun a b => a.start + a.len ≤ b.start) := by
  rw [winL_all]; exact (wins_sorted h).filter _
/-- The first of the owner's windows that isn't over. -/
theorem next_hit {c : Cfg} (h : cfgOk c = true) {p t : Int} (hp : p ≠ -2) (ht : 0 ≤ t ∧ t < c.ticks) {i : Nat} (hi : i < (winL c p c.wins.length).length)
    (hb : ∀ w ∈ (winL c p c.wins.length).take i, w.start + w.len ≤ t) (hl : t < (winL c p c.wins.length)[i].start + (winL c p c.wins.length)[i].len) :
    nextN c p (c.ticks - t).toNat t = some (max t (winL c p c.wins.length)[i].start) := by
  have hm := mem_winL.1 (List.getElem_mem hi)
  obtain ⟨l1, l2, l3, l4⟩ := wins_len h _ hm.1
  have hs := winL_sorted h p
  rw [List.pairwise_iff_getElem] at hs
  refine nextN_some (by omega) (by omega) ((own_iff h hp _).2 ⟨_, hm.1, hm.2, by constructor <;> omega⟩) ?_
  intro j h1 h2 ho
  obtain ⟨w, hw, hwp, hwi⟩ := (own_iff h hp j).1 ho
  obtain ⟨m, hm', rfl⟩ := List.mem_iff_getElem.1 (mem_winL.2 ⟨hw, hwp⟩)
  unfold inW at hwi
  by_cases hmi : m < i
  · have := hb _ (List.mem_take_iff_getElem.2 ⟨m, by omega, rfl⟩)
    omega
  · by_cases hme : m = i
    · subst hme; omega
    · have := hs i m hi hm' (by omega)
      omega
theorem next_miss {c : Cfg} (h : cfgOk c = true) {p t : Int} (hp : p ≠ -2) (ht : 0 ≤ t ∧ t < c.ticks) (hb : ∀ w ∈ winL c p c.wins.length, w.start + w.len ≤ t) : nextN c p (c.ticks - t).toNat t = none := by
  refine nextN_none fun i h1 h2 ho => ?_
  obtain ⟨w, hw, hwp, hwi⟩ := (own_iff h hp i).1 ho
  have := hb w (mem_winL.2 ⟨hw, hwp⟩)
  unfold inW at hwi
  omega
/-! how many -/
def ticksZ (c : Cfg) (p : Int) : Nat := (ownersL c).countP (fun x => x == p)
def sumZ : List Win → Int
  | [] => 0
  | w :: l => w.len + sumZ l
theorem count_iv' (s n T : Nat) : (List.range T).countP (fun j : Nat => decide (s ≤ j ∧ j < s + n)) = min T (s + n) - min T s := by
  induction T with
  | zero => simp
  | succ T ih =>
    rw [List.range_succ, List.countP_append, ih]
    simp only [List.countP_cons, List.countP_nil]
    by_cases h : s ≤ T ∧ T < s + n
    · simp only [h, decide_true, if_true]; simp; omega
    · simp only [h, decide_false]; simp; omega
theorem count_iv (s n T : Nat) (h : s + n ≤ T) : (List.range T).countP (fun j : Nat => decide (s ≤ j ∧ j < s + n)) = n := by
  rw [count_iv']; omega
theorem count_split {α : Type} (q a : α → Bool) (l : List α) : l.countP q = l.countP (fun x => q x && a x) + l.countP (fun x => q x && !a x) := by
  induction l with
  | nil => rfl
  | cons x l ih =>
    simp only [List.countP_cons, ih]
    cases q x <;> cases a x <;> simp <;> omega
theorem count_win {c : Cfg} (h : cfgOk c = true) {k : Nat} (hk : k < c.wins.length) : (List.range c.ticks.toNat).countP (fun j : Nat => decide (inW c.wins[k] (j : Int))) = (c.wins[k].len).toNat := by
  obtain ⟨h1, h2, h3, h4, h5⟩ := cfg_win h hk
  rw [← count_iv (c.wins[k].start).toNat (c.wins[k].len).toNat c.ticks.toNat (by omega)]
  apply List.countP_congr
  intro j hj
  simp only [decide_eq_true_eq]
  unfold inW
  constructor <;> rintro ⟨a, b⟩ <;> constructor <;> omega
theorem own_before {c : Cfg} (h : cfgOk c = true) {k : Nat} (hk : k < c.wins.length) {t : Int} (ht : inW c.wins[k] t) : ownK c t k = -2 := by
  refine fold_out _ fun w hw hi => ?_
  obtain ⟨m, hm, rfl⟩ := List.mem_take_iff_getElem.1 hw
  have hs := wins_sorted h
  rw [List.pairwise_iff_getElem] at hs
  have := hs m k (by omega) hk (by omega)
  unfold inW at ht hi
  omega
def cntK (c : Cfg) (p : Int) (k : Nat) : Nat := (List.range c.ticks.toNat).countP (fun j : Nat => ownK c (j : Int) k == p)
theorem cntK_succ {c : Cfg} (h : cfgOk c = true) (p : Int) {k : Nat} (hk : k < c.wins.length) :
    cntK c p (k + 1) + (if p = -2 then (c.wins[k].len).toNat else 0) = cntK c p k + (if c.wins[k].part = p then (c.wins[k].len).toNat else 0) := by
  have hw := count_win h hk
  have s1 := count_split (fun j : Nat => ownK c (j : Int) (k + 1) == p) (fun j : Nat => decide (inW c.wins[k] (j : Int))) (List.range c.ticks.toNat)
  have s2 := count_split (fun j : Nat => ownK c (j : Int) k == p) (fun j : Nat => decide (inW c.wins[k] (j : Int))) (List.range c.ticks.toNat)
  have e1 : (List.range c.ticks.toNat).countP (fun j : Nat => ownK c (j : Int) (k + 1) == p && decide (inW c.wins[k] (j : Int))) = if c.wins[k].part = p then (c.wins[k].len).toNat else 0 := by
    split
    · rename_i hp
      rw [← hw]
      apply List.countP_congr
      intro j hj
      by_cases hi : inW c.wins[k] (j : Int)
      · have hi' : c.wins[k].start ≤ (j : Int) ∧ (j : Int) < c.wins[k].start + c.wins[k].len := hi
        simp [ownK_succ hk, hi, hi', hp]
      · simp [hi]
    · rename_i hp
      rw [List.countP_eq_zero]
      intro j hj
      by_cases hi : inW c.wins[k] (j : Int)
      · have hi' : c.wins[k].start ≤ (j : Int) ∧ (j : Int) < c.wins[k].start + c.wins[k].len := hi
        simp [ownK_succ hk, hi, hi', hp]
      · simp [hi]
  have e2 : (List.range c.ticks.toNat).countP (fun j : Nat => ownK c (j : Int) k == p && decide (inW c.wins[k] (j : Int))) = if p = -2 then (c.wins[k].len).toNat else 0 := by
    split
    · rename_i hp
      rw [← hw]
      apply List.countP_congr
      intro j hj
      by_cases hi : inW c.wins[k] (j : Int)
      · simp [own_before h hk hi, hi, hp]
      · simp [hi]
    · rename_i hp
      rw [List.countP_eq_zero]
      intro j hj
      by_cases hi : inW c.wins[k] (j : Int)
      · simp only [own_before h hk hi, hi, decide_true, Bool.and_true]
        simp; exact fun h => hp h.symm
      · simp [hi]
  have e3 : (List.range c.ticks.toNat).countP (fun j : Nat => ownK c (j : Int) (k + 1) == p && !decide (inW c.wins[k] (j : Int))) = (List.range c.ticks.toNat).countP (fun j : Nat => ownK c (j : Int) k == p && !decide (inW c.wins[k] (j : Int))) := by
    apply List.countP_congr
    intro j hj
    by_cases hi : inW c.wins[k] (j : Int)
    · simp [hi]
    · have hi' : ¬ (c.wins[k].start ≤ (j : Int) ∧ (j : Int) < c.wins[k].start + c.wins[k].len) := hi
      simp only [ownK_succ hk, if_neg hi']
  unfold cntK
  omega
theorem sumZ_app (l r : List Win) : sumZ (l ++ r) = sumZ l + sumZ r := by
  induction l with
  | nil => simp [sumZ]
  | cons x l ih => simp only [List.cons_append, sumZ, ih]; omega
theorem cntK_own {c : Cfg} (h : cfgOk c = true) {p : Int} (hp : p ≠ -2) : ∀ k, k ≤ c.wins.length → (cntK c p k : Int) = sumZ (winL c p k)
  | 0, _ => by
    have : cntK c p 0 = 0 := by
      unfold cntK; rw [List.countP_eq_zero]; intro j hj; simp [ownK]; exact fun h => hp h.symm
    rw [this]; simp [winL, sumZ]
  | k + 1, hk => by
    have ih := cntK_own h hp k (by omega)
    have hs := cntK_succ h p (k := k) (by omega)
    have hl := (cfg_win h (i := k) (by omega)).2.1
    rw [if_neg hp] at hs
    rw [winL_succ (by omega), sumZ_app]
    by_cases hq : (c.wins[k]'(by omega)).part = p
    · simp only [hq, beq_self_eq_true, if_true, sumZ] at hs ⊢; omega
    · have : ((c.wins[k]'(by omega)).part == p) = false := by simp [hq]
      simp only [this, hq, if_false, sumZ] at hs ⊢; simp [sumZ]; omega
theorem cntK_idle {c : Cfg} (h : cfgOk c = true) : ∀ k, k ≤ c.wins.length → (cntK c (-2) k : Int) = c.ticks - sumZ (c.wins.take k)
  | 0, _ => by
    have : cntK c (-2) 0 = c.ticks.toNat := by
      unfold cntK
      have : (List.range c.ticks.toNat).countP (fun j : Nat => ownK c (j : Int) 0 == -2) = (List.range c.ticks.toNat).length := by
        rw [List.countP_eq_length]; intro j hj; simp [ownK]
      rw [this]; simp
    have ht := cfg_ticks h
    rw [this]; simp [sumZ]; omega
  | k + 1, hk => by
    have ih := cntK_idle h k (by omega)
    have hs := cntK_succ h (-2) (k := k) (by omega)
    obtain ⟨g1, hl, g3, g4, g5⟩ := cfg_win h (i := k) (by omega)
    simp only [ownB, Bool.and_eq_true, decide_eq_true_eq] at g4
    have hq : ¬ (c.wins[k]'(by omega)).part = -2 := by omega
    rw [if_pos rfl, if_neg hq] at hs
    rw [List.take_succ_eq_append_getElem (by omega), sumZ_app]
    simp only [sumZ]
    omega
theorem ticks_cnt (c : Cfg) (p : Int) : ticksZ c p = cntK c p c.wins.length := by
  simp only [ticksZ, ownersL, List.countP_map, cntK]; rfl
theorem ticks_own {c : Cfg} (h : cfgOk c = true) {p : Int} (hp : p ≠ -2) : (ticksZ c p : Int) = sumZ (winL c p c.wins.length) := by
  rw [ticks_cnt]; exact cntK_own h hp _ (Nat.le_refl _)
theorem ticks_idle {c : Cfg} (h : cfgOk c = true) : (ticksZ c (-2) : Int) = c.ticks - sumZ c.wins := by
  rw [ticks_cnt, cntK_idle h _ (Nat.le_refl _), List.take_length]
end Go.LH.Z
