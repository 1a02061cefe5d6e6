/- LH: a by-value semantics of the translated code, and its soundness. -/
import Derived.Test.YtieoifkedeeehaaDoorLhTwo
import Derived.Deep.Quiet
namespace Go.LH
open Go
set_option linter.unusedSimpArgs false
set_option linter.unusedVariables false

structure RenH (ρ : Nat → Nat → Prop) (N : Nat → Prop) (A : Pls) (L : List Entry) (A' : Pls) (L' : List Entry) : Prop where
  at_ : ∀ (i j : Nat) (e : Entry), ρ i j → L[i]? = some e → ∃ e' : Entry, L'[j]? = some e' ∧ e'.gen = e.gen ∧ e'.wd = e.wd ∧ e'.bx = e.bx ∧ e'.rows.length = e.rows.length ∧ A'[j]? = A[i]?
  nul : ∀ k : Nat, N k → L'[k]? = some ⟨false, 0, 0, []⟩ ∧ A'[k]? = some none

theorem ren_rep {ρ : Nat → Nat → Prop} {N : Nat → Prop} {w w' : World} {X X' : Nat → Prop} {A A' : Pls} {L L' : List Entry} (k : Keep w X w' X') (H : RenH ρ N A L A' L') {c c' : Cv} (h : RenC ρ N c c') : ∀ {v : Value}, Rep w X A L c v → Rep w' X' A' L' c' v := by
  induction h with
  | val v => intro u hr; cases hr with | v _ _ h => exact .v _ _ (h.keep k)
  | sl wd rows => intro u hr; cases hr with | v _ _ h => exact .v _ _ (h.keep k)
  | rp cells => intro u hr; cases hr with | v _ _ h => exact .v _ _ (h.keep k)
  | nil j h =>
    intro u hr
    cases hr with
    | v _ _ h' =>
      cases h'
      obtain ⟨h1, h2⟩ := H.nul j h
      exact .rs _ _ _ _ _ rfl ⟨_, h1, Nat.le_refl _, fun _ => ⟨rfl, by simp, none, 0, rfl, Nat.le_refl _, .inl ⟨h2, rfl⟩⟩⟩
  | np id j gen row col h =>
    intro u hr
    cases hr with
    | v _ _ h' => cases h'
    | np _ _ _ _ _ h1 h2 =>
      obtain ⟨e, he, hg, hp⟩ := h2
      obtain ⟨e', he', g1, g2, g3, g4, g5⟩ := H.at_ id j e h he
      refine .np _ _ _ _ _ h1 ⟨e', he', by omega, fun hgg => ?_⟩
      obtain ⟨hkd, p, hA, hv⟩ := hp (by omega)
      exact ⟨by rw [g2, g3]; exact hkd, p, by rw [g5]; exact hA, by rw [g2]; exact hv⟩
  | rs id j gen lo len h =>
    intro u hr
    cases hr with
    | v _ _ h' => cases h'
    | rs _ _ _ _ _ h1 h2 =>
      obtain ⟨e, he, hg, hp⟩ := h2
      obtain ⟨e', he', g1, g2, g3, g4, g5⟩ := H.at_ id j e h he
      refine .rs _ _ _ _ _ h1 ⟨e', he', by omega, fun hgg => ?_⟩
      obtain ⟨b1, b2, ad, cap, hv, hcap, hcase⟩ := hp (by omega)
      refine ⟨by rw [g3]; exact b1, by rw [g4]; exact b2, ad, cap, hv, hcap, ?_⟩
      rw [g5, g2]
      exact hcase
  | ca id j gen row col len h =>
    intro u hr
    cases hr with
    | v _ _ h' => cases h'
    | ca _ _ _ _ _ _ h1 h2 =>
      obtain ⟨e, he, hg, hp⟩ := h2
      obtain ⟨e', he', g1, g2, g3, g4, g5⟩ := H.at_ id j e h he
      refine .ca _ _ _ _ _ _ h1 ⟨e', he', by omega, fun hgg => ?_⟩
      obtain ⟨hkd, p, ad, cap, hA, hv, hcap, hcase⟩ := hp (by omega)
      refine ⟨by rw [g2, g3]; exact hkd, p, ad, cap, by rw [g5]; exact hA, hv, hcap, ?_⟩
      rw [g2, g4]
      exact hcase
  | mp id j gen h =>
    intro u hr
    cases hr with
    | v _ _ h' => cases h'
    | mp _ _ _ h1 h2 =>
      obtain ⟨e, he, hg, hp⟩ := h2
      obtain ⟨e', he', g1, g2, g3, g4, g5⟩ := H.at_ id j e h he
      refine .mp _ _ _ h1 ⟨e', he', by omega, fun hgg => ?_⟩
      obtain ⟨b1, b2, p, hA, hv⟩ := hp (by omega)
      exact ⟨by rw [g3]; exact b1, by rw [g2]; exact b2, p, by rw [g5]; exact hA, hv⟩
  | it id j gen mid m mg h h' =>
    intro u hr
    cases hr with
    | v _ _ h' => cases h'
    | it _ _ _ _ _ h1 h2 =>
      obtain ⟨e, f, he, hg, hf, hg', hp⟩ := h2
      obtain ⟨e', he', g1, g2, g3, g4, g5⟩ := H.at_ id j e h he
      obtain ⟨f', hf', k1, k2, k3, k4, k5⟩ := H.at_ mid m f h' hf
      refine .it _ _ _ _ _ h1 ⟨e', f', he', by omega, hf', by omega, fun hgg hgg' => ?_⟩
      obtain ⟨⟨b1, b2⟩, ⟨b3, b4⟩, p, q, hA, hA', hn, hv⟩ := hp (by omega) (by omega)
      exact ⟨⟨by rw [g3]; exact b1, by rw [g2]; exact b2⟩, ⟨by rw [k3]; exact b3, by rw [k2]; exact b4⟩, p, q, by rw [g5]; exact hA, by rw [k5]; exact hA', hn, hv⟩
  | ifc t x y h ih =>
    intro u hr
    cases hr with
    | v _ _ h' => cases h' with | ifc _ _ u h' => exact .ifc _ _ _ (ih (.v _ _ h'))
    | ifc _ _ u h' => exact .ifc _ _ _ (ih h')
  | fn f xs ys hl h ih =>
    intro u hr
    have key : ∀ us : List Value, xs.length = us.length → (∀ (i : Nat) (c : Cv) (u : Value), xs[i]? = some c → us[i]? = some u → Rep w X A L c u) → Rep w' X' A' L' (.fn f ys) (.func f #[] us.toArray) := by
      intro us hn hc
      refine .fn _ _ _ (by omega) fun i y u hy hu => ?_
      have hi : i < xs.length := by have := (List.getElem?_eq_some_iff.1 hy).1; omega
      have hx : xs[i]? = some xs[i] := List.getElem?_eq_getElem hi
      exact ih i _ _ hx hy (hc i _ u hx hu)
    cases hr with
    | v _ _ h' => cases h' with | fn _ _ us hn h' => exact key us hn fun i c u h1 h2 => .v _ _ (h' i c u h1 h2)
    | fn _ _ us hn h' => exact key us hn h'

theorem ren_srep {ρ : Nat → Nat → Prop} {N : Nat → Prop} {w w' : World} {X X' : Nat → Prop} {A A' : Pls} {L L' : List Entry} (k : Keep w X w' X') (H : RenH ρ N A L A' L') {c c' : Sv} (h : RenS ρ N c c') : ∀ {v : Value}, SRep w X A L c v → SRep w' X' A' L' c' v := by
  induction h with
  | un s => intro v _; exact .un v
  | ud => intro v h; cases h; exact .ud
  | c x y h => intro v hr; cases hr with | c _ _ hr => exact .c _ _ (ren_rep k H h hr)
  | agg xs ys h =>
    intro v hr
    cases hr with
    | agg _ us hn hc =>
      refine .agg _ _ (by have := h.1; omega) fun i y u hy hu => ?_
      have hi : i < xs.length := by have := (List.getElem?_eq_some_iff.1 hy).1; have := h.1; omega
      have hx : xs[i]? = some xs[i] := List.getElem?_eq_getElem hi
      exact ren_rep k H (h.2 i _ _ hx hy) (hc i _ u hx hu)
  | tup xs ys hl h ih =>
    intro v hr
    cases hr with
    | tup _ us hn hc =>
      refine .tup _ _ (by omega) fun i y u hy hu => ?_
      have hi : i < xs.length := by have := (List.getElem?_eq_some_iff.1 hy).1; omega
      have hx : xs[i]? = some xs[i] := List.getElem?_eq_getElem hi
      exact ih i _ _ hx hy (hc i _ u hx hu)

theorem ren_erep {ρ : Nat → Nat → Prop} {N : Nat → Prop} {w w' : World} {X X' : Nat → Prop} {A A' : Pls} {L L' : List Entry} (k : Keep w X w' X') (H : RenH ρ N A L A' L') {e e' : Entry} (h : ERen ρ N e e') {pl : Option Pl} (hb : ∀ p, pl = some p → w'.heap[p.b]? = w.heap[p.b]?)
    (hr : ERep w X A L e pl) : ERep w' X' A' L' e' pl := by
  cases pl with
  | none =>
    have hr : e.rows = [] := hr
    have := h.len
    rw [hr] at this
    exact List.length_eq_zero_iff.1 (by simpa using this)
  | some p =>
    rcases hr with ⟨h0, arr, el, fz, h1, h2, h3, h4, h5⟩ | ⟨m1, m2, m3⟩
    rotate_left
    · have hrows : e'.rows = e.rows := by
        apply List.ext_getElem?
        intro r
        by_cases hlt : r < e.rows.length
        · have hlt' : r < e'.rows.length := by rw [h.len]; exact hlt
          have hre := h.rows r _ _ (List.getElem?_eq_getElem hlt) (List.getElem?_eq_getElem hlt')
          rw [if_neg (by rw [m1]; simp)] at hre
          rw [List.getElem?_eq_getElem hlt, List.getElem?_eq_getElem hlt', hre]
        · have hl := h.len
          rw [List.getElem?_eq_none (show e.rows.length ≤ r by omega), List.getElem?_eq_none (show e'.rows.length ≤ r by omega)]
      refine .inr ⟨by rw [h.bx]; exact m1, by rw [h.wd]; exact m2, ?_⟩
      rw [hrows]
      rcases m3 with ⟨l, es, c, q1, q2, q3⟩ | ⟨s, l, q1, q2⟩
      · exact .inl ⟨l, es, c, q1, by rw [hb p rfl]; exact q2, q3.keep k⟩
      · exact .inr ⟨s, l, q1, by rw [hb p rfl]; exact q2⟩
    refine .inl ⟨by rw [h.bx, h.wd]; exact h0, arr, el, fz, by rw [hb p rfl]; exact h1, h2, h3, by rw [h.len, h.wd]; exact h4, fun r row' hr' => ?_⟩
    have hrl := (List.getElem?_eq_some_iff.1 hr').1
    rw [h.len] at hrl
    have hrow : e.rows[r]? = some e.rows[r] := List.getElem?_eq_getElem hrl
    obtain ⟨h6, h7⟩ := h5 r _ hrow
    have hre := h.rows r _ _ hrow hr'
    rw [h.bx, h.wd]
    by_cases hbx : e.bx = true
    · rw [if_pos hbx] at hre
      refine ⟨by rw [← hre.1]; exact h6, fun j c' hj => ?_⟩
      have hjl := (List.getElem?_eq_some_iff.1 hj).1
      rw [← hre.1] at hjl
      have hc : e.rows[r][j]? = some e.rows[r][j] := List.getElem?_eq_getElem hjl
      obtain ⟨u, hu, hur⟩ := h7 j _ hc
      refine ⟨u, hu, ?_⟩
      simp only [hbx, if_true] at hur ⊢
      exact ren_rep k H (hre.2 j _ _ hc hj) hur
    · rw [if_neg hbx] at hre
      subst hre
      refine ⟨h6, fun j c' hj => ?_⟩
      obtain ⟨u, hu, hur⟩ := h7 j _ hj
      refine ⟨u, hu, ?_⟩
      simp only [hbx, Bool.false_eq_true, if_false] at hur ⊢
      exact hur.keep k

/-! ### A part of the heap, under new numbers -/
def subA (A : Pls) (ks : Ks) : Pls := ks.map fun x => match x with | some id => (A[id]?).getD none | none => none
theorem subA_some {A : Pls} {ks : Ks} {k id : Nat} (h : ks[k]? = some (some id)) (hi : id < A.length) : (subA A ks)[k]? = A[id]? := by
  simp only [subA, List.getElem?_map, h, Option.map_some, List.getElem?_eq_getElem hi, Option.getD_some]
theorem subA_none {A : Pls} {ks : Ks} {k : Nat} (h : ks[k]? = some none) : (subA A ks)[k]? = some none := by
  simp only [subA, List.getElem?_map, h, Option.map_some]

structure Sub (A : Pls) (L : List Entry) (ks : Ks) (Lk : List Entry) : Prop where
  nd : KND ks
  len : Lk.length = ks.length
  ent : ∀ (j : Nat) (e' : Entry), Lk[j]? = some e' → ∃ x, ks[j]? = some x ∧ EntOf L ks e' x
  al : A.length = L.length

theorem Sub.at' {A : Pls} {L : List Entry} {ks : Ks} {Lk : List Entry} (h : Sub A L ks Lk) {j id : Nat} (hj : ks[j]? = some (some id)) : ∃ e e', L[id]? = some e ∧ Lk[j]? = some e' ∧ ERen (rhoK ks) (nulK ks) e e' ∧ (subA A ks)[j]? = A[id]? := by
  have hl := (List.getElem?_eq_some_iff.1 hj).1
  rw [← h.len] at hl
  obtain ⟨x, hx, hent⟩ := h.ent j _ (List.getElem?_eq_getElem hl)
  rw [hj] at hx
  obtain rfl := Option.some.inj hx
  obtain ⟨e, he, hren⟩ := hent
  have := (List.getElem?_eq_some_iff.1 he).1
  exact ⟨e, _, he, List.getElem?_eq_getElem hl, hren, subA_some hj (by rw [h.al]; exact this)⟩

theorem Sub.renH {A : Pls} {L : List Entry} {ks : Ks} {Lk : List Entry} (h : Sub A L ks Lk) : RenH (rhoK ks) (nulK ks) A L (subA A ks) Lk := by
  refine ⟨fun i j e hr he => ?_, fun k hk => ?_⟩
  · obtain ⟨e1, e', h1, h2, h3, h4⟩ := h.at' hr
    obtain rfl : e = e1 := by rw [he] at h1; exact Option.some.inj h1
    exact ⟨e', h2, h3.gen, h3.wd, h3.bx, h3.len, h4⟩
  · have hl := (List.getElem?_eq_some_iff.1 hk).1
    rw [← h.len] at hl
    obtain ⟨x, hx, hent⟩ := h.ent k _ (List.getElem?_eq_getElem hl)
    rw [hk] at hx
    obtain rfl := Option.some.inj hx
    exact ⟨by rw [List.getElem?_eq_getElem hl]; exact congrArg some hent, subA_none hk⟩

theorem subA_at {A : Pls} {ks : Ks} {k : Nat} {p : Pl} (h : (subA A ks)[k]? = some (some p)) : ∃ id, ks[k]? = some (some id) ∧ A[id]? = some (some p) := by
  simp only [subA, List.getElem?_map, Option.map_eq_some_iff] at h
  obtain ⟨x, hx, h⟩ := h
  cases x with
  | none => cases h
  | some id =>
    refine ⟨id, hx, ?_⟩
    cases hA : A[id]? with
    | none => simp [hA] at h
    | some q => simp only [hA, Option.getD_some] at h; rw [h]

theorem subA_owned {A : Pls} {ks : Ks} {b : Nat} (h : Owned (subA A ks) b) : Owned A b := by
  obtain ⟨k, p, hp, hb⟩ := h
  obtain ⟨id, _, hA⟩ := subA_at hp
  exact ⟨id, p, hA, hb⟩

theorem Sub.heap {w : World} {F F' : Nat → Prop} {A : Pls} {L : List Entry} {ks : Ks} {Lk : List Entry} (h : Sub A L ks Lk) (hh : HeapOK w F A L) (hF' : ∀ b, Owned (subA A ks) b → ¬ F' b) (hX : ∀ b, F' b → Owned A b ∨ F b) :
    HeapOK w F' (subA A ks) Lk ∧ Keep w (fun b => Owned A b ∨ F b) w (fun b => Owned (subA A ks) b ∨ F' b) := by
  have k : Keep w (fun b => Owned A b ∨ F b) w (fun b => Owned (subA A ks) b ∨ F' b) := ⟨Nat.le_refl _, fun _ _ _ => rfl, fun b _ hb => by
    rcases hb with hb | hb
    · exact .inl (subA_owned hb)
    · exact hX b hb⟩
  refine ⟨⟨by simp [subA, h.len], fun i j p q h1 h2 hb => ?_, hF', fun i e' pl h1 h2 => ?_⟩, k⟩
  · obtain ⟨a, ha, hA⟩ := subA_at h1
    obtain ⟨b, hb', hB⟩ := subA_at h2
    obtain rfl := hh.inj a b p q hA hB hb
    exact h.nd i j a ha hb'
  · obtain ⟨x, hx, hent⟩ := h.ent i e' h1
    cases x with
    | none =>
      obtain rfl : e' = _ := hent
      rw [subA_none hx] at h2
      obtain rfl := Option.some.inj h2
      rfl
    | some id =>
      obtain ⟨e, he, hren⟩ := hent
      have hi := (List.getElem?_eq_some_iff.1 he).1
      rw [subA_some hx (by rw [h.al]; exact hi)] at h2
      exact ren_erep k h.renH hren (fun _ _ => rfl) (hh.ent id e pl he h2)

/-! ### The way back -/
def layX {α : Type} : Ks → List α → List α → List α
  | some id :: r, e :: l, L => layX r l (L.set id e)
  | none :: r, e :: l, L => layX r l (L ++ [e])
  | [], e :: l, L => layX [] l (L ++ [e])
  | _, [], L => L

theorem lay_eq (f : Nat → Nat) : ∀ (ks : Ks) (l L : List Entry), lay f ks l L = layX ks (l.map (renE f)) L
  | some id :: r, e :: l, L => by simp only [lay, List.map_cons, layX]; exact lay_eq f r l _
  | none :: r, e :: l, L => by simp only [lay, List.map_cons, layX]; exact lay_eq f r l _
  | [], e :: l, L => by simp only [lay, List.map_cons, layX]; exact lay_eq f [] l _
  | [], [], L => by simp only [lay, List.map_nil, layX]
  | some id :: r, [], L => by simp only [lay, List.map_nil, layX]
  | none :: r, [], L => by simp only [lay, List.map_nil, layX]

theorem lay_far {α : Type} : ∀ (ks : Ks) (l L : List α) (j : Nat), j < L.length → (∀ k : Nat, ks[k]? ≠ some (some j)) → (layX ks l L)[j]? = L[j]?
  | some id :: r, e :: l, L, j, hj, hn => by
    simp only [layX]
    rw [lay_far r l _ j (by simpa using hj) (fun k => by simpa using hn (k + 1)), List.getElem?_set_ne]
    intro h; subst h; exact hn 0 rfl
  | none :: r, e :: l, L, j, hj, hn => by
    simp only [layX]
    rw [lay_far r l _ j (by simp; omega) (fun k => by simpa using hn (k + 1)), List.getElem?_append_left hj]
  | [], e :: l, L, j, hj, hn => by
    simp only [layX]
    rw [lay_far [] l _ j (by simp; omega) (fun k => by simp), List.getElem?_append_left hj]
  | [], [], L, j, hj, hn => rfl
  | some id :: r, [], L, j, hj, hn => rfl
  | none :: r, [], L, j, hj, hn => rfl

theorem knd_tail {x : Option Nat} {r : Ks} (h : KND (x :: r)) : KND r := fun i j id h1 h2 => by
  have := h (i + 1) (j + 1) id (by simpa using h1) (by simpa using h2); omega

theorem lay_at {α : Type} : ∀ (ks : Ks) (l L : List α) (k : Nat) (e : α), KND ks → (∀ (i id : Nat), ks[i]? = some (some id) → id < L.length) → l[k]? = some e → (layX ks l L)[back ks L.length k]? = some e
  | some id :: r, x :: l, L, k, e, hk, hlt, he => by
    simp only [layX]
    have hid := hlt 0 id rfl
    cases k with
    | zero =>
      obtain rfl := Option.some.inj he
      simp only [back]
      rw [lay_far r l _ id (by simpa using hid) (fun k h => by have := hk 0 (k + 1) id rfl (by simpa using h); omega)]
      simp [hid]
    | succ k =>
      simp only [back]
      have := lay_at r l (L.set id x) k e (knd_tail hk) (fun i j h => by rw [List.length_set]; exact hlt (i + 1) j (by simpa using h)) (by simpa using he)
      rw [List.length_set] at this
      exact this
  | none :: r, x :: l, L, k, e, hk, hlt, he => by
    simp only [layX]
    cases k with
    | zero =>
      obtain rfl := Option.some.inj he
      simp only [back]
      rw [lay_far r l _ L.length (by simp) (fun k h => by have := hlt (k + 1) L.length (by simpa using h); omega)]
      simp
    | succ k =>
      simp only [back]
      have := lay_at r l (L ++ [x]) k e (knd_tail hk) (fun i j h => by have := hlt (i + 1) j (by simpa using h); simp; omega) (by simpa using he)
      simpa using this
  | [], x :: l, L, k, e, hk, hlt, he => by
    simp only [layX, back]
    cases k with
    | zero =>
      obtain rfl := Option.some.inj he
      rw [Nat.add_zero, lay_far [] l _ L.length (by simp) (fun k => by simp)]
      simp
    | succ k =>
      have := lay_at [] l (L ++ [x]) k e hk (fun i j h => by simp at h) (by simpa using he)
      simp only [back, List.length_append, List.length_cons, List.length_nil] at this
      rw [show L.length + (k + 1) = L.length + (0 + 1) + k by omega]
      exact this
  | [], [], L, k, e, hk, hlt, he => by simp at he
  | some id :: r, [], L, k, e, hk, hlt, he => by simp at he
  | none :: r, [], L, k, e, hk, hlt, he => by simp at he

theorem lay_cases {α : Type} : ∀ (ks : Ks) (l L : List α) (j : Nat) (x : α), KND ks → (∀ (i id : Nat), ks[i]? = some (some id) → id < L.length) → ks.length ≤ l.length → (layX ks l L)[j]? = some x →
    (∃ k : Nat, l[k]? = some x ∧ back ks L.length k = j) ∨ (L[j]? = some x ∧ ∀ k : Nat, ks[k]? ≠ some (some j))
  | some id :: r, e :: l, L, j, x, hk, hlt, hle, h => by
    simp only [layX] at h
    have hid := hlt 0 id rfl
    rcases lay_cases r l (L.set id e) j x (knd_tail hk) (fun i j h => by rw [List.length_set]; exact hlt (i + 1) j (by simpa using h)) (by simpa using hle) h with ⟨k, h1, h2⟩ | ⟨h1, h2⟩
    · rw [List.length_set] at h2
      exact .inl ⟨k + 1, by simpa using h1, by simpa only [back] using h2⟩
    · by_cases hij : id = j
      · subst hij
        refine .inl ⟨0, ?_, rfl⟩
        simpa [hid] using h1
      · rw [List.getElem?_set_ne hij] at h1
        refine .inr ⟨h1, fun k => ?_⟩
        cases k with
        | zero => simpa using hij
        | succ k => simpa using h2 k
  | none :: r, e :: l, L, j, x, hk, hlt, hle, h => by
    simp only [layX] at h
    rcases lay_cases r l (L ++ [e]) j x (knd_tail hk) (fun i j h => by have := hlt (i + 1) j (by simpa using h); simp; omega) (by simpa using hle) h with ⟨k, h1, h2⟩ | ⟨h1, h2⟩
    · exact .inl ⟨k + 1, by simpa using h1, by simpa [back] using h2⟩
    · by_cases hj : j < L.length
      · rw [List.getElem?_append_left hj] at h1
        refine .inr ⟨h1, fun k => ?_⟩
        cases k with
        | zero => simp
        | succ k => simpa using h2 k
      · rw [List.getElem?_append_right (by omega)] at h1
        cases hjk : j - L.length with
        | zero => rw [hjk] at h1; exact .inl ⟨0, by simpa using h1, by simp only [back]; omega⟩
        | succ n => rw [hjk] at h1; simp at h1
  | [], e :: l, L, j, x, hk, hlt, hle, h => by
    simp only [layX] at h
    rcases lay_cases [] l (L ++ [e]) j x hk (fun i j h => by simp at h) (by simp) h with ⟨k, h1, h2⟩ | ⟨h1, h2⟩
    · refine .inl ⟨k + 1, by simpa using h1, ?_⟩
      simp only [back, List.length_append, List.length_cons, List.length_nil] at h2 ⊢
      omega
    · by_cases hj : j < L.length
      · rw [List.getElem?_append_left hj] at h1
        exact .inr ⟨h1, fun k => by simp⟩
      · rw [List.getElem?_append_right (by omega)] at h1
        cases hjk : j - L.length with
        | zero => rw [hjk] at h1; exact .inl ⟨0, by simpa using h1, by simp only [back]; omega⟩
        | succ n => rw [hjk] at h1; simp at h1
  | [], [], L, j, x, hk, hlt, hle, h => .inr ⟨h, fun k => by simp⟩
  | some id :: r, [], L, j, x, hk, hlt, hle, h => by simp at hle
  | none :: r, [], L, j, x, hk, hlt, hle, h => by simp at hle

theorem back_some : ∀ {ks : Ks} {m k id : Nat}, ks[k]? = some (some id) → back ks m k = id
  | some j :: r, m, 0, id, h => by simpa [back] using h
  | none :: r, m, 0, id, h => by simp at h
  | some j :: r, m, k + 1, id, h => by simp only [back]; exact back_some (by simpa using h)
  | none :: r, m, k + 1, id, h => by simp only [back]; exact back_some (by simpa using h)
  | [], m, k, id, h => by simp at h

theorem layX_len {α β : Type} : ∀ (ks : Ks) (l L : List α) (l' L' : List β), l.length = l'.length → L.length = L'.length → (layX ks l L).length = (layX ks l' L').length
  | some id :: r, e :: l, L, e' :: l', L', h1, h2 => by simp only [layX]; exact layX_len r l _ l' _ (by simpa using h1) (by simpa using h2)
  | none :: r, e :: l, L, e' :: l', L', h1, h2 => by simp only [layX]; exact layX_len r l _ l' _ (by simpa using h1) (by simp [h2])
  | [], e :: l, L, e' :: l', L', h1, h2 => by simp only [layX]; exact layX_len [] l _ l' _ (by simpa using h1) (by simp [h2])
  | [], [], L, [], L', h1, h2 => h2
  | some id :: r, [], L, [], L', h1, h2 => h2
  | none :: r, [], L, [], L', h1, h2 => h2
  | _, e :: l, L, [], L', h1, h2 => by simp at h1
  | _, [], L, e :: l', L', h1, h2 => by simp at h1

theorem renE_ren (f : Nat → Nat) (e : Entry) : ERen (fun i k => k = f i) (fun _ => False) e (renE f e) := by
  unfold renE
  by_cases hb : e.bx = true
  · rw [if_pos hb]
    refine ⟨rfl, rfl, rfl, by simp, fun r row row' h1 h2 => ?_⟩
    rw [if_pos hb]
    simp only [List.getElem?_map, h1, Option.map_some, Option.some.injEq] at h2
    subst h2
    exact ren_l f row
  · rw [if_neg hb]
    exact ERen.same (.inl (by simpa using hb))

/-- The callee's heap laid back into the caller's. -/
theorem lay_nx {w w' : World} {F : Nat → Prop} {A : Pls} {L : List Entry} {ks : Ks} {Lk : List Entry} {A1 : Pls} {L1 : List Entry} (h : Sub A L ks Lk) (hh : HeapOK w F A L) (hF : ∀ b, F b → b < w.heap.size)
    (h1 : HeapOK w' (fun b => F b ∨ (Owned A b ∧ ¬ Owned (subA A ks) b)) A1 L1) (hf : Fr w (Owned (subA A ks)) w') (ho : OwnNew w (subA A ks) A1) (hs : Stab Lk (subA A ks) L1 A1) :
    Nx F w A L w' (layX ks A1 A) (lay (back ks L.length) ks L1 L) ∧ (∀ (r : Sv) (v : Value), SRep w' (fun b => Owned A1 b ∨ (F b ∨ (Owned A b ∧ ¬ Owned (subA A ks) b))) A1 L1 r v → SRep w' (fun b => Owned (layX ks A1 A) b ∨ F b) (layX ks A1 A) (lay (back ks L.length) ks L1 L) (renR (back ks L.length) r) v) := by
  have hA1 : A1.length = L1.length := h1.len
  have hlt : ∀ (i id : Nat), ks[i]? = some (some id) → id < L.length := by
    intro i id hi
    obtain ⟨e, e', he, _⟩ := h.at' hi
    exact (List.getElem?_eq_some_iff.1 he).1
  have hltA : ∀ (i id : Nat), ks[i]? = some (some id) → id < A.length := fun i id hi => by rw [h.al]; exact hlt i id hi
  have hle : ks.length ≤ L1.length := by
    rw [← h.len]
    rcases Nat.eq_zero_or_pos Lk.length with hz | hp
    · omega
    · obtain ⟨e, he, _⟩ := hs (Lk.length - 1) _ (List.getElem?_eq_getElem (by omega))
      have := (List.getElem?_eq_some_iff.1 he).1
      omega
  rw [lay_eq]
  have atL : ∀ (k : Nat) (e : Entry), L1[k]? = some e → (layX ks (L1.map (renE (back ks L.length))) L)[back ks L.length k]? = some (renE (back ks L.length) e) := fun k e he => lay_at ks _ L k _ h.nd hlt (by rw [List.getElem?_map, he]; rfl)
  have atA : ∀ (k : Nat) (p : Option Pl), A1[k]? = some p → (layX ks A1 A)[back ks L.length k]? = some p := fun k p hp => by
    have := lay_at ks A1 A k p h.nd hltA hp
    rwa [h.al] at this
  have csA : ∀ (j : Nat) (p : Option Pl), (layX ks A1 A)[j]? = some p → (∃ k : Nat, A1[k]? = some p ∧ back ks L.length k = j) ∨ (A[j]? = some p ∧ ∀ k : Nat, ks[k]? ≠ some (some j)) := fun j p hp => by
    have := lay_cases ks A1 A j p h.nd hltA (by rw [hA1]; exact hle) hp
    rwa [h.al] at this
  have notIn : ∀ (j : Nat) (q : Pl), A[j]? = some (some q) → (∀ k : Nat, ks[k]? ≠ some (some j)) → ¬ Owned (subA A ks) q.b := by
    intro j q hq hn ⟨k, p, hp, hb⟩
    obtain ⟨id, hid, hA⟩ := subA_at hp
    obtain rfl := hh.inj id j p q hA hq hb
    exact hn k hid
  have hold : ∀ {i : Nat} {q : Pl}, A[i]? = some (some q) → q.b < w.heap.size := by
    intro i q hq
    have hi := (List.getElem?_eq_some_iff.1 hq).1
    rw [hh.len] at hi
    obtain ⟨ob, hb⟩ := (hh.ent i _ (some q) (List.getElem?_eq_getElem hi) hq).block
    exact (Array.getElem?_eq_some_iff.1 hb).1
  have hfr : Fr w (Owned A) w' := ⟨hf.os, hf.tape, hf.output, hf.size, fun k hk hn => hf.block k hk (fun hx => hn (subA_owned hx))⟩
  have hown : OwnNew w A (layX ks A1 A) := by
    rintro b ⟨j, p, hp, hb⟩
    rcases csA j _ hp with ⟨k, hk, _⟩ | ⟨hk, _⟩
    · rcases ho b ⟨k, p, hk, hb⟩ with hx | hx
      · exact .inl (subA_owned hx)
      · exact .inr hx
    · exact .inl ⟨j, p, hk, hb⟩
  have hst : Stab L A (layX ks (L1.map (renE (back ks L.length))) L) (layX ks A1 A) := by
    intro i e0 he0
    have hi := (List.getElem?_eq_some_iff.1 he0).1
    by_cases hin : ∃ k : Nat, ks[k]? = some (some i)
    · obtain ⟨k, hk⟩ := hin
      obtain ⟨e, e', g1, g2, g3, g4⟩ := h.at' hk
      obtain rfl : e0 = e := by rw [he0] at g1; exact Option.some.inj g1
      obtain ⟨e1, k1, k2, k3⟩ := hs k e' g2
      have hb := back_some (m := L.length) hk
      have hren := renE_ren (back ks L.length) e1
      refine ⟨renE (back ks L.length) e1, ?_, ?_, fun hgg => ?_⟩
      · rw [← hb]; exact atL k e1 k1
      · rw [hren.gen, ← g3.gen]; exact k2
      · rw [hren.gen, ← g3.gen] at hgg
        obtain ⟨m1, m2, m3, m4⟩ := k3 hgg
        have hA1k : k < A1.length := by rw [hA1]; exact (List.getElem?_eq_some_iff.1 k1).1
        have hAi : (layX ks A1 A)[i]? = A1[k]? := by
          rw [← hb, List.getElem?_eq_getElem hA1k]
          have := atA k _ (List.getElem?_eq_getElem hA1k)
          rw [this]
        refine ⟨by rw [hAi, m1, g4], ?_, by rw [hren.bx, m3, g3.bx], by rw [hren.len, m4, g3.len]⟩
        rw [hAi, hren.wd, ← g3.wd]
        exact m2
    · have hno : ∀ k : Nat, ks[k]? ≠ some (some i) := fun k hk => hin ⟨k, hk⟩
      refine ⟨e0, by rw [lay_far ks _ L i hi hno]; exact he0, Nat.le_refl _, fun _ => ⟨lay_far ks A1 A i (by rw [h.al]; exact hi) hno, .inl rfl, rfl, rfl⟩⟩
  have kK : Keep w (fun b => Owned A b ∨ F b) w' (fun b => Owned (layX ks A1 A) b ∨ F b) := keep_of hfr hown
  have kB : Keep w' (fun b => Owned A1 b ∨ (F b ∨ (Owned A b ∧ ¬ Owned (subA A ks) b))) w' (fun b => Owned (layX ks A1 A) b ∨ F b) := by
    refine ⟨Nat.le_refl _, fun _ _ _ => rfl, fun b _ hb => ?_⟩
    rcases hb with ⟨j, p, hp, rfl⟩ | hb
    · rcases csA j _ hp with ⟨k, hk, _⟩ | ⟨hk, hn⟩
      · exact .inl ⟨k, p, hk, rfl⟩
      · exact .inr (.inr ⟨⟨j, p, hk, rfl⟩, notIn j p hk hn⟩)
    · exact .inr (.inl hb)
  have HR : RenH (fun i k => k = back ks L.length i) (fun _ => False) A1 L1 (layX ks A1 A) (layX ks (L1.map (renE (back ks L.length))) L) := by
    refine ⟨fun i j e hj he => ?_, fun _ h => h.elim⟩
    have hj : j = back ks L.length i := hj
    subst hj
    have hren := renE_ren (back ks L.length) e
    have hi : i < A1.length := by rw [hA1]; exact (List.getElem?_eq_some_iff.1 he).1
    refine ⟨_, atL i e he, hren.gen, hren.wd, hren.bx, hren.len, ?_⟩
    rw [List.getElem?_eq_getElem hi]
    exact atA i _ (List.getElem?_eq_getElem hi)
  have far1 : ∀ (k j : Nat) (p q : Pl), A1[k]? = some (some p) → A[j]? = some (some q) → (∀ k : Nat, ks[k]? ≠ some (some j)) → p.b ≠ q.b := by
    intro k j p q hp hq hn hb
    refine h1.far p.b ⟨k, p, hp, rfl⟩ (.inr ?_)
    rw [hb]
    exact ⟨⟨j, q, hq, rfl⟩, notIn j q hq hn⟩
  refine ⟨⟨⟨?_, ?_, ?_, ?_⟩, hfr, hown, hst⟩, fun r v hr => ?_⟩
  · exact layX_len ks A1 A _ L (by simp [hA1]) h.al
  · intro i j p q hp hq hb
    rcases csA i _ hp with ⟨k, g1, g2⟩ | ⟨g1, g2⟩ <;> rcases csA j _ hq with ⟨k', g3, g4⟩ | ⟨g3, g4⟩
    · obtain rfl := h1.inj k k' p q g1 g3 hb
      omega
    · exact absurd hb (far1 k j p q g1 g3 g4)
    · exact absurd hb.symm (far1 k' i q p g3 g1 g2)
    · exact hh.inj i j p q g1 g3 hb
  · rintro b ⟨j, p, hp, rfl⟩ hFb
    rcases csA j _ hp with ⟨k, g1, _⟩ | ⟨g1, _⟩
    · exact h1.far p.b ⟨k, p, g1, rfl⟩ (.inl hFb)
    · exact hh.far p.b ⟨j, p, g1, rfl⟩ hFb
  · intro j e' pl he' hpl
    rcases lay_cases ks (L1.map (renE (back ks L.length))) L j e' h.nd hlt (by simpa using hle) he' with ⟨k, g1, g2⟩ | ⟨g1, g2⟩
    · rw [List.getElem?_map, Option.map_eq_some_iff] at g1
      obtain ⟨e, he, rfl⟩ := g1
      have hk : k < A1.length := by rw [hA1]; exact (List.getElem?_eq_some_iff.1 he).1
      have := atA k _ (List.getElem?_eq_getElem hk)
      rw [g2, hpl] at this
      refine ren_erep kB HR (renE_ren _ e) (fun _ _ => rfl) (h1.ent k e pl he ?_)
      rw [List.getElem?_eq_getElem hk, ← this]
    · have hj := (List.getElem?_eq_some_iff.1 g1).1
      rw [lay_far ks A1 A j (by rw [h.al]; exact hj) g2] at hpl
      refine (hh.ent j e' pl g1 hpl).keep kK hst fun p hp => ?_
      subst hp
      exact hf.block p.b (hold hpl) (notIn j p hpl g2)
  · cases r with
    | tup xs =>
      cases hr with
      | tup _ us hn hc =>
        have hl : ∀ (l : List Sv), (renSL (back ks L.length) l).length = l.length ∧ ∀ i : Nat, (renSL (back ks L.length) l)[i]? = (l[i]?).map (renS (back ks L.length)) := by
          intro l
          induction l with
          | nil => exact ⟨rfl, fun i => by simp [renSL]⟩
          | cons s r ih =>
            refine ⟨by simp [renSL, ih.1], fun i => ?_⟩
            cases i with
            | zero => simp [renSL]
            | succ i => simpa [renSL] using ih.2 i
        simp only [renR]
        refine .tup _ _ (by rw [(hl xs).1]; exact hn) fun i y u hy hu => ?_
        rw [(hl xs).2, Option.map_eq_some_iff] at hy
        obtain ⟨x, hx, rfl⟩ := hy
        exact ren_srep kB HR (ren_s _ x) (hc i x u hx hu)
    | un => exact .un v
    | ud => exact ren_srep kB HR (ren_s _ .ud) hr
    | c x => exact ren_srep kB HR (ren_s _ (.c x)) hr
    | agg xs => exact ren_srep kB HR (ren_s _ (.agg xs)) hr
end Go.LH

namespace Go.LH
open Go
set_option linter.unusedSimpArgs false
set_option linter.unusedVariables false

section
variable {P : Program} {o : Oper} {a : Act} {w : World} {F : Nat → Prop} {A : Pls} {st : St} {G : GEnv}

theorem snLw_rep {f : Cv → Option Cv} {X Y : Nat → Prop} {L : List Entry} (hf : ∀ (c d : Cv) (v : Value), f c = some d → Rep w X A L c v → RepV w Y d v) :
    ∀ (cs ds : List Cv) (us : List Value), snLw f cs = some ds → cs.length = us.length → (∀ (i : Nat) (c : Cv) (u : Value), cs[i]? = some c → us[i]? = some u → Rep w X A L c u) →
      ds.length = us.length ∧ ∀ (i : Nat) (c : Cv) (u : Value), ds[i]? = some c → us[i]? = some u → RepV w Y c u
  | [], ds, us, h, hl, hr => by obtain rfl := Option.some.inj h; exact ⟨hl, fun i c u h1 h2 => by simp at h1⟩
  | c :: cs, ds, [], h, hl, hr => by simp at hl
  | c :: cs, ds, u :: us, h, hl, hr => by
    simp only [snLw] at h
    split at h
    · rename_i d h1
      split at h
      · rename_i s h2
        obtain rfl := Option.some.inj h
        obtain ⟨l2, r2⟩ := snLw_rep hf cs s us h2 (by simpa using hl) (fun i c u h3 h4 => hr (i + 1) c u (by simpa using h3) (by simpa using h4))
        refine ⟨by simp [l2], fun i c' u' h3 h4 => ?_⟩
        cases i with
        | zero => obtain rfl := Option.some.inj h3; obtain rfl := Option.some.inj h4; exact hf c d u h1 (hr 0 c u rfl rfl)
        | succ i => exact r2 i c' u' (by simpa using h3) (by simpa using h4)
      · cases h
    · cases h

theorem RepV.less {X Y : Nat → Prop} {c : Cv} {v : Value} (h : RepV w X c v) (hY : ∀ b, Y b → X b) : RepV w Y c v := h.keep ⟨Nat.le_refl _, fun _ _ _ => rfl, fun b _ hb => hY b hb⟩

theorem snC_rep {L : List Entry} (hh : HeapOK w F A L) : ∀ (n : Nat) (c d : Cv) (v : Value), snC L n c = some d → Rep w (fun b => Owned A b ∨ F b) A L c v → RepV w F d v
  | 0, c, d, v, h, hr => by cases h
  | n + 1, c, d, v, h, hr => by
    simp only [snC] at h
    split at h
    · rename_i id gen lo len
      split at h
      · rename_i e he
        split at h
        · rename_i hc
          obtain ⟨hbx, hg, hle⟩ := hc
          obtain rfl := Option.some.inj h
          have hrow : rowsOf e.wd L (.rs id gen lo len) = some ((e.rows.drop lo).take len) := by simp [rowsOf, he, hbx, hg, hle]
          have hlv : live? L id gen = true := by simp [live?, he, hg]
          obtain ⟨e', he', hg', _, hfit, ad, cap, hv, hcap, hcase⟩ := rs_at hr hlv
          obtain rfl : e = e' := by rw [he] at he'; exact Option.some.inj he'
          have hlen : ((e.rows.drop lo).take len).length = len := by simp; omega
          obtain ⟨ad', cap', hv', hcap', hcase'⟩ := rowsOf_rep hh hrow hr
          rw [hv'] at hv ⊢
          rcases hcase' with hnil | ⟨b, q, rfl, hat⟩
          · rw [hnil]; exact .sl0 _ _ _
          · injection hv with e1 e2 e3
            rcases hcase with ⟨k1, k3⟩ | ⟨k1, _, p, k2⟩ | ⟨p, k1, k0, k2, k3⟩
            · have hnil : (e.rows.drop lo).take len = [] := List.eq_nil_of_length_eq_zero (by omega)
              rw [hnil]; exact .sl0 _ _ _
            · have hnil : (e.rows.drop lo).take len = [] := List.eq_nil_of_length_eq_zero (by omega)
              rw [hnil]; exact .sl0 _ _ _
            · rw [k2] at e1
              injection e1 with e1
              injection e1 with e1 _ _
              subst e1
              refine .sl e.wd _ _ q cap' (fun r j => (w.cell? ⟨p.b, q + r * e.wd + j, none⟩).getD undef) hcap' hat.blk (hh.far p.b ⟨id, p, k1, rfl⟩) hat.wid (fun r row j c h1 h2 => ?_) (fun r row j c h1 h2 => ?_)
              · obtain ⟨u, hu, _⟩ := hat.cell r row j c h1 h2
                simp [hu]
              · obtain ⟨u, hu, hur⟩ := hat.cell r row j c h1 h2
                simp only [hu, Option.getD_some]
                exact hur.less fun b hb => .inr hb
        · cases h
      · cases h
    · rename_i id gen row col
      split at h
      · rename_i e he
        split at h
        · rename_i hg
          split at h
          · rename_i r hrow
            split at h
            · rename_i cs hcs
              obtain rfl := Option.some.inj h
              have hlv : live? L id gen = true := by simp [live?, he, hg]
              obtain ⟨e', p, he', hg', hA, hv⟩ := np_at hr hlv
              obtain rfl : e = e' := by rw [he] at he'; exact Option.some.inj he'
              obtain ⟨hw0, arr, el, fz, hb, hn, hf, hfit, hrows⟩ := (hh.ent id e (some p) he hA).cells (np_k hr hlv he)
              obtain ⟨hl, hcell⟩ := hrows row r hrow
              have hcl : ∀ (j : Nat) (c : Cv), (r.drop col)[j]? = some c → ∃ u, w.cell? ⟨p.b, p.o + row * e.wd + col + j, none⟩ = some u ∧ Rep w (fun b => Owned A b ∨ F b) A L c u := by
                intro j c hj
                rw [List.getElem?_drop] at hj
                obtain ⟨u, hu, hur⟩ := hcell (col + j) c hj
                refine ⟨u, ?_, ?_⟩
                · simp only [World.cell?, hb]
                  rw [show p.o + row * e.wd + col + j = p.o + row * e.wd + (col + j) by omega]
                  simpa using hu
                · split at hur
                  · exact hur
                  · exact .v _ _ hur
              obtain ⟨l2, r2⟩ := snLw_rep (snC_rep hh n) (r.drop col) cs ((List.range (r.drop col).length).map fun j => (w.cell? ⟨p.b, p.o + row * e.wd + col + j, none⟩).getD undef) hcs (by simp) (fun i c u h1 h2 => by
                have hi := (List.getElem?_eq_some_iff.1 h1).1
                rw [List.getElem?_map, List.getElem?_range hi] at h2
                obtain rfl := Option.some.inj h2
                obtain ⟨u, hu, hur⟩ := hcl i c h1
                simp only [hu, Option.getD_some]
                exact hur)
              rw [hv]
              have hb' := (Array.getElem?_eq_some_iff.1 hb).1
              refine .rp cs p.b _ (fun j => (w.cell? ⟨p.b, p.o + row * e.wd + col + j, none⟩).getD undef) hb' (hh.far p.b ⟨id, p, hA, rfl⟩) (fun j c hj => ?_) (fun j c hj => ?_)
              · have hjl := (List.getElem?_eq_some_iff.1 hj).1
                rw [l2] at hjl
                simp only [List.length_map, List.length_range] at hjl
                obtain ⟨u, hu, _⟩ := hcl j _ (List.getElem?_eq_getElem hjl)
                simp [hu]
              · have hjl := (List.getElem?_eq_some_iff.1 hj).1
                rw [l2] at hjl
                refine r2 j c _ hj ?_
                simp only [List.length_map, List.length_range] at hjl
                rw [List.getElem?_map, List.getElem?_range hjl]
                rfl
            · cases h
          · cases h
        · cases h
      · cases h
    · rename_i t x
      split at h
      · rename_i y hy
        obtain rfl := Option.some.inj h
        obtain ⟨u, rfl, hur⟩ : ∃ u, v = .iface t u ∧ Rep w (fun b => Owned A b ∨ F b) A L x u := by
          cases hr with
          | v _ _ h => cases h with | ifc _ _ u h => exact ⟨u, rfl, .v _ _ h⟩
          | ifc _ _ u h => exact ⟨u, rfl, h⟩
        exact .ifc _ _ _ (snC_rep hh n x y u hy hur)
      · cases h
    · rename_i f caps
      split at h
      · rename_i l hl
        obtain rfl := Option.some.inj h
        obtain ⟨us, hn, rfl, hc⟩ : ∃ us : List Value, caps.length = us.length ∧ v = .func f #[] us.toArray ∧ ∀ (i : Nat) (c : Cv) (u : Value), caps[i]? = some c → us[i]? = some u → Rep w (fun b => Owned A b ∨ F b) A L c u := by
          cases hr with
          | v _ _ h => cases h with | fn _ _ us hn h => exact ⟨us, hn, rfl, fun i c u h1 h2 => .v _ _ (h i c u h1 h2)⟩
          | fn _ _ us hn h => exact ⟨us, hn, rfl, h⟩
        obtain ⟨l2, r2⟩ := snLw_rep (snC_rep hh n) caps l us hl hn hc
        exact .fn _ _ _ l2 r2
      · cases h
    · cases h
    · cases h
    · cases h
    · obtain rfl := Option.some.inj h; exact (isV_rep rfl hr).less fun b hb => .inr hb
    · obtain rfl := Option.some.inj h; exact (isV_rep rfl hr).less fun b hb => .inr hb
    · obtain rfl := Option.some.inj h; exact (isV_rep rfl hr).less fun b hb => .inr hb

theorem snS_rep {L : List Entry} (hh : HeapOK w F A L) {s d : Sv} {v : Value} (h : snS L s = some d) (hr : SRep w (fun b => Owned A b ∨ F b) A L s v) : SRepV w F d v := by
  cases s with
  | un => cases h
  | ud => cases h
  | tup xs => cases h
  | c x =>
    simp only [snS] at h
    split at h
    · rename_i y hy
      obtain rfl := Option.some.inj h
      exact .c _ _ (snC_rep hh 6 x y v hy hr.inv_c)
    · cases h
  | agg cs =>
    simp only [snS] at h
    split at h
    · rename_i ds hy
      obtain rfl := Option.some.inj h
      obtain ⟨us, hn, rfl, hc⟩ := hr.inv_agg
      obtain ⟨l, r⟩ := snLw_rep (snC_rep hh 6) cs ds us hy hn hc
      exact .agg _ _ l r
    · cases h

theorem snSL_rep {L : List Entry} (hh : HeapOK w F A L) : ∀ (ss ds : List Sv) (us : List Value), snSL L ss = some ds → ss.length = us.length → (∀ (i : Nat) (c : Sv) (u : Value), ss[i]? = some c → us[i]? = some u → SRep w (fun b => Owned A b ∨ F b) A L c u) → ArgsRepV w F ds us
  | [], ds, us, h, hl, hr => by obtain rfl := Option.some.inj h; exact ⟨hl, fun i c u h1 h2 => by simp at h1⟩
  | c :: cs, ds, [], h, hl, hr => by simp at hl
  | c :: cs, ds, u :: us, h, hl, hr => by
    simp only [snSL] at h
    split at h
    · rename_i d h1
      split at h
      · rename_i s h2
        obtain rfl := Option.some.inj h
        obtain ⟨l2, r2⟩ := snSL_rep hh cs s us h2 (by simpa using hl) (fun i c u h3 h4 => hr (i + 1) c u (by simpa using h3) (by simpa using h4))
        refine ⟨by simp [l2], fun i c' u' h3 h4 => ?_⟩
        cases i with
        | zero => obtain rfl := Option.some.inj h3; obtain rfl := Option.some.inj h4; exact snS_rep hh h1 (hr 0 c u rfl rfl)
        | succ i => exact r2 i c' u' (by simpa using h3) (by simpa using h4)
      · cases h
    · cases h

/-! ### Plain content stands for one value alone -/
theorem plainC_uniq {w w2 : World} {X X2 : Nat → Prop} {c : Cv} {v : Value} (h : RepV w X c v) (hp : plainC c = true) : RepV w2 X2 c v ∧ ∀ {w3 : World} {X3 : Nat → Prop} {v'}, RepV w3 X3 c v' → v' = v := by
  induction h with
  | val v h1 => exact ⟨.val v h1, fun h => by cases h; rfl⟩
  | ifc t x u h ih =>
    obtain ⟨h1, h2⟩ := ih hp
    exact ⟨.ifc _ _ _ h1, fun h => by cases h with | ifc _ _ u' h => rw [h2 h]⟩
  | _ => cases hp
theorem plainL_get : ∀ {l : List Cv} {i : Nat} {c : Cv}, plainL l = true → l[i]? = some c → plainC c = true
  | [], i, c, h, hi => by simp at hi
  | x :: r, 0, c, h, hi => by obtain rfl := Option.some.inj hi; simp only [plainL, Bool.and_eq_true] at h; exact h.1
  | x :: r, i + 1, c, h, hi => by simp only [plainL, Bool.and_eq_true] at h; exact plainL_get h.2 (by simpa using hi)
theorem plainSL_get : ∀ {l : List Sv} {i : Nat} {c : Sv}, plainSL l = true → l[i]? = some c → plainS c = true
  | [], i, c, h, hi => by simp at hi
  | x :: r, 0, c, h, hi => by obtain rfl := Option.some.inj hi; simp only [plainSL, Bool.and_eq_true] at h; exact h.1
  | x :: r, i + 1, c, h, hi => by simp only [plainSL, Bool.and_eq_true] at h; exact plainSL_get h.2 (by simpa using hi)
theorem list_eq {us us' : List Value} (hl : us.length = us'.length) (h : ∀ (i : Nat) (u u' : Value), us[i]? = some u → us'[i]? = some u' → u' = u) : us' = us := by
  apply List.ext_getElem?
  intro i
  by_cases hi : i < us.length
  · have h1 := List.getElem?_eq_getElem hi
    have h2 := List.getElem?_eq_getElem (show i < us'.length by omega)
    rw [h1, h2, h i _ _ h1 h2]
  · rw [List.getElem?_eq_none (by omega), List.getElem?_eq_none (by omega)]
theorem plainS_uniq {w w2 : World} {X X2 : Nat → Prop} {s : Sv} {v : Value} (h : SRepV w X s v) (hp : plainS s = true) : SRepV w2 X2 s v ∧ ∀ {w3 : World} {X3 : Nat → Prop} {v'}, SRepV w3 X3 s v' → v' = v := by
  cases h with
  | c x v h => obtain ⟨h1, h2⟩ := plainC_uniq (w2 := w2) (X2 := X2) h hp; exact ⟨.c _ _ h1, fun h => by cases h with | c _ _ h => exact h2 h⟩
  | agg cs us hn hc =>
    refine ⟨.agg _ _ hn fun i c u h1 h2 => (plainC_uniq (hc i c u h1 h2) (plainL_get hp h1)).1, fun h => ?_⟩
    cases h with
    | agg _ us' hn' hc' =>
      rw [list_eq (us := us) (us' := us') (by omega) fun i u u' h1 h2 => ?_]
      have hi := (List.getElem?_eq_some_iff.1 h1).1
      have hx : cs[i]? = some (cs[i]'(by omega)) := List.getElem?_eq_getElem (by omega)
      exact (plainC_uniq (w2 := w) (X2 := X) (hc i _ u hx h1) (plainL_get hp hx)).2 (hc' i _ u' hx h2)
  | tup xs us hn hc => cases hp
theorem plainR_uniq {w w2 : World} {X X2 : Nat → Prop} {s : Sv} {v : Value} (h : SRepV w X s v) (hp : plainR s = true) : SRepV w2 X2 s v ∧ ∀ {w3 : World} {X3 : Nat → Prop} {v'}, SRepV w3 X3 s v' → v' = v := by
  cases h with
  | c x v h => exact plainS_uniq (.c x v h) hp
  | agg cs us hn hc => exact plainS_uniq (.agg cs us hn hc) hp
  | tup xs us hn hc =>
    have hp : plainSL xs = true := hp
    refine ⟨.tup _ _ hn fun i c u h1 h2 => (plainS_uniq (hc i c u h1 h2) (plainSL_get hp h1)).1, fun h => ?_⟩
    cases h with
    | tup _ us' hn' hc' =>
      rw [list_eq (us := us) (us' := us') (by omega) fun i u u' h1 h2 => ?_]
      have hi := (List.getElem?_eq_some_iff.1 h1).1
      have hx : xs[i]? = some (xs[i]'(by omega)) := List.getElem?_eq_getElem (by omega)
      exact (plainS_uniq (w2 := w) (X2 := X) (hc i _ u hx h1) (plainSL_get hp hx)).2 (hc' i _ u' hx h2)

/-! ### Calls -/
theorem Nx.world {w' : World} {L : List Entry} (hh : HeapOK w F A L) (hf : Fr w (fun _ => False) w') : Nx F w A L w' A L := by
  have k : Keep w (fun b => Owned A b ∨ F b) w' (fun b => Owned A b ∨ F b) := ⟨hf.size, fun k hk _ => hf.block k hk id, fun _ _ h => h⟩
  refine ⟨⟨hh.len, hh.inj, hh.far, fun i e pl h1 h2 => (hh.ent i e pl h1 h2).keep k (Stab.refl _ _) fun p hp => ?_⟩, ⟨hf.os, hf.tape, hf.output, hf.size, fun k hk _ => hf.block k hk id⟩, fun _ h => .inl h, Stab.refl _ _⟩
  subst hp
  obtain ⟨ob, hb⟩ := (hh.ent i e (some p) h1 h2).block
  exact hf.block p.b (Array.getElem?_eq_some_iff.1 hb).1 id

theorem owned_lt {L : List Entry} (hh : HeapOK w F A L) (hF : ∀ b, F b → b < w.heap.size) : ∀ b, (Owned A b ∨ F b) → b < w.heap.size := by
  rintro b (⟨i, q, hq, rfl⟩ | h)
  · have hi := (List.getElem?_eq_some_iff.1 hq).1
    rw [hh.len] at hi
    obtain ⟨ob, hb⟩ := (hh.ent i _ (some q) (List.getElem?_eq_getElem hi) hq).block
    exact (Array.getElem?_eq_some_iff.1 hb).1
  · exact hF b h

theorem GOK.less {X Y : Nat → Prop} (h : GOK G w X) (hY : ∀ b, Y b → X b) : GOK G w Y := fun g l hg => ⟨fun hy => (h g l hg).1 (hY g hy), (h g l hg).2.1, (h g l hg).2.2.1, fun v t a hv he => ⟨fun hy => ((h g l hg).2.2.2 v t a hv he).1 (hY _ hy), ((h g l hg).2.2.2 v t a hv he).2⟩⟩

/-- What a call comes to. -/
def CallsTo (P : Program) (f : FuncId) (vs : List Value) (w : World) (F : Nat → Prop) (A : Pls) (L : List Entry) (K : Sv → List Entry → Prop) : Prop :=
  Calls P f vs.toArray w fun e w' => ∃ v r L' A', e = .returned v ∧ K r L' ∧ Nx F w A L w' A' L' ∧ SRep w' (fun b => Owned A' b ∨ F b) A' L' r v

theorem callR_sound {f : FuncId} {args : List Sv} {L : List Entry} {K : Sv → List Entry → Prop} {vs : List Value} (h : callR G P f args L K) (hh : HeapOK w F A L) (hF : ∀ b, F b → b < w.heap.size) (hG : GOK G w (fun b => Owned A b ∨ F b))
    (ha : ArgsRep w (fun b => Owned A b ∨ F b) A L args vs) : CallsTo P f vs w F A L K := by
  rcases h with ⟨as, L1, Post, hfz, hgood, hK⟩ | ⟨as, Post, hsn, hgood, hK⟩ | ⟨as, ks, Lc, Post, hgc, hgood, hK⟩
  · obtain ⟨A1, n1, hl, hr⟩ := fzSL_rep hF args vs L A as L1 hfz hh ha.1 ha.2
    refine (hgood w (fun b => Owned A1 b ∨ F b) vs (owned_lt n1.heap hF) (hG.keep n1.keep) ⟨hl, hr⟩).mono ?_
    rintro e w' ⟨v, r, rfl, hp, hrv, hfr⟩
    exact ⟨v, r, L1, A1, rfl, hK r hp, n1.trans (Nx.world n1.heap hfr), hrv.rep⟩
  · refine (hgood w F vs hF (hG.less fun b hb => .inr hb) (snSL_rep hh args as vs hsn ha.1 ha.2)).mono ?_
    rintro e w' ⟨v, r, rfl, hp, hrv, hfr⟩
    obtain ⟨hpl, hk⟩ := hK r hp
    exact ⟨v, r, L, A, rfl, hk, Nx.world hh hfr, (plainR_uniq hrv hpl).1.rep⟩
  · simp only [gcArgs] at hgc
    obtain ⟨g1, g2, g3⟩ := gc_sl args [] (fun i j id h => by simp at h)
    split at hgc
    · rename_i ks' L' hge
      simp only [Option.some.injEq, Prod.mk.injEq] at hgc
      obtain ⟨rfl, rfl, rfl⟩ := hgc
      obtain ⟨e1, e2, e3, e4⟩ := gc_e _ _ _ _ _ hge g1 (Nat.zero_le _)
      have sub : Sub A L ks' L' := ⟨e1, by simpa using e3, fun j e' hj => by simpa using e4 j e' hj, hh.len⟩
      obtain ⟨hh1, k1⟩ := sub.heap (F' := fun b => F b ∨ (Owned A b ∧ ¬ Owned (subA A ks') b)) hh (fun b hb h => by
        rcases h with h | h
        · exact hh.far b (subA_owned hb) h
        · exact h.2 hb) (fun b hb => by
        rcases hb with hb | hb
        · exact .inr hb
        · exact .inl hb.1)
      refine (hgood w _ (subA A ks') vs ?_ hh1 (hG.keep k1) ⟨by rw [← g3.1]; exact ha.1, fun i s v h1 h2 => ?_⟩).mono ?_
      · intro b hb
        rcases hb with hb | hb
        · exact hF b hb
        · exact owned_lt hh hF b (.inl hb.1)
      · have hi := (List.getElem?_eq_some_iff.1 h1).1
        have hx : args[i]? = some (args[i]'(by rw [g3.1]; exact hi)) := List.getElem?_eq_getElem _
        exact ren_srep k1 sub.renH ((g3.2 i _ s hx h1).mono (fun i k h => e2.get h) (fun k h => e2.get h)) (ha.2 i _ v hx h2)
      · rintro e w' ⟨v, r, L2, A2, rfl, hp, hh2, hrv, hfr, hown, hst⟩
        obtain ⟨nx, hrr⟩ := lay_nx sub hh hF hh2 hfr hown hst
        exact ⟨v, _, _, _, rfl, hK r L2 hp, nx, hrr r v hrv⟩
    · cases hgc
end
end Go.LH

namespace Go.LH
open Go
set_option linter.unusedSimpArgs false
set_option linter.unusedVariables false

section
variable {P : Program} {w0 : World} {F : Nat → Prop} {L0 : List Entry} {A0 : Pls} {nt : Nat} {G : GEnv}

theorem sget_sset : ∀ (l : Slots) (i j : Nat) (v : Sv), sget (sset l i v) j = if j = i then v else sget l j
  | [], i, j, v => by simp only [sset, sget]; by_cases h : j = i <;> simp [h]
  | (k, u) :: r, i, j, v => by
    simp only [sset]
    by_cases h1 : i = k
    · subst h1
      simp only [beq_self_eq_true, if_true, sget]
      by_cases h : j = i <;> simp [h]
    · have : (i == k) = false := by simpa using h1
      simp only [this, Bool.false_eq_true, if_false]
      split
      · simp only [sget]
        by_cases h : j = i <;> simp [h]
      · simp only [sget, sget_sset r i j v]
        by_cases h : j = k
        · subst h
          simp only [beq_self_eq_true, if_true]
          rw [if_neg (fun h => h1 h.symm)]
        · have : (j == k) = false := by simpa using h
          simp [this]

theorem sget_skeep : ∀ (l : List Nat) (s : Slots) (i : Nat), sget (skeep l s) i = sget s i ∨ sget (skeep l s) i = .un
  | l, [], i => .inl rfl
  | l, (j, v) :: r, i => by
    simp only [skeep]
    split
    · simp only [sget]
      split
      · exact .inl rfl
      · exact sget_skeep l r i
    · rename_i hc
      simp only [sget]
      by_cases h : i = j
      · subst h
        right
        have : ∀ r : Slots, sget (skeep l r) i = .un := by
          intro r
          induction r with
          | nil => rfl
          | cons p r ih =>
            obtain ⟨k, u⟩ := p
            simp only [skeep]
            split
            · rename_i hk
              simp only [sget]
              by_cases h : i = k
              · subst h; exact absurd hk hc
              · have : (i == k) = false := by simpa using h
                simp [this, ih]
            · exact ih
        exact this r
      · have : (i == j) = false := by simpa using h
        simp only [this, Bool.false_eq_true, if_false]
        exact sget_skeep l r i

theorem R.size0 {st : St} {A : Pls} {a : Act} {w : World} (h : R G F w0 L0 A0 nt st A a w) (hF : ∀ b, F b → b < w0.heap.size) : ∀ b, F b → b < w.heap.size := fun b hb => Nat.lt_of_lt_of_le (hF b hb) h.frame.size
theorem R.opR {st : St} {A : Pls} {a : Act} {w : World} (h : R G F w0 L0 A0 nt st A a w) : OpR w F A st a := Go.LH.opR h.slots

theorem R.next {st : St} {A A' : Pls} {a : Act} {w w' : World} {L' : List Entry} {s : Sv} {v : Value} {dst : Option Nat} (h : R G F w0 L0 A0 nt st A a w) (n : Nx F w A st.L w' A' L') (hr : SRep w' (fun b => Owned A' b ∨ F b) A' L' s v) (hd : dst.all (· < nt) = true) :
    R G F w0 L0 A0 nt (put ⟨st.s, L'⟩ dst s) A' (a.put dst v) w' := by
  have hL : (put ⟨st.s, L'⟩ dst s).L = L' := by cases dst <;> rfl
  refine ⟨by rw [hL]; exact n.heap, fun i => ?_, by cases dst <;> exact h.defers, by cases dst <;> simp [Act.put, h.size], h.glob.keep n.keep, h.frame.trans h.own n.frame, h.own.trans h.frame.size n.own, by rw [hL]; exact h.stab.trans n.stab⟩
  rw [hL]
  have hold := (h.slots i).keep n.keep n.stab
  cases dst with
  | none => exact hold
  | some d =>
    have hd : d < nt := by simpa using hd
    simp only [put, sget_sset, Act.put]
    by_cases hi : i = d
    · subst hi
      rw [if_pos rfl]
      have : (a.tmps.setIfInBounds i v).getD i undef = v := by
        have : i < a.tmps.size := by rw [h.size]; exact hd
        simp [this]
      rw [this]; exact hr
    · rw [if_neg hi]
      have : (a.tmps.setIfInBounds d v).getD i undef = a.tmps.getD i undef := by
        simp only [Array.getD_eq_getD_getElem?]
        rw [Array.getElem?_setIfInBounds_ne (fun h => hi h.symm)]
      rw [this]; exact hold

theorem R.world {st : St} {A : Pls} {a : Act} {w w' : World} (h : R G F w0 L0 A0 nt st A a w) (hf : Fr w (fun _ => False) w') : R G F w0 L0 A0 nt st A a w' := by
  have n := Nx.world h.heap hf
  exact ⟨n.heap, fun i => (h.slots i).keep n.keep n.stab, h.defers, h.size, h.glob.keep n.keep, h.frame.trans h.own n.frame, h.own, h.stab⟩

theorem put_eta (st : St) (dst : Option Nat) (s : Sv) : put st dst s = put ⟨st.s, st.L⟩ dst s := rfl

/-- What a guard says. -/
theorem guard_says {st : St} {A : Pls} {a : Act} {w : World} {ops : Array Oper} {o : Oper} {j d : Nat} {want : Bool} (h : R G F w0 L0 A0 nt st A a w) (hg : o.guard = some (j, want)) (hj : (ops[j]?).bind (·.dst) = some d) :
    (sget st.s d = .ud → Region.wanted o (yielded ops a.tmps) = false) ∧ ∀ t, sget st.s d = .c (.val (.bool t)) → Region.wanted o (yielded ops a.tmps) = (t == want) := by
  have hs := h.slots d
  refine ⟨fun hu => ?_, fun t ht => ?_⟩
  · rw [hu] at hs
    have hv : a.tmps.getD d undef = undef := by
      generalize a.tmps.getD d undef = v at hs
      cases hs; rfl
    simp only [Region.wanted, hg, yielded, hj, Option.bind_some]
    rw [Array.getD_eq_getD_getElem?] at hv
    cases hx : a.tmps[d]? with
    | none => simp
    | some v => rw [hx] at hv; simp only [Option.getD_some] at hv; subst hv; simp [undef]
  · rw [ht] at hs
    have hv := hs.inv_val
    simp only [Region.wanted, hg, yielded, hj, Option.bind_some]
    rw [Array.getD_eq_getD_getElem?] at hv
    cases hx : a.tmps[d]? with
    | none => rw [hx] at hv; simp [undef] at hv
    | some v => rw [hx] at hv; simp only [Option.getD_some] at hv; subst hv; cases t <;> cases want <;> rfl

theorem cOper_ok {ops : Array Oper} {o : Oper} {ro : ROper} (h : cOper P ops nt o = some ro) : cOp P o.op = some ro.op ∧ ro.dst = o.dst ∧ o.dst.all (· < nt) = true ∧ ((o.guard = none ∧ ro.guard = none) ∨ ∃ j want d, o.guard = some (j, want) ∧ (ops[j]?).bind (·.dst) = some d ∧ ro.guard = some (d, want)) := by
  simp only [cOper] at h
  split at h
  · cases h
  · rename_i r hr
    split at h
    · rename_i hd
      split at h
      · rename_i hg
        obtain rfl := Option.some.inj h
        exact ⟨hr, rfl, hd, .inl ⟨hg, rfl⟩⟩
      · rename_i j want hg
        split at h
        · rename_i d hj
          obtain rfl := Option.some.inj h
          exact ⟨hr, rfl, hd, .inr ⟨j, want, d, hg, hj, rfl⟩⟩
        · cases h
    · cases h

theorem run_callFunc {f : FuncId} {args : Array Value} {w : World} (h : callable P f = true) : (callFunc f args).run P w = .ok (.enter f args) w := by
  unfold callable at h
  split at h
  · rename_i fn hf
    simp only [Bool.and_eq_true, bne_iff_ne, ne_eq] at h
    obtain ⟨c, hb⟩ := Option.isSome_iff_exists.1 h.1
    simp [callFunc, hf, h.2, hb]
  · cases h

/-- An operation calls: which function, with what. -/
theorem run_call {o : Oper} {a : Act} {c : Call} {x : Operand} {f : FuncId} {caps : Array Value} (ho : o.op = .call c) (hc : c.callee = .value x) (hx : a.eval x = .func (.func f) #[] caps) (hf : callable P f = true) (w : World) :
    (execOp a.eval o).run P w = .ok (.enter f (c.args.map a.eval ++ caps)) w := by
  simp only [execOp, ho, resolve, hc, Deferred.ofValue, hx, Sem.run_bind, Sem.run_pure, Result.andThen_ok, invoke]
  rw [show #[] ++ c.args.map a.eval = c.args.map a.eval by simp]
  exact run_callFunc hf

theorem args_app {w : World} {X : Nat → Prop} {A : Pls} {L : List Entry} {s s' : List Sv} {v v' : List Value} (h : ArgsRep w X A L s v) (h' : ArgsRep w X A L s' v') : ArgsRep w X A L (s ++ s') (v ++ v') := by
  refine ⟨by simp [h.1, h'.1], fun i x y h1 h2 => ?_⟩
  by_cases hi : i < s.length
  · rw [List.getElem?_append_left hi] at h1
    rw [List.getElem?_append_left (by rw [← h.1]; exact hi)] at h2
    exact h.2 i x y h1 h2
  · rw [List.getElem?_append_right (by omega)] at h1
    rw [List.getElem?_append_right (by rw [← h.1]; omega)] at h2
    rw [← h.1] at h2
    exact h'.2 _ x y h1 h2

theorem upon_calls {o : Oper} {a : Act} {w : World} {f : FuncId} {vs : List Value} {A : Pls} {L : List Entry} {K : Sv → List Entry → Prop} {next : Act → World → Prop} {Q : Exit → Act → World → Prop} (hr : (execOp a.eval o).run P w = .ok (.enter f vs.toArray) w) (hc : CallsTo P f vs w F A L K)
    (hn : ∀ s L' v w' A', K s L' → Nx F w A L w' A' L' → SRep w' (fun b => Owned A' b ∨ F b) A' L' s v → next (a.put o.dst v) w') : o.wp P a w next Q := by
  unfold Oper.wp
  rw [hr]
  refine Calls.mono hc ?_
  rintro e w' ⟨v, r, L', A', rfl, hk, nx, hrv⟩
  exact hn r L' v w' A' hk nx hrv

theorem stepOp_sound {st : St} {A : Pls} {a : Act} {w : World} {o : Oper} {r : Rop} {K : Sv → List Entry → Prop} {next : Act → World → Prop} {Q : Exit → Act → World → Prop} (h : R G F w0 L0 A0 nt st A a w) (hF : ∀ b, F b → b < w0.heap.size) (hc : cOp P o.op = some r) (hs : stepOp G P r st K)
    (hn : ∀ s L' v w' A', K s L' → Nx F w A st.L w' A' L' → SRep w' (fun b => Owned A' b ∨ F b) A' L' s v → next (a.put o.dst v) w') : o.wp P a w next Q := by
  have hF' := h.size0 hF
  by_cases hck : callK r = true
  · generalize hop : o.op = op at hc
    cases op with
    | call c =>
      simp only [cOp, cCall] at hc
      split at hc
      · rename_i f hcal
        split at hc
        · rename_i hf
          simp only [Option.map_eq_some_iff] at hc
          obtain ⟨ys, hy, rfl⟩ := hc
          obtain ⟨e1, e2⟩ := opds_rep h.opR hy
          have := callR_sound (vs := c.args.toList.map a.eval) hs h.heap hF' h.glob ⟨e1.symm, e2⟩
          refine upon_calls ?_ this hn
          rw [run_call hop hcal (caps := #[]) rfl hf]
          congr 2
          apply Array.ext'
          simp
        · cases hc
      · rename_i x hx hcal
        split at hc
        · rename_i y ys hy hys
          obtain rfl := Option.some.inj hc
          simp only [stepOp] at hs
          split at hs
          · rename_i f caps hv
            obtain ⟨hf, hs⟩ := hs
            have hxr := h.opR _ y hy
            rw [hv] at hxr
            obtain ⟨us, hn1, hval, hcr⟩ : ∃ us : List Value, caps.length = us.length ∧ a.eval x = .func (.func f) #[] us.toArray ∧ ∀ (i : Nat) (c : Cv) (u : Value), caps[i]? = some c → us[i]? = some u → Rep w (fun b => Owned A b ∨ F b) A st.L c u := by
              have hxr := hxr.inv_c
              generalize a.eval x = vx at hxr
              cases hxr with
              | v _ _ h => cases h with | fn _ _ us hn h => exact ⟨us, hn, rfl, fun i c u h1 h2 => .v _ _ (h i c u h1 h2)⟩
              | fn _ _ us hn h => exact ⟨us, hn, rfl, h⟩
            obtain ⟨e1, e2⟩ := opds_rep h.opR hys
            have := callR_sound (vs := c.args.toList.map a.eval ++ us) hs h.heap hF' h.glob (args_app ⟨e1.symm, e2⟩ ⟨by simpa using hn1, fun i s v h1 h2 => by
              rw [List.getElem?_map, Option.map_eq_some_iff] at h1
              obtain ⟨c, hc, rfl⟩ := h1
              exact .c _ _ (hcr i c v hc h2)⟩)
            refine upon_calls ?_ this hn
            rw [run_call hop hcal hval hf]
            congr 2
            apply Array.ext'
            simp
          · cases hs
        · cases hc
      · cases hc
      · split at hc
        · split at hc
          · simp only [Option.map_eq_some_iff] at hc; obtain ⟨y, hy, rfl⟩ := hc; cases hck
          · simp only [Option.map_eq_some_iff] at hc; obtain ⟨y, hy, rfl⟩ := hc; cases hck
          · obtain rfl := Option.some.inj hc; cases hck
          · simp only [Option.map_eq_some_iff] at hc; obtain ⟨y, hy, rfl⟩ := hc; cases hck
          · cases hc
        · split at hc
          · split at hc
            · obtain rfl := Option.some.inj hc; cases hck
            · cases hc
          · cases hc
        · split at hc
          · split at hc
            · obtain ⟨_, hc⟩ := Option.ite_none_right_eq_some.1 hc
              obtain rfl := Option.some.inj hc; cases hck
            · cases hc
          · cases hc
        · simp only [Option.map_eq_some_iff] at hc; obtain ⟨y, hy, rfl⟩ := hc; cases hck
        · simp only [Option.map_eq_some_iff] at hc; obtain ⟨y, hy, rfl⟩ := hc; cases hck
        · cases hc
    | makeMap t r =>
      cases r with
      | some r => simp [cOp] at hc
      | none =>
        simp only [cOp] at hc
        split at hc
        · obtain rfl := Option.some.inj hc; cases hck
        · cases hc
    | next x b =>
      cases b with
      | true => simp [cOp] at hc
      | false =>
        simp only [cOp, Option.map_eq_some_iff] at hc
        obtain ⟨y, hy, rfl⟩ := hc
        obtain ⟨s, L', hk, v, w', A', hrun, nx, hrv⟩ := next_run h.opR h.heap hF' hop hy hs
        have := hn s L' v w' A' hk nx hrv
        unfold Oper.wp
        rcases hrun with hrun | ⟨hrun, rfl⟩
        · rw [hrun]; exact this
        · rw [hrun]; exact this
    | slice t x lo hi m =>
      cases m with
      | some m =>
        simp only [cOp] at hc
        repeat' (first | (cases hc; done) | (obtain rfl := Option.some.inj hc; cases hck; done) | split at hc)
      | none =>
        simp only [cOp] at hc
        repeat' (first | (cases hc; done) | (obtain rfl := Option.some.inj hc; cases hck; done) | split at hc)
    | _ =>
      simp only [cOp] at hc
      repeat' (first | (cases hc; done) | (obtain rfl := Option.some.inj hc; cases hck; done) | (simp only [Option.map_eq_some_iff] at hc; obtain ⟨_, _, rfl⟩ := hc; cases hck; done) | split at hc)
  · have hck : callK r = false := by simpa using hck
    have hs' : match evalOp G st r with | some (v, L') => K v L' | none => False := by
      cases r <;> first | exact hs | (simp [callK] at hck; done)
    split at hs'
    · rename_i s L' he
      obtain ⟨v, w', A', hrun, nx, hrv⟩ := op_makes h.opR h.heap hF' h.glob hc hck he
      have := hn s L' v w' A' hs' nx hrv
      unfold Oper.wp
      rcases hrun with hrun | ⟨hrun, rfl⟩
      · rw [hrun]; exact this
      · rw [hrun]; exact this
    · cases hs'

theorem ops_sound {ops : Array Oper} {Q : Exit → Act → World → Prop} {K : St → Prop} (hF : ∀ b, F b → b < w0.heap.size) (hK : ∀ st A a w, R G F w0 L0 A0 nt st A a w → K st → Q .normal a w) :
    ∀ (l : List Oper) (rl : List ROper) (k : Nat) (st : St) (A : Pls) (a : Act) (w : World), (∀ j : Nat, l[j]? = ops[k + j]?) → l.mapM (cOper P ops nt) = some rl → R G F w0 L0 A0 nt st A a w → VCops G P rl K st → wpOps P ops Q (List.range' k l.length) a w
  | [], rl, k, st, A, a, w, hl, hm, h, hv => by
    simp at hm; subst hm
    exact hK st A a w h hv
  | o :: l, rl, k, st, A, a, w, hl, hm, h, hv => by
    simp only [List.mapM_cons, Option.bind_eq_bind, Option.pure_def] at hm
    cases ho : cOper P ops nt o with
    | none => simp [ho] at hm
    | some ro =>
      cases hr : l.mapM (cOper P ops nt) with
      | none => simp [ho, hr] at hm
      | some rr =>
        simp only [ho, hr, Option.bind_some, Option.some.injEq] at hm
        subst hm
        obtain ⟨c1, c2, c3, c4⟩ := cOper_ok ho
        have h0 : ops[k]? = some o := by simpa using (hl 0).symm
        have hl' : ∀ j : Nat, l[j]? = ops[k + 1 + j]? := fun j => by have := hl (j + 1); simpa [Nat.add_assoc, Nat.add_comm 1 j] using this
        have rec' : ∀ st A a w, R G F w0 L0 A0 nt st A a w → VCops G P rr K st → wpOps P ops Q (List.range' (k + 1) l.length) a w := fun st A a w h hv => ops_sound hF hK l rr (k + 1) st A a w hl' hr h hv
        simp only [List.length_cons, List.range'_succ, wpOps, h0]
        simp only [VCops, stepG] at hv
        have skip : VCops G P rr K (put st ro.dst .ud) → wpOps P ops Q (List.range' (k + 1) l.length) (a.put o.dst undef) w := fun hv => by
          rw [c2, put_eta] at hv
          exact rec' _ A _ w (h.next (Nx.refl h.heap) .ud c3) hv
        have step : stepOp G P ro.op st (fun v L' => VCops G P rr K (put ⟨st.s, L'⟩ ro.dst v)) → o.wp P a w (wpOps P ops Q (List.range' (k + 1) l.length)) Q := fun hv => by
          refine stepOp_sound h hF c1 hv fun s L' v w' A' hk nx hrv => ?_
          rw [c2] at hk
          exact rec' _ A' _ w' (h.next nx hrv c3) hk
        rcases c4 with ⟨g1, g2⟩ | ⟨j, want, d, g1, g2, g3⟩
        · rw [g2] at hv
          have : Region.wanted o (yielded ops a.tmps) = true := by simp [Region.wanted, g1]
          rw [if_pos this]
          exact .inl (step hv)
        · rw [g3] at hv
          simp only at hv
          obtain ⟨s1, s2⟩ := guard_says (ops := ops) h g1 g2
          split at hv
          · rename_i hu
            rw [if_neg (by rw [s1 hu]; simp)]
            exact skip hv
          · rename_i t ht
            rw [s2 t ht]
            by_cases hw : t = want
            · rw [if_pos (by simpa using hw)]
              exact .inl (step (hv.1 hw))
            · rw [if_neg (by simpa using hw)]
              exact skip (hv.2 (by cases t <;> cases want <;> simp_all))
          · cases hv

/-! ### Regions whose order is open -/
theorem fr_trans0 {w w' w'' : World} (h : Fr w (fun _ => False) w') (k : Fr w' (fun _ => False) w'') : Fr w (fun _ => False) w'' :=
  ⟨k.os.trans h.os, k.tape.trans h.tape, k.output.trans h.output, Nat.le_trans h.size k.size, fun i hi hn => (k.block i (Nat.lt_of_lt_of_le hi h.size) hn).trans (h.block i hi hn)⟩

theorem opsD_sound {ops : Array Oper} {Q : Act → Prop} {K : St → Prop} {w : World} (hF : ∀ b, F b → b < w0.heap.size) (hK : ∀ st A a, R G F w0 L0 A0 nt st A a w → K st → Q a) :
    ∀ (l : List Oper) (rl : List ROper) (st : St) (A : Pls) (a : Act), l.mapM (cOper P ops nt) = some rl → (∀ o ∈ rl, (quietK o.op || (o.op matches .call ..)) = true) → R G F w0 L0 A0 nt st A a w → VCd G P rl K st → wpQuiet P ops (fun w' => Fr w (fun _ => False) w') Q l a
  | [], rl, st, A, a, hm, hq, h, hv => by
    simp at hm; subst hm
    exact hK st A a h hv
  | o :: l, rl, st, A, a, hm, hq, h, hv => by
    simp only [List.mapM_cons, Option.bind_eq_bind, Option.pure_def] at hm
    cases ho : cOper P ops nt o with
    | none => simp [ho] at hm
    | some ro =>
      cases hr : l.mapM (cOper P ops nt) with
      | none => simp [ho, hr] at hm
      | some rr =>
        simp only [ho, hr, Option.bind_some, Option.some.injEq] at hm
        subst hm
        obtain ⟨c1, c2, c3, c4⟩ := cOper_ok ho
        have hq0 := hq ro (by simp)
        have rec' : ∀ st A a, R G F w0 L0 A0 nt st A a w → VCd G P rr K st → wpQuiet P ops (fun w' => Fr w (fun _ => False) w') Q l a := fun st A a h hv => opsD_sound hF hK l rr st A a hr (fun o ho => hq o (by simp [ho])) h hv
        simp only [wpQuiet]
        simp only [VCd, stepDG] at hv
        have skip : VCd G P rr K (put st ro.dst .ud) → wpQuiet P ops (fun w' => Fr w (fun _ => False) w') Q l (a.put o.dst undef) := fun hv => by
          rw [c2, put_eta] at hv
          exact rec' _ A _ (h.next (Nx.refl h.heap) .ud c3) hv
        have step : stepD G P ro.op st (fun v => VCd G P rr K (put st ro.dst v)) → o.quiet P a (fun w' => Fr w (fun _ => False) w') (wpQuiet P ops (fun w' => Fr w (fun _ => False) w') Q l) := fun hv => by
          by_cases hqk : quietK ro.op = true
          · have hv' : match evalOp G st ro.op with | some (v, _) => VCd G P rr K (put st ro.dst v) | none => False := by
              generalize ro.op = r at hv hqk
              cases r <;> first | exact hv | (simp [quietK] at hqk; done)
            split at hv'
            · rename_i s L' he
              have hlk : looksK ro.op = true := by
                unfold looksK; split <;> first | rfl | exact hqk
              obtain rfl := quiet_same hlk he
              obtain ⟨v, h1, h2⟩ := op_looks h.opR h.heap h.glob c1 hlk he
              refine ⟨v, fun w' hw' => ?_, ?_⟩
              · unfold Oper.quietAt
                rw [h1 w' hw']
                exact ⟨rfl, rfl⟩
              · rw [c2] at hv'
                exact rec' _ A _ (h.next (Nx.refl h.heap) h2 c3) hv'
            · cases hv'
          · generalize hrop : ro.op = r at hv hqk c1 hq0
            cases r with
            | call f args =>
              obtain ⟨as, rs, hsn, hpl, hgood, hk⟩ := hv
              generalize hop : o.op = op at c1
              cases op with
              | call c =>
                simp only [cOp, cCall] at c1
                split at c1
                · rename_i f' hcal
                  split at c1
                  · rename_i hf
                    simp only [Option.map_eq_some_iff] at c1
                    obtain ⟨ys, hy, heq⟩ := c1
                    obtain ⟨rfl, rfl⟩ := Rop.call.inj heq
                    have hrun : ∀ w', (execOp a.eval o).run P w' = .ok (.enter f' (c.args.toList.map a.eval).toArray) w' := fun w' => by
                      rw [run_call hop hcal (caps := #[]) rfl hf]
                      congr 2
                      apply Array.ext'
                      simp
                    have hcall : ∀ w', Fr w (fun _ => False) w' → Calls P f' (c.args.toList.map a.eval).toArray w' fun e w'' => ∃ v r, e = .returned v ∧ r = rs ∧ SRepV w'' F r v ∧ Fr w' (fun _ => False) w'' := fun w' hw' => by
                      have h' := h.world hw'
                      obtain ⟨e1, e2⟩ := opds_rep h'.opR hy
                      exact hgood w' F _ (h'.size0 hF) (h'.glob.less fun b hb => .inr hb) (snSL_rep h'.heap _ as _ hsn e1.symm e2)
                    obtain ⟨e, w1, fr, ⟨v, r, rfl, rfl, hrv, hfr⟩, _⟩ := hcall w (Fr.refl _ _) []
                    obtain ⟨p1, p2⟩ := plainR_uniq (w2 := w) (X2 := fun b => Owned A b ∨ F b) hrv hpl
                    refine ⟨v, fun w' hw' => ?_, ?_⟩
                    · unfold Oper.quietAt
                      rw [hrun]
                      refine ⟨rfl, (hcall w' hw').mono ?_⟩
                      rintro e w'' ⟨v', r', rfl, rfl, hrv', hfr'⟩
                      exact ⟨by rw [p2 hrv'], fr_trans0 hw' hfr'⟩
                    · rw [c2] at hk
                      exact rec' _ A _ (h.next (Nx.refl h.heap) p1.rep c3) hk
                  · cases c1
                · split at c1
                  · cases c1
                  · cases c1
                · cases c1
                · split at c1
                  · split at c1
                    · simp only [Option.map_eq_some_iff] at c1; obtain ⟨y, hy, heq⟩ := c1; cases heq
                    · simp only [Option.map_eq_some_iff] at c1; obtain ⟨y, hy, heq⟩ := c1; cases heq
                    · cases c1
                    · simp only [Option.map_eq_some_iff] at c1; obtain ⟨y, hy, heq⟩ := c1; cases heq
                    · cases c1
                  · split at c1
                    · split at c1
                      · cases c1
                      · cases c1
                    · cases c1
                  · split at c1
                    · split at c1
                      · obtain ⟨_, c1⟩ := Option.ite_none_right_eq_some.1 c1
                        cases c1
                      · cases c1
                    · cases c1
                  · simp only [Option.map_eq_some_iff] at c1; obtain ⟨y, hy, heq⟩ := c1; cases heq
                  · simp only [Option.map_eq_some_iff] at c1; obtain ⟨y, hy, heq⟩ := c1; cases heq
                  · cases c1
              | makeMap t r =>
                cases r with
                | some r => simp [cOp] at c1
                | none =>
                  simp only [cOp] at c1
                  repeat' (first | (cases c1; done) | split at c1)
              | next x b =>
                cases b with
                | true => simp [cOp] at c1
                | false => simp only [cOp, Option.map_eq_some_iff] at c1; obtain ⟨_, _, heq⟩ := c1; cases heq
              | slice t x lo hi m =>
                cases m with
                | some m =>
                  simp only [cOp] at c1
                  repeat' (first | (cases c1; done) | split at c1)
                | none =>
                  simp only [cOp] at c1
                  repeat' (first | (cases c1; done) | split at c1)
              | _ =>
                simp only [cOp] at c1
                repeat' (first | (cases c1; done) | (simp only [Option.map_eq_some_iff] at c1; obtain ⟨_, _, heq⟩ := c1; cases heq; done) | split at c1)
            | _ => simp [quietK] at hq0 hqk
        rcases c4 with ⟨g1, g2⟩ | ⟨j, want, d, g1, g2, g3⟩
        · rw [g2] at hv
          have : Region.wanted o (yielded ops a.tmps) = true := by simp [Region.wanted, g1]
          rw [if_pos this]
          exact step hv
        · rw [g3] at hv
          simp only at hv
          obtain ⟨s1, s2⟩ := guard_says (ops := ops) h g1 g2
          split at hv
          · rename_i hu
            rw [if_neg (by rw [s1 hu]; simp)]
            exact skip hv
          · rename_i t ht
            rw [s2 t ht]
            by_cases hw : t = want
            · rw [if_pos (by simpa using hw)]
              exact step (hv.1 hw)
            · rw [if_neg (by simpa using hw)]
              exact skip (hv.2 (by cases t <;> cases want <;> simp_all))
          · cases hv
end
end Go.LH

namespace Go.LH
open Go
set_option linter.unusedSimpArgs false
set_option linter.unusedVariables false

theorem mem_ins {x i : Nat} : ∀ {l : List Nat}, i ∈ ins x l → i = x ∨ i ∈ l
  | [], h => by simp [ins] at h; exact .inl h
  | y :: r, h => by
    simp only [ins] at h
    split at h
    · exact .inr h
    · split at h
      · rcases List.mem_cons.1 h with h | h
        · exact .inl h
        · exact .inr h
      · rcases List.mem_cons.1 h with h | h
        · exact .inr (by simp [h])
        · rcases mem_ins h with h | h
          · exact .inl h
          · exact .inr (by simp [h])
theorem mem_uni {i : Nat} : ∀ {a b : List Nat}, i ∈ uni a b → i ∈ a ∨ i ∈ b
  | [], b, h => .inr h
  | x :: r, b, h => by
    simp only [uni, List.foldl_cons] at h
    rcases mem_uni (a := r) (b := ins x b) h with h | h
    · exact .inl (by simp [h])
    · rcases mem_ins h with h | h
      · exact .inl (by simp [h])
      · exact .inr h

/-- What has come, with all that it waits for. -/
def Down (ops : Array Oper) (S : Nat → Prop) : Prop := ∀ j, S j → ∀ i ∈ edgesOf ops j, S i
def Dep (ops : Array Oper) (i j : Nat) : Prop := ∀ S, Down ops S → S j → S i
def TabOK (ops : Array Oper) (tab : List (Nat × List Nat)) : Prop := ∀ i j, i ∈ ancOf tab j → Dep ops i j

theorem mem_fold {tab : List (Nat × List Nat)} {i : Nat} : ∀ {es acc : List Nat}, i ∈ es.foldl (fun l i => uni (ancOf tab i) l) acc → i ∈ acc ∨ ∃ k ∈ es, i ∈ ancOf tab k
  | [], acc, h => .inl h
  | k :: r, acc, h => by
    simp only [List.foldl_cons] at h
    rcases mem_fold h with h | ⟨k', hk, h⟩
    · rcases mem_uni h with h | h
      · exact .inr ⟨k, by simp, h⟩
      · exact .inl h
    · exact .inr ⟨k', by simp [hk], h⟩

theorem tab_next {ops : Array Oper} {tab : List (Nat × List Nat)} {j : Nat} (h : TabOK ops tab) : TabOK ops ((j, (edgesOf ops j).foldl (fun l i => uni (ancOf tab i) l) (uni (edgesOf ops j) [])) :: tab) := by
  intro i k hi S hS hk
  simp only [ancOf] at hi
  split at hi
  · rename_i hc
    obtain rfl : k = j := by simpa using hc
    rcases mem_fold hi with hi | ⟨k', hk', hi⟩
    · rcases mem_uni hi with hi | hi
      · exact hS k hk i hi
      · simp at hi
    · exact h i k' hi S hS (hS k hk k' hk')
  · exact h i k hi S hS hk

section
variable {P : Program} {w0 : World} {F : Nat → Prop} {L0 : List Entry} {A0 : Pls} {nt : Nat} {G : GEnv}

/-! ### Only what is read counts -/
theorem opd_congr {s s' : Slots} {L : List Entry} {y : Opd} (h : ∀ x ∈ oUses y, sget s x = sget s' x) : (St.mk s L).opd y = (St.mk s' L).opd y := by
  cases y with
  | t i => exact h i (by simp [oUses])
  | k x => rfl

theorem map_opd {s s' : Slots} {L : List Entry} {l : List Opd} (h : ∀ x ∈ l.flatMap oUses, sget s x = sget s' x) : l.map (St.mk s L).opd = l.map (St.mk s' L).opd :=
  List.map_congr_left fun y hy => opd_congr fun x hx => h x (List.mem_flatMap.2 ⟨y, hy, hx⟩)

theorem bound_congr {s s' : Slots} {L : List Entry} {d : Nat} {x : Option Opd} (h : ∀ y ∈ x.toList.flatMap oUses, sget s y = sget s' y) : boundC (St.mk s L) d x = boundC (St.mk s' L) d x := by
  cases x with
  | none => rfl
  | some y => simp only [boundC]; rw [opd_congr (s := s) (s' := s') fun x hx => h x (by simpa using hx)]

theorem eval_congr {s s' : Slots} {L : List Entry} {r : Rop} (h : ∀ x ∈ rUses r, sget s x = sget s' x) : evalOp G ⟨s, L⟩ r = evalOp G ⟨s', L⟩ r := by
  cases r with
  | build z ps =>
    have : ps.map (fun p => (p.1, p.2.1, (St.mk s L).opd p.2.2)) = ps.map (fun p => (p.1, p.2.1, (St.mk s' L).opd p.2.2)) :=
      List.map_congr_left fun p hp => by rw [opd_congr fun x hx => h x (List.mem_flatMap.2 ⟨p, hp, hx⟩)]
    simp only [evalOp, this]
  | bslice e wd n z ps =>
    have : ps.map (fun p => (St.mk s L).opd p.2) = ps.map (fun p => (St.mk s' L).opd p.2) :=
      List.map_congr_left fun p hp => opd_congr fun x hx => h x (List.mem_flatMap.2 ⟨p, hp, hx⟩)
    simp only [evalOp, this]
  | mkfn f caps => simp only [evalOp]; rw [map_opd h]
  | maxmin mx xs => simp only [evalOp]; rw [map_opd h]
  | slice wd x lo hi =>
    simp only [evalOp]
    rw [opd_congr (s := s) (s' := s') (y := x) fun y hy => h y (by simp [rUses, hy])]
    simp only [bound_congr (s := s) (s' := s') (x := lo) fun y hy => h y (by simp only [rUses, List.mem_append]; exact .inl (.inr hy)), bound_congr (s := s) (s' := s') (x := hi) fun y hy => h y (by simp only [rUses, List.mem_append]; exact .inr hy)]
  | sliceS x lo hi =>
    simp only [evalOp]
    rw [opd_congr (s := s) (s' := s') (y := x) fun y hy => h y (by simp [rUses, hy])]
    simp only [bound_congr (s := s) (s' := s') (x := lo) fun y hy => h y (by simp only [rUses, List.mem_append]; exact .inl (.inr hy)), bound_congr (s := s) (s' := s') (x := hi) fun y hy => h y (by simp only [rUses, List.mem_append]; exact .inr hy)]
  | sliceA n x lo hi =>
    simp only [evalOp]
    rw [opd_congr (s := s) (s' := s') (y := x) fun y hy => h y (by simp [rUses, hy])]
    simp only [bound_congr (s := s) (s' := s') (x := lo) fun y hy => h y (by simp only [rUses, List.mem_append]; exact .inl (.inr hy)), bound_congr (s := s) (s' := s') (x := hi) fun y hy => h y (by simp only [rUses, List.mem_append]; exact .inr hy)]
  | slice3 wd x lo hi m =>
    simp only [evalOp]
    rw [opd_congr (s := s) (s' := s') (y := x) fun y hy => h y (by simp [rUses, hy]), opd_congr (s := s) (s' := s') (y := m) fun y hy => h y (by simp [rUses, hy])]
    simp only [bound_congr (s := s) (s' := s') (x := lo) fun y hy => h y (by simp only [rUses, List.mem_append]; exact .inl (.inl (.inr hy))), bound_congr (s := s) (s' := s') (x := hi) fun y hy => h y (by simp only [rUses, List.mem_append]; exact .inl (.inr hy))]
  | mset k x y v =>
    simp only [evalOp]
    rw [opd_congr (s := s) (s' := s') (y := x) fun z hz => h z (by simp [rUses, hz]), opd_congr (s := s) (s' := s') (y := y) fun z hz => h z (by simp [rUses, hz]), opd_congr (s := s) (s' := s') (y := v) fun z hz => h z (by simp [rUses, hz])]
  | mest x y v =>
    simp only [evalOp]
    rw [opd_congr (s := s) (s' := s') (y := x) fun z hz => h z (by simp [rUses, hz]), opd_congr (s := s) (s' := s') (y := y) fun z hz => h z (by simp [rUses, hz]), opd_congr (s := s) (s' := s') (y := v) fun z hz => h z (by simp [rUses, hz])]
  | mkmap => rfl
  | next _ => rfl
  | pick c a b =>
    simp only [evalOp]
    rw [opd_congr (s := s) (s' := s') (y := c) fun y hy => h y (by simp [rUses, hy]), opd_congr (s := s) (s' := s') (y := a) fun y hy => h y (by simp [rUses, hy]), opd_congr (s := s) (s' := s') (y := b) fun y hy => h y (by simp [rUses, hy])]
  | alloc _ _ _ => rfl
  | lenA _ => rfl
  | cpy _ _ _ => rfl
  | call _ _ => rfl
  | callv _ _ => rfl
  | store n x y | bin op x y | eqB g x y | eq g k x y | mksl e wd b z x y | iaddr wd x y | iaddrA n wd x y | idxA g n wd x y | idxS x y | app e wd b x y | mget k ok z x y | ment k z x y | mdel k x y =>
    simp only [evalOp]
    rw [opd_congr (s := s) (s' := s') (y := x) fun z hz => h z (by simp [rUses, hz]), opd_congr (s := s) (s' := s') (y := y) fun z hz => h z (by simp [rUses, hz])]
  | mv x | box e n x | load g n x | nilchk x | un op x | convI k x | convSame x | bytesToStr x | strToBytes e x | mkif t x | faddr n x | field g n m x | tas t ok z x | extr x i | len x | lenS x | isnil k g x | lenM x | range x | entry x =>
    simp only [evalOp]
    rw [opd_congr (s := s) (s' := s') (y := x) fun z hz => h z (by simpa [rUses] using hz)]

theorem stepOp_congr {s s' : Slots} {L : List Entry} {r : Rop} {K : Sv → List Entry → Prop} (h : ∀ x ∈ rUses r, sget s x = sget s' x) (hs : stepOp G P r ⟨s, L⟩ K) : stepOp G P r ⟨s', L⟩ K := by
  by_cases hc : callK r = true
  · cases r with
    | call f args => simp only [stepOp] at hs ⊢; rw [← map_opd h]; exact hs
    | callv x args =>
      simp only [stepOp] at hs ⊢
      rw [← map_opd (l := args) fun y hy => h y (by simp only [rUses, List.mem_append]; exact .inr hy), ← opd_congr (y := x) fun y hy => h y (by simp [rUses, hy])]
      exact hs
    | cpy wd x y => exact hs
    | next x => simp only [stepOp] at hs ⊢; rw [← opd_congr (y := x) fun y hy => h y (by simpa [rUses] using hy)]; exact hs
    | _ => simp [callK] at hc
  · have := eval_congr (G := G) (L := L) h
    cases r <;> first | (simp [callK] at hc; done) | (simp only [stepOp] at hs ⊢; rw [← this]; exact hs)

theorem stepOp_mono {st : St} {r : Rop} {K K' : Sv → List Entry → Prop} (hk : ∀ v L, K v L → K' v L) (hs : stepOp G P r st K) : stepOp G P r st K' := by
  have hcall : ∀ (f : FuncId) (args : List Sv), callR G P f args st.L K → callR G P f args st.L K' := by
    intro f args h
    rcases h with ⟨as, L1, Post, h1, h2, h3⟩ | ⟨as, Post, h1, h2, h3⟩ | ⟨as, ks, Lc, Post, h1, h2, h3⟩
    · exact .inl ⟨as, L1, Post, h1, h2, fun r hr => hk _ _ (h3 r hr)⟩
    · exact .inr (.inl ⟨as, Post, h1, h2, fun r hr => ⟨(h3 r hr).1, hk _ _ (h3 r hr).2⟩⟩)
    · exact .inr (.inr ⟨as, ks, Lc, Post, h1, h2, fun r L hr => hk _ _ (h3 r L hr)⟩)
  by_cases hc : callK r = true
  · cases r with
    | call f args => exact hcall _ _ hs
    | callv x args =>
      simp only [stepOp] at hs ⊢
      split at hs
      · exact ⟨hs.1, hcall _ _ hs.2⟩
      · exact hs
    | cpy wd x y => simp only [stepOp, evalOp] at hs
    | next x =>
      simp only [stepOp, stepNext] at hs ⊢
      split at hs
      · split at hs
        · exact ⟨hs.1, fun i g k cs b v h1 h2 h3 => hk _ _ (hs.2.1 i g k cs b v h1 h2 h3), fun h1 => hk _ _ (hs.2.2 h1)⟩
        · exact hs
      · exact hs
    | _ => simp [callK] at hc
  · have : (match evalOp G st r with | some (v, L') => K v L' | none => False) → (match evalOp G st r with | some (v, L') => K' v L' | none => False) := by
      intro h
      split at h
      · exact hk _ _ h
      · exact h
    cases r <;> first | (simp [callK] at hc; done) | exact this hs

/-- What looking comes to. -/
def quietIs (G : GEnv) (o : ROper) (st : St) (v : Sv) : Prop :=
  match o.guard with
  | none => ∃ L', evalOp G st o.op = some (v, L')
  | some (d, want) => (sget st.s d = .ud ∧ v = .ud) ∨ ∃ t, sget st.s d = .c (.val (.bool t)) ∧ ((t = want ∧ ∃ L', evalOp G st o.op = some (v, L')) ∨ (t = !want ∧ v = .ud))

theorem stepQ_is {o : ROper} {st : St} {K : Sv → Prop} (h : stepQ G o st K) : ∃ v, quietIs G o st v ∧ K v := by
  unfold stepQ at h
  unfold quietIs
  split at h
  · rename_i hg
    simp only [hg]
    split at h
    · rename_i v L' he
      exact ⟨v, ⟨L', he⟩, h⟩
    · cases h
  · rename_i d want hg
    simp only [hg]
    split at h
    · rename_i hu
      exact ⟨.ud, .inl ⟨hu, rfl⟩, h⟩
    · rename_i t ht
      by_cases hw : t = want
      · have := h.1 hw
        split at this
        · rename_i v L' he
          exact ⟨v, .inr ⟨t, ht, .inl ⟨hw, L', he⟩⟩, this⟩
        · cases this
      · have hw' : t = !want := by cases t <;> cases want <;> simp_all
        exact ⟨.ud, .inr ⟨t, ht, .inr ⟨hw', rfl⟩⟩, h.2 hw'⟩
    · cases h

theorem quiet_congr {o : ROper} {s s' : Slots} {L : List Entry} {v : Sv} (h : ∀ x ∈ oUse o, sget s x = sget s' x) (hq : quietIs G o ⟨s, L⟩ v) : quietIs G o ⟨s', L⟩ v := by
  have he := eval_congr (G := G) (L := L) (r := o.op) fun x hx => h x (by simp [oUse, hx])
  unfold quietIs at *
  split at hq
  · rename_i hg
    simp only [hg] at *
    rw [← he]; exact hq
  · rename_i d want hg
    have hd : d ∈ oUse o := by unfold oUse; rw [hg]; simp
    have := h d hd
    simp only [hg] at *
    rw [← he, ← this]; exact hq

/-! ### Who wrote a slot -/
def wrOf (s0 : Slots) (vals : Nat → Sv) (S : Nat → Bool) : List XO → Nat → Sv
  | [], x => sget s0 x
  | k :: r, x => if k.o.dst = some x ∧ S k.i = true then vals k.i else wrOf s0 vals S r x
def updV (vals : Nat → Sv) (i : Nat) (v : Sv) : Nat → Sv := fun k => if k = i then v else vals k

theorem wr_vals {s0 : Slots} {vals : Nat → Sv} {S : Nat → Bool} {i : Nat} {v : Sv} {x : Nat} : ∀ {l : List XO}, (∀ k ∈ l, k.i ≠ i) → wrOf s0 (updV vals i v) S l x = wrOf s0 vals S l x
  | [], h => rfl
  | k :: r, h => by
    simp only [wrOf]
    rw [wr_vals fun k hk => h k (by simp [hk])]
    have : updV vals i v k.i = vals k.i := by simp [updV, h k (by simp)]
    rw [this]

/-- One more has come. -/
theorem wr_list {s0 : Slots} {vals : Nat → Sv} {S S' : Nat → Bool} {y : XO} {x : Nat} : ∀ {l : List XO}, (∀ k ∈ l, k.i ≠ y.i → S' k.i = S k.i) → S' y.i = true → S y.i = false → y ∈ l → (∀ k ∈ l, k.i = y.i → k = y) → (∀ k ∈ l, k.i ≠ y.i → k.o.dst = some x → y.o.dst ≠ some x) →
    wrOf s0 vals S' l x = if y.o.dst = some x then vals y.i else wrOf s0 vals S l x
  | [], h1, h2, h3, hy, h4, h5 => by simp at hy
  | k :: r, h1, h2, h3, hy, h4, h5 => by
    simp only [wrOf]
    by_cases hk : k.i = y.i
    · have hky := h4 k (by simp) hk
      subst hky
      by_cases hd : k.o.dst = some x
      · rw [if_pos ⟨hd, h2⟩, if_pos hd]
      · rw [if_neg (fun h => hd h.1), if_neg hd, if_neg (fun h => hd h.1)]
        by_cases hr : k ∈ r
        · rw [wr_list (fun j hj => h1 j (by simp [hj])) h2 h3 hr (fun j hj => h4 j (by simp [hj])) (fun j hj => h5 j (by simp [hj])), if_neg hd]
        · have : ∀ l : List XO, (∀ j ∈ l, j.i = k.i → False) → (∀ j ∈ l, S' j.i = S j.i) → wrOf s0 vals S' l x = wrOf s0 vals S l x := by
            intro l
            induction l with
            | nil => intro _ _; rfl
            | cons j l ih =>
              intro g1 g2
              simp only [wrOf]
              rw [g2 j (by simp), ih (fun j hj => g1 j (by simp [hj])) (fun j hj => g2 j (by simp [hj]))]
          refine this r (fun j hj hi => hr (by have := h4 j (by simp [hj]) hi; rwa [this] at hj)) fun j hj => h1 j (by simp [hj]) fun hi => hr (by have := h4 j (by simp [hj]) hi; rwa [this] at hj)
    · have hyr : y ∈ r := by
        rcases List.mem_cons.1 hy with h | h
        · exact absurd (by rw [h]) hk
        · exact h
      have ih := wr_list (s0 := s0) (vals := vals) (x := x) (fun j hj => h1 j (by simp [hj])) h2 h3 hyr (fun j hj => h4 j (by simp [hj])) (fun j hj => h5 j (by simp [hj]))
      rw [ih, h1 k (by simp) hk]
      by_cases hd : k.o.dst = some x ∧ S k.i = true
      · rw [if_pos hd, if_pos hd, if_neg (h5 k (by simp) hk hd.1)]
      · rw [if_neg hd, if_neg hd]

/-- Slots that no unordered one writes read the same. -/
theorem wr_same {s0 : Slots} {vals : Nat → Sv} {S S' : Nat → Bool} {x : Nat} : ∀ {l : List XO}, (∀ k ∈ l, k.o.dst = some x → S k.i = S' k.i) → wrOf s0 vals S l x = wrOf s0 vals S' l x
  | [], h => rfl
  | k :: r, h => by
    simp only [wrOf]
    rw [wr_same fun j hj => h j (by simp [hj])]
    by_cases hd : k.o.dst = some x
    · rw [h k (by simp) hd]
    · rw [if_neg fun h => hd h.1, if_neg fun h => hd h.1]
theorem wr_app {s0 : Slots} {vals : Nat → Sv} {S : Nat → Bool} {x : Nat} : ∀ {l l' : List XO}, (∀ k ∈ l, k.o.dst = some x → S k.i = false) → wrOf s0 vals S (l ++ l') x = wrOf s0 vals S l' x
  | [], l', h => rfl
  | k :: r, l', h => by
    simp only [List.cons_append, wrOf]
    rw [wr_app fun j hj => h j (by simp [hj])]
    rw [if_neg fun hh => by have := h k (by simp) hh.1; rw [this] at hh; cases hh.2]
end
end Go.LH

namespace Go.LH
open Go
set_option linter.unusedSimpArgs false
set_option linter.unusedVariables false

section
variable {P : Program} {w0 : World} {F : Nat → Prop} {L0 : List Entry} {A0 : Pls} {nt : Nat} {G : GEnv} {ops : Array Oper}

variable (P nt ops) in
def Known (y : XO) : Prop := ∃ o, ops[y.i]? = some o ∧ cOper P ops nt o = some y.o
variable (ops) in
def Pair (x y : XO) : Prop := distinctB x.o y.o = true ∧ (Dep ops x.i y.i ∨ (x.main = false ∧ apartB x.o y.o = true))
variable (P nt ops) in
def Chain : List XO → Prop
  | [] => True
  | y :: r => ((∀ j ∈ edgesOf ops y.i, ∃ x ∈ r, x.i = j) ∧ (∀ x ∈ r, x.i ≠ y.i) ∧ Known P nt ops y ∧ y.main = !looksK y.o.op ∧ ∀ x ∈ r, Pair ops x y) ∧ Chain r
variable (G) in
def Wait (s0 : Slots) (vals : Nat → Sv) (L : List Entry) (e : Nat) (pend : List (Nat × Slots × ROper × Sv)) (S : Nat → Bool) : List XO → Prop
  | [] => True
  | y :: r => (y.main = false → S y.i = false → e ≤ y.hi ∧ ∃ s, quietIs G y.o ⟨s, L⟩ (vals y.i) ∧ (∀ x, sget s x = wrOf s0 vals (fun _ => true) r x) ∧ (e < y.hi → (y.hi, s, y.o, vals y.i) ∈ pend)) ∧ Wait s0 vals L e pend S r

def vcl (l : List XO) : List (ROper × Bool × Nat) := l.map fun x => (x.o, x.main, x.hi)

theorem distinct_iff {x y : ROper} : distinctB x y = true ↔ ∀ d, x.dst = some d → y.dst ≠ some d := by
  unfold distinctB
  cases hx : x.dst with
  | none => simp
  | some d => simp
theorem apart_use {x y : ROper} (h : apartB x y = true) : (∀ d, x.dst = some d → d ∉ oUse y) ∧ ∀ d, y.dst = some d → d ∉ oUse x := by
  unfold apartB at h
  simp only [Bool.and_eq_true] at h
  refine ⟨fun d hd => ?_, fun d hd => ?_⟩
  · have := h.1; rw [hd] at this; simpa using this
  · have := h.2; rw [hd] at this; simpa using this

theorem pair_ok {tab : List (Nat × List Nat)} {e : Nat} {x y : XO} (ht : TabOK ops tab) (h : pairB tab e x y = true) : Pair ops x y ∧ (y.main = true → Dep ops x.i y.i ∨ e ≤ x.hi) := by
  unfold pairB at h
  simp only [Bool.and_eq_true, Bool.or_eq_true, Bool.not_eq_true', Nat.ble_eq] at h
  obtain ⟨h1, h2⟩ := h
  rcases h2 with h2 | ⟨⟨h2, h3⟩, h4⟩
  · have := ht x.i y.i (by simpa using h2)
    exact ⟨⟨h1, .inl this⟩, fun _ => .inl this⟩
  · refine ⟨⟨h1, .inr ⟨h2, h3⟩⟩, fun hm => .inr ?_⟩
    rcases h4 with h4 | h4
    · rw [hm] at h4; cases h4
    · exact h4

/-- What the check says of the next one. -/
theorem ok_next {tab : List (Nat × List Nat)} {done r : List XO} {e : Nat} {y : XO} (ht : TabOK ops tab) (h : okO ops tab done e (y :: r) = true) :
    (∀ j ∈ edgesOf ops y.i, ∃ x ∈ done, x.i = j) ∧ (∀ x ∈ done, x.i ≠ y.i) ∧ y.main = !looksK y.o.op ∧ (y.main = false → e ≤ y.hi) ∧ (∀ x ∈ done, Pair ops x y ∧ (y.main = true → Dep ops x.i y.i ∨ e + 1 ≤ x.hi)) ∧
      ∃ tab', TabOK ops tab' ∧ okO ops tab' (y :: done) (if y.main then e + 1 else e) r = true := by
  simp only [okO, Bool.and_eq_true] at h
  obtain ⟨⟨⟨⟨⟨⟨h1, h2⟩, h3⟩, h4⟩, h5⟩, h6⟩, h7⟩ := h
  have ht' := tab_next (j := y.i) ht
  refine ⟨fun j hj => ?_, fun x hx hxi => ?_, by simpa using h4, fun hm => ?_, fun x hx => ?_, _, ht', h7⟩
  · have := (List.all_eq_true.1 h1) j hj
    simpa using this
  · simp only [Bool.not_eq_true', List.any_eq_false] at h2
    exact h2 x hx (by simpa using hxi)
  · rw [hm] at h5; simpa using h5
  · have := (List.all_eq_true.1 h6) x hx
    exact pair_ok ht' this

theorem ok_far : ∀ {rest : List XO} {tab : List (Nat × List Nat)} {done : List XO} {e : Nat}, TabOK ops tab → okO ops tab done e rest = true → ∀ k ∈ rest, ∀ x ∈ done, x.i ≠ k.i
  | [], tab, done, e, ht, h, k, hk, x, hx => by simp at hk
  | y :: r, tab, done, e, ht, h, k, hk, x, hx => by
    obtain ⟨h1, h2, h3, h4, h5, tab', ht', h6⟩ := ok_next ht h
    rcases List.mem_cons.1 hk with rfl | hk
    · exact h2 x hx
    · exact ok_far ht' h6 k hk x (by simp [hx])

theorem ok_main : ∀ {rest : List XO} {tab : List (Nat × List Nat)} {done : List XO} {e : Nat}, TabOK ops tab → okO ops tab done e rest = true → ∀ k ∈ rest, ∀ x ∈ done, x.main = true → Dep ops x.i k.i
  | [], tab, done, e, ht, h, k, hk, x, hx, hm => by simp at hk
  | y :: r, tab, done, e, ht, h, k, hk, x, hx, hm => by
    obtain ⟨h1, h2, h3, h4, h5, tab', ht', h6⟩ := ok_next ht h
    rcases List.mem_cons.1 hk with rfl | hk
    · rcases (h5 x hx).1.2 with h | ⟨h, _⟩
      · exact h
      · rw [hm] at h; cases h
    · exact ok_main ht' h6 k hk x (by simp [hx]) hm

theorem chain_mem : ∀ {d : List XO} {x : XO}, Chain P nt ops d → x ∈ d → ∃ d2 d1, d = d2 ++ x :: d1 ∧ ((∀ j ∈ edgesOf ops x.i, ∃ y ∈ d1, y.i = j) ∧ (∀ y ∈ d1, y.i ≠ x.i) ∧ Known P nt ops x ∧ x.main = !looksK x.o.op ∧ ∀ y ∈ d1, Pair ops y x) ∧ ∀ k ∈ d2, k.i ≠ x.i ∧ Pair ops x k
  | [], x, h, hx => by simp at hx
  | y :: r, x, h, hx => by
    rcases List.mem_cons.1 hx with rfl | hx'
    · exact ⟨[], r, rfl, h.1, fun k hk => by simp at hk⟩
    · obtain ⟨d2, d1, hr, h1, h2⟩ := chain_mem h.2 hx'
      refine ⟨y :: d2, d1, by rw [hr]; rfl, h1, fun k hk => ?_⟩
      rcases List.mem_cons.1 hk with rfl | hk
      · exact ⟨fun h' => h.1.2.1 x hx' h'.symm, h.1.2.2.2.2 x hx'⟩
      · exact h2 k hk

theorem wait_mem {s0 : Slots} {vals : Nat → Sv} {L : List Entry} {e : Nat} {pend : List (Nat × Slots × ROper × Sv)} {S : Nat → Bool} : ∀ {d2 d1 : List XO} {x : XO}, Wait G s0 vals L e pend S (d2 ++ x :: d1) → x.main = false → S x.i = false → e ≤ x.hi ∧ ∃ s, quietIs G x.o ⟨s, L⟩ (vals x.i) ∧ (∀ z, sget s z = wrOf s0 vals (fun _ => true) d1 z) ∧ (e < x.hi → (x.hi, s, x.o, vals x.i) ∈ pend)
  | [], d1, x, h => h.1
  | y :: r, d1, x, h => wait_mem (d2 := r) h.2

/-- Made anew: other values elsewhere, another heap, more that has come. -/
theorem wait_turn {s0 : Slots} {vals vals' : Nat → Sv} {L L' : List Entry} {e e' : Nat} {pend pend' : List (Nat × Slots × ROper × Sv)} {S S' : Nat → Bool} :
    ∀ {d : List XO}, (∀ k ∈ d, vals' k.i = vals k.i) → (∀ k ∈ d, k.main = false → S' k.i = false → S k.i = false ∧ ∀ s, e ≤ k.hi → (e < k.hi → (k.hi, s, k.o, vals k.i) ∈ pend) → quietIs G k.o ⟨s, L⟩ (vals k.i) → e' ≤ k.hi ∧ quietIs G k.o ⟨s, L'⟩ (vals k.i) ∧ (e' < k.hi → (k.hi, s, k.o, vals k.i) ∈ pend')) →
      Wait G s0 vals L e pend S d → Wait G s0 vals' L' e' pend' S' d
  | [], _, _, h => trivial
  | y :: r, hv, hs, h => by
    refine ⟨fun hm hS => ?_, wait_turn (fun k hk => hv k (by simp [hk])) (fun k hk => hs k (by simp [hk])) h.2⟩
    obtain ⟨g1, g2⟩ := hs y (by simp) hm hS
    obtain ⟨h1, s, h2, h3, h4⟩ := h.1 hm g1
    obtain ⟨k1, k2, k3⟩ := g2 s h1 h4 h2
    rw [hv y (by simp)]
    refine ⟨k1, s, k2, fun x => ?_, k3⟩
    rw [h3 x]
    have : ∀ l : List XO, (∀ k ∈ l, vals' k.i = vals k.i) → wrOf s0 vals (fun _ => true) l x = wrOf s0 vals' (fun _ => true) l x := by
      intro l
      induction l with
      | nil => intro _; rfl
      | cons k l ih =>
        intro hl
        simp only [wrOf]
        rw [hl k (by simp), ih fun k hk => hl k (by simp [hk])]
    exact this r fun k hk => hv k (by simp [hk])

theorem again_mem {e : Nat} {L : List Entry} {hi : Nat} {s : Slots} {o : ROper} {v : Sv} : ∀ {pend : List (Nat × Slots × ROper × Sv)}, again G e L pend → (hi, s, o, v) ∈ pend → e ≤ hi → quietIs G o ⟨s, L⟩ v
  | [], h, hm, he => by simp at hm
  | (hi', s', o', v') :: r, h, hm, he => by
    rcases List.mem_cons.1 hm with heq | hm
    · simp only [Prod.mk.injEq] at heq
      obtain ⟨rfl, rfl, rfl, rfl⟩ := heq
      have := h.1
      rw [if_pos (by simpa using he)] at this
      obtain ⟨v', h1, rfl⟩ := stepQ_is this
      exact h1
    · exact again_mem h.2 hm he

variable (P w0 F L0 A0 nt G ops) in
/-- In whatever order it has come so far. -/
def InvO (K : St → Prop) (s0 : Slots) (S : Nat → Bool) (a : Act) (w : World) : Prop :=
  ∃ (done rest : List XO) (tab : List (Nat × List Nat)) (vals : Nat → Sv) (e : Nat) (pend : List (Nat × Slots × ROper × Sv)) (L : List Entry) (sp sS : Slots) (A : Pls),
    okO ops tab done e rest = true ∧ TabOK ops tab ∧ Chain P nt ops done ∧ (∀ x ∈ rest, Known P nt ops x) ∧ VCo G P (vcl rest) e pend K ⟨sp, L⟩ ∧ (∀ x, sget sp x = wrOf s0 vals (fun _ => true) done x) ∧
    (∀ y r, rest = y :: r → y.main = true) ∧ (∀ k ∈ done, k.main = true → S k.i = true) ∧ (∀ k ∈ rest, S k.i = false) ∧ Wait G s0 vals L e pend S done ∧
    R G F w0 L0 A0 nt ⟨sS, L⟩ A a w ∧ (∀ x, sget sS x = wrOf s0 vals S done x) ∧ Down ops (fun i => S i = true) ∧ ∀ i, i < ops.size → ∃ x, (x ∈ done ∨ x ∈ rest) ∧ x.i = i

theorem sget_put {s : Slots} {L : List Entry} {dst : Option Nat} {v : Sv} {x : Nat} : sget (put ⟨s, L⟩ dst v).s x = if dst = some x then v else sget s x := by
  cases dst with
  | none => simp [put]
  | some d =>
    simp only [put, sget_sset, Option.some.injEq]
    by_cases h : x = d
    · rw [if_pos h, if_pos h.symm]
    · rw [if_neg h, if_neg fun hh => h hh.symm]
theorem put_L {s : Slots} {L : List Entry} {dst : Option Nat} {v : Sv} : (put ⟨s, L⟩ dst v).L = L := by cases dst <;> rfl
theorem put_split {s : Slots} {L : List Entry} {dst : Option Nat} {v : Sv} : put ⟨s, L⟩ dst v = ⟨(put ⟨s, L⟩ dst v).s, L⟩ := by cases dst <;> rfl

theorem advance {K : St → Prop} {s0 : Slots} {S : Nat → Bool} {a : Act} {w : World} : ∀ (rest done : List XO) (tab : List (Nat × List Nat)) (vals : Nat → Sv) (e : Nat) (pend : List (Nat × Slots × ROper × Sv)) (L : List Entry) (sp sS : Slots) (A : Pls),
    okO ops tab done e rest = true → TabOK ops tab → Chain P nt ops done → (∀ x ∈ rest, Known P nt ops x) → VCo G P (vcl rest) e pend K ⟨sp, L⟩ → (∀ x, sget sp x = wrOf s0 vals (fun _ => true) done x) →
    (∀ k ∈ done, k.main = true → S k.i = true) → (∀ k ∈ rest, S k.i = false) → Wait G s0 vals L e pend S done →
    R G F w0 L0 A0 nt ⟨sS, L⟩ A a w → (∀ x, sget sS x = wrOf s0 vals S done x) → Down ops (fun i => S i = true) → (∀ i, i < ops.size → ∃ x, (x ∈ done ∨ x ∈ rest) ∧ x.i = i) → InvO P w0 F L0 A0 nt G ops K s0 S a w
  | [], done, tab, vals, e, pend, L, sp, sS, A, h1, h2, h3, h4, h5, h6, h7, h8, h9, h10, h11, h12, h13 => ⟨done, [], tab, vals, e, pend, L, sp, sS, A, h1, h2, h3, h4, h5, h6, (fun y r h => by cases h), h7, h8, h9, h10, h11, h12, h13⟩
  | y :: r, done, tab, vals, e, pend, L, sp, sS, A, h1, h2, h3, h4, h5, h6, h7, h8, h9, h10, h11, h12, h13 => by
    by_cases hm : y.main = true
    · exact ⟨done, y :: r, tab, vals, e, pend, L, sp, sS, A, h1, h2, h3, h4, h5, h6, (fun y' r' h => by obtain ⟨rfl, rfl⟩ := List.cons.inj h; exact hm), h7, h8, h9, h10, h11, h12, h13⟩
    · have hm' : y.main = false := by simpa using hm
      obtain ⟨k1, k2, k3, k4, k5, tab', k6, k7⟩ := ok_next h2 h1
      simp only [vcl, List.map_cons, VCo, hm', Bool.false_eq_true, if_false] at h5
      obtain ⟨v, hq, h5⟩ := stepQ_is h5
      rw [hm'] at k7
      simp only [Bool.false_eq_true, if_false] at k7
      have hy : S y.i = false := h8 y (by simp)
      have hvk : ∀ k ∈ done, updV vals y.i v k.i = vals k.i := fun k hk => by simp [updV, k2 k hk]
      rw [put_split] at h5
      refine advance r (y :: done) tab' (updV vals y.i v) e _ L _ sS A k7 k6 ⟨⟨k1, k2, h4 y (by simp), k3, fun x hx => (k5 x hx).1⟩, h3⟩ (fun x hx => h4 x (by simp [hx])) h5 (fun x => ?_) (fun k hk hkm => ?_) (fun k hk => h8 k (by simp [hk])) ⟨fun _ _ => ⟨k4 hm', sp, ?_, fun x => ?_, fun hlt => ?_⟩, ?_⟩ h10 (fun x => ?_) h12 (fun i hi => ?_)
      · rw [sget_put]
        simp only [wrOf, and_true]
        by_cases hd : y.o.dst = some x
        · rw [if_pos hd, if_pos hd]; simp [updV]
        · rw [if_neg hd, if_neg hd, wr_vals k2, h6 x]
      · rcases List.mem_cons.1 hk with rfl | hk
        · rw [hm'] at hkm; cases hkm
        · exact h7 k hk hkm
      · have : updV vals y.i v y.i = v := by simp [updV]
        rw [this]; exact hq
      · rw [wr_vals k2, h6 x]
      · have : updV vals y.i v y.i = v := by simp [updV]
        rw [this, if_pos (by simpa using hlt)]
        simp
      · refine wait_turn (pend := pend) (S := S) hvk (fun k hk hkm hS => ⟨hS, fun s g1 g2 g3 => ⟨g1, g3, fun g4 => ?_⟩⟩) h9
        split
        · exact List.mem_cons_of_mem _ (g2 g4)
        · exact g2 g4
      · simp only [wrOf, hy, Bool.false_eq_true, and_false, if_false]
        rw [wr_vals k2, h11 x]
      · obtain ⟨x, hx, hxi⟩ := h13 i hi
        refine ⟨x, ?_, hxi⟩
        rcases hx with hx | hx
        · exact .inl (by simp [hx])
        · rcases List.mem_cons.1 hx with rfl | hx
          · exact .inl (by simp)
          · exact .inr hx

theorem edge_mem {j : Nat} {o : Oper} (ho : ops[j]? = some o) {i : Nat} : i ∈ edgesOf ops j ↔ ∃ e ∈ o.after, Region.binds .any e = true ∧ e.on = i := by
  simp only [edgesOf, ho, List.mem_map, List.mem_filter, Array.mem_toList_iff]
  constructor
  · rintro ⟨e, ⟨h1, h2⟩, h3⟩; exact ⟨e, h1, h2, h3⟩
  · rintro ⟨e, h1, h2, h3⟩; exact ⟨e, ⟨h1, h2⟩, h3⟩

/-- One that only looks is carried out, late or not. -/
theorem quiet_run {st : St} {A : Pls} {a : Act} {w : World} {o : Oper} {y : ROper} {v : Sv} {Q : Exit → Act → World → Prop} {next : Act → World → Prop} (h : R G F w0 L0 A0 nt st A a w) (hF : ∀ b, F b → b < w0.heap.size) (ho : cOper P ops nt o = some y) (hl : looksK y.op = true) (hq : quietIs G y st v)
    (hn : ∀ u, R G F w0 L0 A0 nt (put ⟨st.s, st.L⟩ y.dst v) A (a.put o.dst u) w → next (a.put o.dst u) w) : if Region.wanted o (yielded ops a.tmps) then o.wp P a w next Q else next (a.put o.dst undef) w := by
  obtain ⟨c1, c2, c3, c4⟩ := cOper_ok ho
  have run : (∃ L', evalOp G st y.op = some (v, L')) → o.wp P a w next Q := by
    rintro ⟨L', he⟩
    obtain rfl := quiet_same hl he
    obtain ⟨u, h1, h2⟩ := op_looks h.opR h.heap h.glob c1 hl he
    unfold Oper.wp
    rw [h1 w (Fr.refl _ _)]
    refine hn u ?_
    rw [c2]
    exact h.next (Nx.refl h.heap) h2 c3
  have skip : v = .ud → next (a.put o.dst undef) w := by
    rintro rfl
    refine hn undef ?_
    rw [c2]
    exact h.next (Nx.refl h.heap) .ud c3
  unfold quietIs at hq
  rcases c4 with ⟨g1, g2⟩ | ⟨j, want, d, g1, g2, g3⟩
  · rw [g2] at hq
    have : Region.wanted o (yielded ops a.tmps) = true := by simp [Region.wanted, g1]
    rw [if_pos this]
    exact run hq
  · rw [g3] at hq
    simp only at hq
    obtain ⟨s1, s2⟩ := guard_says (ops := ops) h g1 g2
    rcases hq with ⟨hu, hv⟩ | ⟨t, ht, hq⟩
    · rw [if_neg (by rw [s1 hu]; simp)]
      exact skip hv
    · rw [s2 t ht]
      rcases hq with ⟨hw, hq⟩ | ⟨hw, hv⟩
      · rw [if_pos (by simpa using hw)]
        exact run hq
      · subst hw
        rw [if_neg (by cases want <;> simp)]
        exact skip hv

theorem guard_use {y : ROper} {d : Nat} {want : Bool} (h : y.guard = some (d, want)) : d ∈ oUse y := by unfold oUse; rw [h]; simp

theorem main_run {s s' : Slots} {L : List Entry} {A : Pls} {a : Act} {w : World} {o : Oper} {y : ROper} {K : St → Prop} {Q : Exit → Act → World → Prop} {next : Act → World → Prop} (h : R G F w0 L0 A0 nt ⟨s', L⟩ A a w) (hF : ∀ b, F b → b < w0.heap.size) (ho : cOper P ops nt o = some y) (hs : ∀ x ∈ oUse y, sget s x = sget s' x)
    (hk : stepG G P y ⟨s, L⟩ K) (hn : ∀ v L' u A' w', K (put ⟨s, L'⟩ y.dst v) → R G F w0 L0 A0 nt (put ⟨s', L'⟩ y.dst v) A' (a.put o.dst u) w' → next (a.put o.dst u) w') : if Region.wanted o (yielded ops a.tmps) then o.wp P a w next Q else next (a.put o.dst undef) w := by
  obtain ⟨c1, c2, c3, c4⟩ := cOper_ok ho
  have step : stepOp G P y.op ⟨s, L⟩ (fun v L' => K (put ⟨s, L'⟩ y.dst v)) → o.wp P a w next Q := fun hv => by
    refine stepOp_sound h hF c1 (stepOp_congr (fun x hx => hs x (by simp [oUse, hx])) hv) fun v L' u w' A' hk nx hrv => ?_
    refine hn v L' u A' w' hk ?_
    rw [c2]
    exact h.next nx hrv c3
  have skip : K (put ⟨s, L⟩ y.dst .ud) → next (a.put o.dst undef) w := fun hv => by
    refine hn .ud L undef A w hv ?_
    rw [c2]
    exact h.next (Nx.refl h.heap) .ud c3
  unfold stepG at hk
  rcases c4 with ⟨g1, g2⟩ | ⟨j, want, d, g1, g2, g3⟩
  · rw [g2] at hk
    have : Region.wanted o (yielded ops a.tmps) = true := by simp [Region.wanted, g1]
    rw [if_pos this]
    exact step hk
  · rw [g3] at hk
    simp only at hk
    rw [hs d (guard_use g3)] at hk
    obtain ⟨s1, s2⟩ := guard_says (ops := ops) h g1 g2
    split at hk
    · rename_i hu
      rw [if_neg (by rw [s1 hu]; simp)]
      exact skip hk
    · rename_i t ht
      rw [s2 t ht]
      by_cases hw : t = want
      · rw [if_pos (by simpa using hw)]
        exact step (hk.1 hw)
      · rw [if_neg (by simpa using hw)]
        exact skip (hk.2 (by cases t <;> cases want <;> simp_all))
    · cases hk

theorem inv_step {K : St → Prop} {s0 : Slots} {S : Nat → Bool} {a : Act} {w : World} {i : Nat} {o : Oper} {Q : Exit → Act → World → Prop} (hF : ∀ b, F b → b < w0.heap.size) (h : InvO P w0 F L0 A0 nt G ops K s0 S a w) (ho : ops[i]? = some o) (hS : S i = false) (hr : ∀ j ∈ edgesOf ops i, S j = true) :
    if Region.wanted o (yielded ops a.tmps) then o.wp P a w (fun a w => InvO P w0 F L0 A0 nt G ops K s0 (fun k => if k = i then true else S k) a w) Q else InvO P w0 F L0 A0 nt G ops K s0 (fun k => if k = i then true else S k) (a.put o.dst undef) w := by
  obtain ⟨done, rest, tab, vals, e, pend, L, sp, sS, A, h1, h2, h3, h4, h5, h6, hhead, h7, h8, h9, h10, h11, h12, h13⟩ := h
  have hdown : Down ops (fun k => (if k = i then true else S k) = true) := by
    intro j hj k hk
    by_cases hji : j = i
    · subst hji
      by_cases hkj : k = j
      · simp [hkj]
      · simp only [hkj, if_false]; exact hr k hk
    · simp only [hji, if_false] at hj
      have := h12 j hj k hk
      by_cases hki : k = i
      · simp [hki]
      · simp only [hki, if_false]; exact this
  have hi : i < ops.size := (Array.getElem?_eq_some_iff.1 ho).1
  obtain ⟨x, hx, hxi⟩ := h13 i hi
  subst hxi
  have depS : ∀ k, Dep ops k x.i → k ≠ x.i → S k = true := fun k hd hk => by
    have := hd _ hdown (by simp)
    simpa [hk] using this
  rcases hx with hx | hx
  · -- it only looks
    have hq0 : x.main = false := by
      cases hm : x.main with
      | false => rfl
      | true => have := h7 x hx hm; rw [hS] at this; cases this
    obtain ⟨d2, d1, hd, ⟨g1, g2, ⟨o', ho', hco⟩, g4, g5⟩, g6⟩ := chain_mem h3 hx
    obtain rfl : o = o' := by rw [ho] at ho'; exact Option.some.inj ho'
    have hl : looksK x.o.op = true := by rw [hq0] at g4; simpa using g4
    rw [hd] at h9
    obtain ⟨k1, s, k2, k3, k4⟩ := wait_mem h9 hq0 hS
    rw [← hd] at h9
    have hsame : ∀ z ∈ oUse x.o, sget s z = sget sS z := by
      intro z hz
      rw [k3 z, h11 z, hd]
      rw [wr_app fun k hk hdz => ?_]
      · simp only [wrOf, hS, Bool.false_eq_true, and_false, if_false]
        refine wr_same fun k hk hdz => ?_
        rcases (g5 k hk).2 with hdep | ⟨_, hap⟩
        · exact (depS k.i hdep (g2 k hk)).symm
        · exact absurd hz ((apart_use hap).1 z hdz)
      · obtain ⟨m1, m2⟩ := g6 k hk
        rcases m2.2 with hdep | ⟨_, hap⟩
        · cases hSk : S k.i with
          | false => rfl
          | true => have := hdep _ h12 hSk; rw [hS] at this; cases this
        · exact absurd hz ((apart_use hap).2 z hdz)
    refine quiet_run h10 hF hco hl (quiet_congr hsame k2) fun u hR => ?_
    have hdis : ∀ k ∈ done, k.i = x.i → k = x := by
      intro k hk hki
      rw [hd] at hk
      rcases List.mem_append.1 hk with hk | hk
      · exact absurd hki (g6 k hk).1
      · rcases List.mem_cons.1 hk with rfl | hk
        · rfl
        · exact absurd hki (g2 k hk)
    have hdst : ∀ z, ∀ k ∈ done, k.i ≠ x.i → k.o.dst = some z → x.o.dst ≠ some z := by
      intro z k hk hki hkz
      rw [hd] at hk
      rcases List.mem_append.1 hk with hk | hk
      · intro hxz; exact (distinct_iff.1 (g6 k hk).2.1) z hxz hkz
      · rcases List.mem_cons.1 hk with rfl | hk
        · exact absurd rfl hki
        · exact (distinct_iff.1 (g5 k hk).1) z hkz
    rw [put_split] at hR
    refine ⟨done, rest, tab, vals, e, pend, L, sp, _, A, h1, h2, h3, h4, h5, h6, hhead, fun k hk hm => ?_, fun k hk => ?_, ?_, hR, fun z => ?_, hdown, h13⟩
    · by_cases hki : k.i = x.i
      · simp [hki]
      · simp only [hki, if_false]; exact h7 k hk hm
    · have := ok_far h2 h1 k hk x hx
      show (if k.i = x.i then true else S k.i) = false
      rw [if_neg (fun h => this h.symm)]
      exact h8 k hk
    · refine wait_turn (S := S) (pend := pend) (fun _ _ => rfl) (fun k hk hm hk' => ⟨?_, fun s a b c => ⟨a, c, b⟩⟩) h9
      by_cases hki : k.i = x.i
      · simp [hki] at hk'
      · simpa [hki] using hk'
    · rw [sget_put, wr_list (S := S) (y := x) (fun k hk hki => by simp [hki]) (by simp) hS hx hdis (hdst z), h11 z]
  · -- it makes or calls: it is the next
    match rest, hx, h1, h4, h5, hhead, h8, h13 with
    | y :: r, hx, h1, h4, h5, hhead, h8, h13 =>
    have hm : y.main = true := hhead y r rfl
    obtain ⟨k1, k2, k3, k4, k5, tab', k6, k7⟩ := ok_next h2 h1
    have hxy : x = y := by
      rcases List.mem_cons.1 hx with h | hxr
      · exact h
      · have hdep := ok_main k6 k7 x hxr y (by simp) hm
        have hne := ok_far k6 k7 x hxr y (by simp)
        have := depS y.i hdep hne
        rw [h8 y (by simp)] at this
        cases this
    subst hxy
    rw [hm] at k7
    simp only [if_true] at k7
    obtain ⟨o', ho', hco⟩ := h4 x (by simp)
    obtain rfl : o = o' := by rw [ho] at ho'; exact Option.some.inj ho'
    simp only [vcl, List.map_cons, VCo, hm, if_true] at h5
    have hsame : ∀ z ∈ oUse x.o, sget sp z = sget sS z := by
      intro z hz
      rw [h6 z, h11 z]
      refine wr_same fun k hk hdz => ?_
      rcases (k5 k hk).1.2 with hdep | ⟨_, hap⟩
      · exact (depS k.i hdep (k2 k hk)).symm
      · exact absurd hz ((apart_use hap).1 z hdz)
    refine main_run h10 hF hco hsame h5 fun v L' u A' w' hk hR => ?_
    obtain ⟨hag, hv⟩ := hk
    rw [put_split] at hv hR
    rw [put_L] at hag
    refine advance r (x :: done) tab' (updV vals x.i v) (e + 1) pend L' _ _ A' k7 k6 ⟨⟨k1, k2, h4 x (by simp), k3, fun z hz => (k5 z hz).1⟩, h3⟩ (fun z hz => h4 z (by simp [hz])) hv (fun z => ?_) (fun k hk hkm => ?_) (fun k hk => ?_) ⟨(fun hx0 _ => by rw [hm] at hx0; cases hx0), ?_⟩ hR (fun z => ?_) hdown (fun j hj => ?_)
    · rw [sget_put]
      simp only [wrOf, and_true]
      by_cases hd : x.o.dst = some z
      · rw [if_pos hd, if_pos hd]; simp [updV]
      · rw [if_neg hd, if_neg hd, wr_vals k2, h6 z]
    · rcases List.mem_cons.1 hk with rfl | hk
      · simp
      · simp only [k2 k hk, if_false]; exact h7 k hk hkm
    · have hne := ok_far k6 k7 k hk x (by simp)
      show (if k.i = x.i then true else S k.i) = false
      rw [if_neg fun h => hne h.symm]
      exact h8 k (by simp [hk])
    · refine wait_turn (S := S) (pend := pend) (fun k hk => by simp [updV, k2 k hk]) (fun k hk hkm hk' => ?_) h9
      have hki := k2 k hk
      have hSk : S k.i = false := by simpa [hki] using hk'
      refine ⟨hSk, fun s g1 g2 g3 => ?_⟩
      have he : e + 1 ≤ k.hi := by
        rcases (k5 k hk).2 hm with hdep | he
        · have := depS k.i hdep hki; rw [hSk] at this; cases this
        · exact he
      have hp := g2 (by omega)
      exact ⟨he, again_mem hag hp he, fun _ => hp⟩
    · rw [sget_put]
      simp only [wrOf, if_true, and_true]
      by_cases hd : x.o.dst = some z
      · rw [if_pos hd, if_pos hd]; simp [updV]
      · rw [if_neg hd, if_neg hd, wr_vals k2]
        rw [wr_same (S' := S) fun k hk _ => by simp [k2 k hk]]
        exact h11 z
    · obtain ⟨z, hz, hzi⟩ := h13 j hj
      refine ⟨z, ?_, hzi⟩
      rcases hz with hz | hz
      · exact .inl (by simp [hz])
      · rcases List.mem_cons.1 hz with rfl | hz
        · exact .inl (by simp)
        · exact .inr hz

/-- Nothing is ready: all has come. -/
theorem inv_end {K : St → Prop} {s0 : Slots} {S : Nat → Bool} {a : Act} {w : World} (h : InvO P w0 F L0 A0 nt G ops K s0 S a w) (hr : ∀ i, i < ops.size → S i = false → ∃ j ∈ edgesOf ops i, S j = false) : ∃ st A, R G F w0 L0 A0 nt st A a w ∧ K st := by
  obtain ⟨done, rest, tab, vals, e, pend, L, sp, sS, A, h1, h2, h3, h4, h5, h6, hhead, h7, h8, h9, h10, h11, h12, h13⟩ := h
  have lt : ∀ y : XO, Known P nt ops y → y.i < ops.size := fun y ⟨o, ho, _⟩ => (Array.getElem?_eq_some_iff.1 ho).1
  have all : ∀ d : List XO, Chain P nt ops d → ∀ k ∈ d, S k.i = true := by
    intro d
    induction d with
    | nil => intro _ k hk; simp at hk
    | cons y r ih =>
      intro hc k hk
      have ihr := ih hc.2
      rcases List.mem_cons.1 hk with rfl | hk
      · cases hS : S k.i with
        | true => rfl
        | false =>
          obtain ⟨j, hj, hSj⟩ := hr k.i (lt k hc.1.2.2.1) hS
          obtain ⟨x, hx, rfl⟩ := hc.1.1 j hj
          rw [ihr x hx] at hSj
          cases hSj
      · exact ihr k hk
  have hall := all done h3
  match rest, h1, h4, h5, h8 with
  | y :: r, h1, h4, h5, h8 =>
    obtain ⟨k1, _⟩ := ok_next h2 h1
    obtain ⟨j, hj, hSj⟩ := hr y.i (lt y (h4 y (by simp))) (h8 y (by simp))
    obtain ⟨x, hx, rfl⟩ := k1 j hj
    rw [hall x hx] at hSj
    cases hSj
  | [], h1, h4, h5, h8 =>
    refine ⟨⟨sp, L⟩, A, ⟨h10.heap, fun i => ?_, h10.defers, h10.size, h10.glob, h10.frame, h10.own, h10.stab⟩, h5⟩
    have : sget sp i = sget sS i := by
      rw [h6 i, h11 i]
      exact wr_same fun k hk _ => (hall k hk).symm
    simp only [this]
    exact h10.slots i

theorem countP_lt {α : Type} {p q : α → Bool} : ∀ {l : List α}, (∀ x ∈ l, q x = true → p x = true) → (∃ x ∈ l, p x = true ∧ q x = false) → l.countP q < l.countP p
  | [], _, ⟨x, hx, _⟩ => by simp at hx
  | y :: r, h1, ⟨x, hx, h2, h3⟩ => by
    have hle : ∀ l : List α, (∀ x ∈ l, q x = true → p x = true) → l.countP q ≤ l.countP p := fun l hl => List.countP_mono_left hl
    rw [List.countP_cons, List.countP_cons]
    rcases List.mem_cons.1 hx with rfl | hx
    · have := hle r fun z hz => h1 z (by simp [hz])
      rw [h2, h3]; simp; omega
    · have := countP_lt (fun z hz => h1 z (by simp [hz])) ⟨x, hx, h2, h3⟩
      have hy := h1 y (by simp)
      cases hq : q y with
      | true => rw [hy hq]; simp; omega
      | false => cases p y <;> simp <;> omega

theorem any_of_inv {K : St → Prop} {s0 : Slots} {Q : Exit → Act → World → Prop} (hF : ∀ b, F b → b < w0.heap.size) (hK : ∀ st A a w, R G F w0 L0 A0 nt st A a w → K st → Q .normal a w) :
    ∀ (fuel : Nat) (listed : Array Bool) (a : Act) (w : World), listed.size = ops.size → (List.range ops.size).countP (fun i => !(listed.getD i false)) ≤ fuel → InvO P w0 F L0 A0 nt G ops K s0 (fun i => listed.getD i false) a w → wpAny P .any ops Q fuel listed a w := by
  have fin : ∀ (listed : Array Bool) (a : Act) (w : World), listed.size = ops.size → InvO P w0 F L0 A0 nt G ops K s0 (fun i => listed.getD i false) a w → Region.ready .any ops listed = [] → Q .normal a w := by
    intro listed a w hsz h hr
    obtain ⟨st, A, h1, h2⟩ := inv_end h fun i hi hS => by
      by_cases hc : ∃ j ∈ edgesOf ops i, listed.getD j false = false
      · exact hc
      · exfalso
        have : i ∈ Region.ready .any ops listed := by
          rw [mem_ready]
          refine ⟨?_, ops[i], Array.getElem?_eq_getElem hi, fun e he hb => ?_⟩
          · have : i < listed.size := by omega
            simp [this] at hS ⊢; exact hS
          · cases hx : listed.getD e.on false with
            | true => rfl
            | false => exact absurd ⟨e.on, (edge_mem (Array.getElem?_eq_getElem hi)).2 ⟨e, he, hb, rfl⟩, hx⟩ hc
        rw [hr] at this
        cases this
    exact hK st A a w h1 h2
  intro fuel
  induction fuel with
  | zero =>
    intro listed a w hsz hc h
    have hr : Region.ready .any ops listed = [] := by
      cases hrd : Region.ready .any ops listed with
      | nil => rfl
      | cons i r =>
        exfalso
        have hm : i ∈ Region.ready .any ops listed := by rw [hrd]; simp
        rw [mem_ready] at hm
        obtain ⟨hl, o, ho, _⟩ := hm
        have hi : i < ops.size := (Array.getElem?_eq_some_iff.1 ho).1
        have := List.countP_eq_zero.1 (Nat.le_zero.1 hc) i (List.mem_range.2 hi)
        have hil : i < listed.size := by omega
        simp [hil] at this hl
        rw [hl] at this; cases this
    exact ⟨hr, fin listed a w hsz h hr⟩
  | succ fuel ih =>
    intro listed a w hsz hc h
    refine ⟨fin listed a w hsz h, fun i hm => ?_⟩
    rw [mem_ready] at hm
    obtain ⟨hl, o, ho, hedge⟩ := hm
    have hi : i < ops.size := (Array.getElem?_eq_some_iff.1 ho).1
    have hil : i < listed.size := by omega
    have hSi : listed.getD i false = false := by simp [hil] at hl ⊢; exact hl
    have key : (fun k => (listed.setIfInBounds i true).getD k false) = fun k => if k = i then true else listed.getD k false := by
      funext k
      by_cases hk : k = i
      · subst hk; simp [hil]
      · rw [if_neg hk]
        simp only [Array.getD_eq_getD_getElem?]
        rw [Array.getElem?_setIfInBounds_ne fun h => hk h.symm]
    have hnext : ∀ a w, InvO P w0 F L0 A0 nt G ops K s0 (fun k => if k = i then true else listed.getD k false) a w → wpAny P .any ops Q fuel (listed.setIfInBounds i true) a w := by
      intro a w h
      refine ih _ a w (by simpa using hsz) ?_ (by rw [key]; exact h)
      have hlt : (List.range ops.size).countP (fun k => !((listed.setIfInBounds i true).getD k false)) < (List.range ops.size).countP (fun k => !(listed.getD k false)) := by
        refine countP_lt (fun k hk h => ?_) ⟨i, List.mem_range.2 hi, by rw [hSi]; rfl, by have : (listed.setIfInBounds i true).getD i false = if i = i then true else listed.getD i false := congrFun key i; rw [this]; simp⟩
        have : (listed.setIfInBounds i true).getD k false = if k = i then true else listed.getD k false := congrFun key k
        rw [this] at h
        split at h
        · cases h
        · exact h
      omega
    have := inv_step (Q := Q) hF h ho hSi fun j hj => by
      obtain ⟨e, he, hb, rfl⟩ := (edge_mem ho).1 hj
      exact hedge e he hb
    unfold wpOp
    rw [ho]
    simp only
    split
    · rename_i hw
      rw [if_pos hw] at this
      exact .inl (Oper.wp_mono hnext this)
    · rename_i hw
      rw [if_neg hw] at this
      exact hnext _ _ this

theorem take_known {rl : List ROper} : ∀ {xs ys : List XO}, takeXs rl xs = some ys → ∀ y ∈ ys, rl[y.i]? = some y.o
  | [], ys, h, y, hy => by obtain rfl := Option.some.inj h; simp at hy
  | x :: r, ys, h, y, hy => by
    simp only [takeXs] at h
    split at h
    · rename_i o l ho hl
      obtain rfl := Option.some.inj h
      rcases List.mem_cons.1 hy with rfl | hy
      · exact ho
      · exact take_known hl y hy
    · cases h

theorem mapM_get {l : List Oper} {rl : List ROper} {f : Oper → Option ROper} (h : l.mapM f = some rl) : ∀ (i : Nat) (r : ROper), rl[i]? = some r → ∃ o, l[i]? = some o ∧ f o = some r := by
  induction l generalizing rl with
  | nil => simp at h; subst h; intro i r h; simp at h
  | cons x l ih =>
    simp only [List.mapM_cons, Option.bind_eq_bind, Option.pure_def] at h
    cases hx : f x with
    | none => simp [hx] at h
    | some y =>
      cases hr : l.mapM f with
      | none => simp [hx, hr] at h
      | some zs =>
        simp only [hx, hr, Option.bind_some, Option.some.injEq] at h
        subst h
        intro i r hi
        cases i with
        | zero => obtain rfl := Option.some.inj hi; exact ⟨x, rfl, hx⟩
        | succ i => exact ih hr i r (by simpa using hi)

theorem region2_sound {id : Nat} {rl : List ROper} {xs ys : List XO} {Q : Exit → Act → World → Prop} {K : St → Prop} {st : St} {A : Pls} {a : Act} {w : World} (hF : ∀ b, F b → b < w0.heap.size) (hm : ops.toList.mapM (cOper P ops nt) = some rl) (ht : takeXs rl xs = some ys) (hok : okO ops [] [] 0 ys = true)
    (hall : (List.range ops.size).all (fun i => ys.any (·.i == i)) = true) (hfol : P.follows .mixedOrders = true) (hK : ∀ st A a w, R G F w0 L0 A0 nt st A a w → K st → Q .normal a w) (h : R G F w0 L0 A0 nt st A a w) (hv : VCo G P (vcl ys) 0 [] K st) : (Code.region id ops true).wp P Q a w := by
  refine wp_region_any hfol ?_
  have hw : Fr w (fun _ => False) { w with drawn := w.drawn + 1 } := ⟨rfl, rfl, rfl, Nat.le_refl _, fun _ _ _ => rfl⟩
  have h' := h.world hw
  have hz : (fun i => (Array.replicate ops.size false).getD i false) = fun _ => false := by
    funext i
    simp only [Array.getD_eq_getD_getElem?, Array.getElem?_replicate]
    split <;> rfl
  refine any_of_inv (K := K) (s0 := st.s) hF hK ops.size _ a _ (by simp) ?_ ?_
  · refine Nat.le_trans (List.countP_le_length) (by simp)
  · rw [hz]
    refine advance ys [] [] (fun _ => .un) 0 [] st.L st.s st.s A hok (fun i j hi => by simp [ancOf] at hi) trivial (fun x hx => ?_) hv (fun x => rfl) (fun k hk => by simp at hk) (fun k hk => rfl) trivial h' (fun x => rfl) (fun j hj => by cases hj) (fun i hi => ?_)
    · obtain ⟨o, h1, h2⟩ := mapM_get hm x.i x.o (take_known ht x hx)
      exact ⟨o, by simpa using h1, h2⟩
    · have := (List.all_eq_true.1 hall) i (List.mem_range.2 hi)
      obtain ⟨x, hx, hxi⟩ := List.any_eq_true.1 this
      exact ⟨x, .inr hx, by simpa using hxi⟩
end
end Go.LH

namespace Go.LH
open Go
set_option linter.unusedSimpArgs false
set_option linter.unusedVariables false

def toExit : Out → Exit
  | .normal => .normal
  | .exit i => .exit i
  | .ret => .ret

section
variable {P : Program} {w0 : World} {F : Nat → Prop} {L0 : List Entry} {A0 : Pls} {nt : Nat} {G : GEnv}

theorem kbase_get : ∀ {n i : Nat}, i < n → (kbase n)[i]? = some (some i)
  | n + 1, i, h => by
    have hl : ∀ n, (kbase n).length = n := by intro n; induction n with | zero => rfl | succ n ih => simp [kbase, ih]
    simp only [kbase]
    by_cases hi : i < n
    · rw [List.getElem?_append_left (by rw [hl]; exact hi)]; exact kbase_get hi
    · obtain rfl : i = n := by omega
      rw [List.getElem?_append_right (by rw [hl]; exact Nat.le_refl _), hl]; simp
theorem kbase_len : ∀ n : Nat, (kbase n).length = n := by intro n; induction n with | zero => rfl | succ n ih => simp [kbase, ih]
theorem kbase_nd (n : Nat) : KND (kbase n) := by
  intro i j id h1 h2
  have hi := (List.getElem?_eq_some_iff.1 h1).1
  have hj := (List.getElem?_eq_some_iff.1 h2).1
  rw [kbase_len] at hi hj
  rw [kbase_get hi] at h1
  rw [kbase_get hj] at h2
  simp at h1 h2
  omega

/-- Only what is reached is kept. -/
theorem gc_heap {w : World} {A : Pls} {L L' : List Entry} {n k : Nat} {ks ks' : Ks} (hpre : Pre (kbase n) ks) (hnd : KND ks) (h : gcE L k ks 0 = some (ks', L')) (hh : HeapOK w F A L) (ho : OwnNew w0 A0 A) (hst : Stab L0 A0 L A) (hn : L0.length = n) :
    ∃ A', HeapOK w F A' L' ∧ Keep w (fun b => Owned A b ∨ F b) w (fun b => Owned A' b ∨ F b) ∧ RenH (rhoK ks') (nulK ks') A L A' L' ∧ Pre ks ks' ∧ OwnNew w0 A0 A' ∧ Stab L0 A0 L' A' ∧ ∀ b, Owned A' b → Owned A b := by
  obtain ⟨e1, e2, e3, e4⟩ := gc_e _ _ _ _ _ h hnd (Nat.zero_le _)
  have sub : Sub A L ks' L' := ⟨e1, by simpa using e3, fun j e' hj => by simpa using e4 j e' hj, hh.len⟩
  obtain ⟨hh1, k1⟩ := sub.heap (F' := F) hh (fun b hb h => hh.far b (subA_owned hb) h) (fun b hb => .inr hb)
  refine ⟨subA A ks', hh1, k1, sub.renH, e2, fun b hb => ho b (subA_owned hb), fun i e0 he0 => ?_, fun b hb => subA_owned hb⟩
  have hi := (List.getElem?_eq_some_iff.1 he0).1
  have hk : ks'[i]? = some (some i) := (hpre.trans e2).get (kbase_get (by omega))
  obtain ⟨e, h1, h2, h3⟩ := hst i e0 he0
  obtain ⟨e', e'', g1, g2, g3, g4⟩ := sub.at' hk
  obtain rfl : e = e' := by rw [h1] at g1; exact Option.some.inj g1
  refine ⟨e'', g2, by rw [g3.gen]; exact h2, fun hg => ?_⟩
  rw [g3.gen] at hg
  obtain ⟨m1, m2, m3, m4⟩ := h3 hg
  exact ⟨by rw [g4]; exact m1, by rw [g3.wd, g4]; exact m2, by rw [g3.bx]; exact m3, by rw [g3.len]; exact m4⟩

theorem gc_sound {st st' : St} {A : Pls} {a : Act} {w : World} (h : R G F w0 L0 A0 nt st A a w) (hg : gc L0.length st = some st') : ∃ A', R G F w0 L0 A0 nt st' A' a w := by
  simp only [gc] at hg
  obtain ⟨g1, g2, g3⟩ := gc_slots st.s (kbase L0.length) (kbase_nd _)
  split at hg
  · rename_i ks' L' he
    obtain rfl := Option.some.inj hg
    obtain ⟨A', h1, h2, h3, h4, h5, h6, h7⟩ := gc_heap (w0 := w0) g2 g1 he h.heap h.own h.stab rfl
    refine ⟨A', h1, fun i => ?_, h.defers, h.size, h.glob.keep h2, h.frame, h5, h6⟩
    exact ren_srep h2 h3 ((g3 i).mono (fun i k h => h4.get h) (fun k h => h4.get h)) (h.slots i)
  · cases hg

theorem keep_sound {st : St} {A : Pls} {a : Act} {w : World} {l : List Nat} (h : R G F w0 L0 A0 nt st A a w) : R G F w0 L0 A0 nt ⟨skeep l st.s, st.L⟩ A a w := by
  refine ⟨h.heap, fun i => ?_, h.defers, h.size, h.glob, h.frame, h.own, h.stab⟩
  rcases sget_skeep l st.s i with hs | hs
  · simp only [hs]; exact h.slots i
  · simp only [hs]; exact .un _

variable (P w0 F L0 A0 nt G) in
/-- What holds of the abstract code holds of the code. -/
def Sound (c : Code) (rc : RC) : Prop :=
  ∀ (Qv : Out → St → Prop) (Qe : Exit → Act → World → Prop), (∀ out st A a w, R G F w0 L0 A0 nt st A a w → Qv out st → Qe (toExit out) a w) →
    ∀ st A a w, R G F w0 L0 A0 nt st A a w → VC G P L0.length rc Qv st → c.wp P Qe a w

theorem sound_keep {c : Code} {rc : RC} {l : List Nat} (h : Sound P w0 F L0 A0 nt G c rc) : Sound P w0 F L0 A0 nt G c (.seq (.keep l) rc) :=
  fun Qv Qe hQ st A a w hR hv => h Qv Qe hQ _ A a w (keep_sound hR) hv
theorem sound_gc {c : Code} {rc : RC} (h : Sound P w0 F L0 A0 nt G c rc) : Sound P w0 F L0 A0 nt G c (.seq .gc rc) := by
  intro Qv Qe hQ st A a w hR hv
  simp only [VC] at hv
  split at hv
  · rename_i st' hg
    obtain ⟨A', hR'⟩ := gc_sound hR hg
    exact h Qv Qe hQ _ A' a w hR' hv
  · cases hv
theorem sound_then_keep {c : Code} {rc : RC} {l : List Nat} (h : Sound P w0 F L0 A0 nt G c rc) : Sound P w0 F L0 A0 nt G c (.seq rc (.keep l)) := by
  intro Qv Qe hQ st A a w hR hv
  refine h _ Qe (fun out st A a w hR hq => ?_) st A a w hR hv
  cases out with
  | normal => exact hQ .normal _ A a w (keep_sound hR) hq
  | exit i => exact hQ (.exit i) _ A a w hR hq
  | ret => exact hQ .ret _ A a w hR hq
theorem sound_then_gc {c : Code} {rc : RC} {l : List Nat} (h : Sound P w0 F L0 A0 nt G c rc) : Sound P w0 F L0 A0 nt G c (.seq rc (.seq (.keep l) .gc)) := by
  intro Qv Qe hQ st A a w hR hv
  refine h _ Qe (fun out st A a w hR hq => ?_) st A a w hR hv
  cases out with
  | normal =>
    simp only [seqQ, VC] at hq
    split at hq
    · rename_i st' hg
      obtain ⟨A', hR'⟩ := gc_sound (keep_sound hR) hg
      exact hQ .normal _ A' a w hR' hq
    · cases hq
  | exit i => exact hQ (.exit i) _ A a w hR hq
  | ret => exact hQ .ret _ A a w hR hq

theorem least {p : Nat → Prop} (h : ∃ n, p n) : ∃ n, p n ∧ ∀ m, m < n → ¬ p m := by
  obtain ⟨n, hn⟩ := h
  induction n using Nat.strongRecOn with
  | _ n ih =>
    by_cases hc : ∃ m, m < n ∧ p m
    · obtain ⟨m, h1, h2⟩ := hc
      exact ih m h1 h2
    · exact ⟨n, hn, fun m h1 h2 => hc ⟨m, h1, h2⟩⟩

theorem sound_loop {c : Code} {rc : RC} (h : Sound P w0 F L0 A0 nt G c rc) : Sound P w0 F L0 A0 nt G (.loop c) (.loop rc) := by
  intro Qv Qe hQ st A a w hR hv
  obtain ⟨I, ⟨n, hn⟩, hround⟩ := hv
  let J : Act → World → Nat → Prop := fun a w n => ∃ st A, R G F w0 L0 A0 nt st A a w ∧ I n st
  have hex : ∀ a w, (∃ n, J a w n) → ∃ n, J a w n ∧ ∀ m, m < n → ¬ J a w m := fun a w h => least h
  let μ : Act → World → Nat := fun a w => by
    classical
    exact if h : ∃ n, J a w n then (hex a w h).choose else 0
  have hμ : ∀ a w, (h : ∃ n, J a w n) → J a w (μ a w) ∧ ∀ m, m < μ a w → ¬ J a w m := by
    intro a w h
    have : μ a w = (hex a w h).choose := by simp only [μ]; rw [dif_pos h]
    rw [this]
    exact (hex a w h).choose_spec
  refine wp_loop (fun a w => ∃ n, J a w n) μ ⟨n, st, A, hR, hn⟩ fun a w hI => ?_
  obtain ⟨⟨st1, A1, hR1, hI1⟩, _⟩ := hμ a w hI
  refine h _ _ (fun out st2 A2 a2 w2 hR2 hq => ?_) st1 A1 a w hR1 (hround _ st1 hI1)
  cases out with
  | normal =>
    obtain ⟨m, hm, hIm⟩ := hq
    have hJ : J a2 w2 m := ⟨st2, A2, hR2, hIm⟩
    refine ⟨⟨m, hJ⟩, ?_⟩
    have := (hμ a2 w2 ⟨m, hJ⟩).2
    rcases Nat.lt_or_ge m (μ a2 w2) with hlt | hge
    · exact absurd hJ (this m hlt)
    · omega
  | exit i => exact hQ (.exit i) st2 A2 a2 w2 hR2 hq
  | ret => exact hQ .ret st2 A2 a2 w2 hR2 hq

theorem sound_seq {c d : Code} {rc rd : RC} (h : Sound P w0 F L0 A0 nt G c rc) (k : Sound P w0 F L0 A0 nt G d rd) : Sound P w0 F L0 A0 nt G (.seq c d) (.seq rc rd) := by
  intro Qv Qe hQ st A a w hR hv
  refine wp_seq (h _ _ (fun out st2 A2 a2 w2 hR2 hq => ?_) st A a w hR hv)
  cases out with
  | normal => exact k Qv Qe hQ st2 A2 a2 w2 hR2 hq
  | exit i => exact hQ (.exit i) st2 A2 a2 w2 hR2 hq
  | ret => exact hQ .ret st2 A2 a2 w2 hR2 hq

theorem sound_block {c : Code} {rc : RC} {id : Nat} (h : Sound P w0 F L0 A0 nt G c rc) : Sound P w0 F L0 A0 nt G (.block id c) (.block id rc) := by
  intro Qv Qe hQ st A a w hR hv
  refine wp_block (h _ _ (fun out st2 A2 a2 w2 hR2 hq => ?_) st A a w hR hv)
  cases out with
  | normal => exact hQ .normal st2 A2 a2 w2 hR2 hq
  | exit i =>
    simp only [blockQ] at hq
    simp only [toExit, Exit.inBlock]
    split
    · rename_i hi; rw [if_pos hi] at hq; exact hQ .normal st2 A2 a2 w2 hR2 hq
    · rename_i hi; rw [if_neg hi] at hq; exact hQ (.exit i) st2 A2 a2 w2 hR2 hq
  | ret => exact hQ .ret st2 A2 a2 w2 hR2 hq

theorem sound_cond {x : Operand} {y : Opd} {c d : Code} {rc rd : RC} (hx : cOpd x = some y) (h : Sound P w0 F L0 A0 nt G c rc) (k : Sound P w0 F L0 A0 nt G d rd) : Sound P w0 F L0 A0 nt G (.cond x c d) (.cond y rc rd) := by
  intro Qv Qe hQ st A a w hR hv
  simp only [VC] at hv
  split at hv
  · rename_i t ht
    have hr := hR.opR x y hx
    rw [ht] at hr
    exact wp_cond_split hr.inv_val (fun h1 => h Qv Qe hQ st A a w hR (hv.1 h1)) (fun h1 => k Qv Qe hQ st A a w hR (hv.2 h1))
  · cases hv

theorem sound_region {id : Nat} {ops : Array Oper} {draw : Bool} {rc : RC} (hF : ∀ b, F b → b < w0.heap.size) (h : cCode P nt (.region id ops draw) = some rc) : Sound P w0 F L0 A0 nt G (.region id ops draw) rc ∧ ∀ fc res env out, trim fc res env rc out = rc := by
  simp only [cCode] at h
  split at h
  · rename_i l hl
    split at h
    · rename_i hd
      obtain rfl := Option.some.inj h
      obtain rfl : draw = false := by simpa using hd
      refine ⟨?_, fun _ _ _ _ => rfl⟩
      intro Qv Qe hQ st A a w hR hv
      simp only [VC, Bool.false_eq_true, if_false] at hv
      refine wp_region ?_
      rw [List.range_eq_range']
      have := ops_sound (ops := ops) (Q := Qe) (K := Qv .normal) hF (fun st A a w h1 h2 => hQ .normal st A a w h1 h2) ops.toList l 0 st A a w (by simp) hl hR hv
      simpa using this
    · rename_i hd
      obtain rfl : draw = true := by simpa using hd
      split at h
      · rename_i hc
        obtain rfl := Option.some.inj h
        simp only [Bool.and_eq_true] at hc
        obtain ⟨⟨c1, c2⟩, c3⟩ := hc
        refine ⟨?_, fun _ _ _ _ => rfl⟩
        intro Qv Qe hQ st A a w hR hv
        simp only [VC, if_true] at hv
        refine wp_region_quiet (C := fun w' => Fr w (fun _ => False) w') c3 c2 ⟨rfl, rfl, rfl, Nat.le_refl _, fun _ _ _ => rfl⟩ ?_
        exact opsD_sound hF (K := Qv .normal) (fun st A a h1 h2 w' hw' => hQ .normal st A a w' (h1.world hw') h2) ops.toList l st A a hl (fun o ho => by simp [(List.all_eq_true.1 c1) o ho]) hR hv
      · split at h
        · rename_i xs hx
          obtain ⟨hc, h⟩ := Option.ite_none_right_eq_some.1 h
          obtain rfl := Option.some.inj h
          simp only [Bool.and_eq_true] at hc
          obtain ⟨⟨c1, c2⟩, c3⟩ := hc
          refine ⟨?_, fun _ _ _ _ => rfl⟩
          intro Qv Qe hQ st A a w hR hv
          exact region2_sound hF hl hx c1 c2 c3 (fun st A a w h1 h2 => hQ .normal st A a w h1 h2) hR hv
        · cases h
  · cases h

theorem trim_sound (hF : ∀ b, F b → b < w0.heap.size) (fc : Bool) (res : List Nat) : ∀ (c : Code) (rc : RC) (env : List (Nat × List Nat)) (out : List Nat), cCode P nt c = some rc → Sound P w0 F L0 A0 nt G c (trim fc res env rc out)
  | .skip, rc, env, out, h => by
    obtain rfl := Option.some.inj h
    exact fun Qv Qe hQ st A a w hR hv => wp_skip (hQ .normal st A a w hR hv)
  | .region id ops draw, rc, env, out, h => by
    obtain ⟨hs, ht⟩ := sound_region (L0 := L0) (A0 := A0) (G := G) hF h
    rw [ht]; exact hs
  | .seq a b, rc, env, out, h => by
    simp only [cCode] at h
    split at h
    · rename_i x y hx hy
      obtain rfl := Option.some.inj h
      simp only [trim]
      exact sound_seq (trim_sound hF fc res a x _ _ hx) (sound_keep (trim_sound hF fc res b y _ _ hy))
    · cases h
  | .cond c a b, rc, env, out, h => by
    simp only [cCode] at h
    split at h
    · rename_i o x y ho hx hy
      obtain rfl := Option.some.inj h
      simp only [trim]
      exact sound_cond ho (trim_sound hF fc res a x _ _ hx) (trim_sound hF fc res b y _ _ hy)
    · cases h
  | .block id a, rc, env, out, h => by
    simp only [cCode, Option.map_eq_some_iff] at h
    obtain ⟨x, hx, rfl⟩ := h
    simp only [trim]
    exact sound_block (trim_sound hF fc res a x _ _ hx)
  | .loop a, rc, env, out, h => by
    simp only [cCode, Option.map_eq_some_iff] at h
    obtain ⟨x, hx, rfl⟩ := h
    simp only [trim]
    split
    · exact sound_keep (sound_gc (sound_loop (sound_then_gc (trim_sound hF fc res a x _ _ hx))))
    · exact sound_keep (sound_loop (sound_then_keep (trim_sound hF fc res a x _ _ hx)))
  | .exit id, rc, env, out, h => by
    obtain rfl := Option.some.inj h
    exact fun Qv Qe hQ st A a w hR hv => wp_exit (hQ (.exit id) st A a w hR hv)
  | .ret, rc, env, out, h => by
    obtain rfl := Option.some.inj h
    exact fun Qv Qe hQ st A a w hR hv => wp_ret (hQ .ret st A a w hR hv)
  | .label _, rc, env, out, h => by cases h
  | .goto _, rc, env, out, h => by cases h
  | .rangeFunc .., rc, env, out, h => by cases h
  | .scope _, rc, env, out, h => by cases h
  | .refuse _, rc, env, out, h => by cases h

/-! ### What comes back -/
def resVal (tmps : Array Value) : ResultVar → Sem Value
  | .tmp t => pure (tmps.getD t undef)
  | .cell x t => do loadVar t (← asAddr (tmps.getD x undef))
theorem results_eq (fn : Func) (tmps : Array Value) : results fn tmps = (do
  let vs ← fn.results.mapM (resVal tmps)
  pure (if h : vs.size = 1 then vs[0] else .tuple vs)) := rfl
theorem resOne_sound {st : St} {A : Pls} {a : Act} {w : World} {rv : ResultVar} {r : ResR} {s : Sv} (h : R G F w0 L0 A0 nt st A a w) (hc : cRes P rv = some r) (hs : resOne G st r = some s) :
    ∃ v, (resVal a.tmps rv).run P w = .ok v w ∧ SRep w (fun b => Owned A b ∨ F b) A st.L s v := by
  cases rv with
  | tmp t =>
    obtain rfl := Option.some.inj hc
    obtain rfl := Option.some.inj hs
    exact ⟨_, rfl, h.slots t⟩
  | cell x t =>
    simp only [cRes] at hc
    split at hc
    · rename_i g n hg hn
      obtain rfl := Option.some.inj hc
      simp only [resOne] at hs
      split at hs
      · rename_i p hp
        split at hs
        · rename_i cs hcs
          have ite := Option.ite_none_right_eq_some.1 hs
          obtain ⟨hle, hs⟩ := ite
          have hx := h.slots x
          rw [hp] at hx
          obtain ⟨b, q, us, hv, hcell⟩ := cellsAt_rep h.heap h.glob hcs hx.inv_c
          simp only [resVal]
          rw [hv]
          have hl := run_loadAt (P := P) (w := w) (b := b) (o := q) hg hn us (fun j hj => (hcell j _ (List.getElem?_eq_getElem (by omega))).1)
          simp only [Instr.loadAt, Instr.sureAddr, Sem.run_bind, Sem.run_pure, Result.andThen_ok] at hl
          refine ⟨if g = true then .agg ((List.range n).map us).toArray else us 0, by simp only [asAddr, Sem.run_bind, Sem.run_pure, Result.andThen_ok]; exact hl, ?_⟩
          have hpk := packS_rep (w := w) (X := fun b => Owned A b ∨ F b) (A := A) (L := st.L) hs us (fun j c hj => by
            rw [List.getElem?_take] at hj
            exact (hcell j c (Option.ite_none_right_eq_some.1 hj).2).2)
          cases g with
          | true =>
            simp only [if_true] at hpk hle ⊢
            have hl2 : (cs.take n).length = n := by simp; omega
            rw [hl2] at hpk
            exact hpk
          | false =>
            simp only [Bool.false_eq_true, if_false] at hpk ⊢
            exact hpk
        · cases hs
      · cases hs
    · cases hc

theorem resL_sound {st : St} {A : Pls} {a : Act} {w : World} (h : R G F w0 L0 A0 nt st A a w) : ∀ (rvs : List ResultVar) (rs : List ResR) (ss : List Sv), rvs.mapM (cRes P) = some rs → resL G st rs = some ss →
    ∃ us : List Value, (rvs.mapM (resVal a.tmps)).run P w = .ok us w ∧ ss.length = us.length ∧ ∀ (i : Nat) (s : Sv) (v : Value), ss[i]? = some s → us[i]? = some v → SRep w (fun b => Owned A b ∨ F b) A st.L s v
  | [], rs, ss, hm, hs => by
    simp at hm; subst hm
    obtain rfl := Option.some.inj hs
    exact ⟨[], rfl, rfl, fun i s v h => by simp at h⟩
  | rv :: rvs, rs, ss, hm, hs => by
    simp only [List.mapM_cons, Option.bind_eq_bind, Option.pure_def] at hm
    cases ho : cRes P rv with
    | none => simp [ho] at hm
    | some r =>
      cases hr : rvs.mapM (cRes P) with
      | none => simp [ho, hr] at hm
      | some rr =>
        simp only [ho, hr, Option.bind_some, Option.some.injEq] at hm
        subst hm
        simp only [resL] at hs
        split at hs
        · rename_i s ss' hs1 hs2
          obtain rfl := Option.some.inj hs
          obtain ⟨v, h1, h2⟩ := resOne_sound h ho hs1
          obtain ⟨us, h3, h4, h5⟩ := resL_sound h rvs rr ss' hr hs2
          refine ⟨v :: us, ?_, by simp [h4], fun i s' v' g1 g2 => ?_⟩
          · rw [List.mapM_cons]
            simp only [Sem.run_bind, h1, h3, Result.andThen_ok, Sem.run_pure]
          · cases i with
            | zero => obtain rfl := Option.some.inj g1; obtain rfl := Option.some.inj g2; exact h2
            | succ i => exact h5 i s' v' (by simpa using g1) (by simpa using g2)
        · cases hs

theorem res_sound {fn : Func} {st : St} {A : Pls} {a : Act} {w : World} {rs : List ResR} {s : Sv} (h : R G F w0 L0 A0 nt st A a w) (hm : fn.results.toList.mapM (cRes P) = some rs) (hs : resS G st rs = some s) :
    ∃ v, (results fn a.tmps).run P w = .ok v w ∧ SRep w (fun b => Owned A b ∨ F b) A st.L s v := by
  have hrun : ∀ us : List Value, (fn.results.toList.mapM (resVal a.tmps)).run P w = .ok us w → (results fn a.tmps).run P w = .ok (if h : us.toArray.size = 1 then us.toArray[0] else .tuple us.toArray) w := by
    intro us hus
    simp only [results_eq, Array.mapM_eq_mapM_toList, Sem.run_bind, Sem.run_map, hus, Result.andThen_ok, Sem.run_pure]
  simp only [resS] at hs
  split at hs
  · rename_i v hv
    obtain rfl := Option.some.inj hs
    obtain ⟨us, h1, h2, h3⟩ := resL_sound h _ _ _ hm hv
    match us, h2 with
    | [u], _ => exact ⟨u, by rw [hrun _ h1]; rfl, h3 0 _ u rfl rfl⟩
  · rename_i vs hne hv
    obtain rfl := Option.some.inj hs
    obtain ⟨us, h1, h2, h3⟩ := resL_sound h _ _ _ hm hv
    refine ⟨.tuple us.toArray, ?_, .tup _ _ h2 h3⟩
    rw [hrun _ h1]
    have : ¬ us.toArray.size = 1 := by
      intro h
      have hl : vs.length = 1 := by rw [h2]; simpa using h
      match vs, hl with
      | [x], _ => exact hne x rfl
    rw [dif_neg this]
  · cases hs

/-! ### Contracts -/
theorem initS_get : ∀ (l : List Sv) (k i : Nat), sget (initS k l) i = if k ≤ i then (l[i - k]?).getD .un else .un
  | [], k, i => by simp [initS, sget]
  | v :: r, k, i => by
    simp only [initS, sget]
    by_cases h : i = k
    · subst h; simp
    · have : (i == k) = false := by simpa using h
      simp only [this, Bool.false_eq_true, if_false, initS_get r (k + 1) i]
      by_cases hk : k + 1 ≤ i
      · rw [if_pos hk, if_pos (by omega), show i - k = (i - (k + 1)) + 1 by omega]; simp
      · rw [if_neg hk]
        split
        · omega
        · rfl

theorem start_slots {w : World} {X : Nat → Prop} {A : Pls} {L : List Entry} {args : List Sv} {vs : List Value} {n : Nat} (h : ArgsRep w X A L args vs) (i : Nat) :
    SRep w X A L (sget (initS 0 args) i) ((vs.toArray ++ Array.replicate n undef).getD i undef) := by
  rw [initS_get]
  simp only [Nat.zero_le, if_true, Nat.sub_zero]
  by_cases hi : i < args.length
  · have h1 := List.getElem?_eq_getElem hi
    have hv : i < vs.length := by rw [← h.1]; exact hi
    have h2 := List.getElem?_eq_getElem hv
    rw [h1, Option.getD_some]
    have : (vs.toArray ++ Array.replicate n undef).getD i undef = vs[i] := by
      rw [Array.getD_eq_getD_getElem?, Array.getElem?_append_left (by simpa using hv)]
      simp [hv]
    rw [this]
    exact h.2 i _ _ h1 h2
  · rw [List.getElem?_eq_none (by omega), Option.getD_none]
    exact .un _

theorem comp_ok {fc : Bool} {fn : Func} {rf : RF} (h : compX fc P fn = some rf) : ∃ c rc, fn.body = some c ∧ cCode P fn.ntmps c = some rc ∧ fn.results.toList.mapM (cRes P) = some rf.res ∧ rf.nt = fn.ntmps ∧ rf.body = trim fc (resSlots rf.res) [] rc (resSlots rf.res) := by
  simp only [compX] at h
  split at h
  · cases h
  · rename_i c hc
    split at h
    · rename_i rc res h1 h2
      obtain rfl := Option.some.inj h
      exact ⟨c, rc, hc, h1, h2, rfl, rfl⟩
    · cases h

theorem ARV.rep {w : World} {X : Nat → Prop} {A : Pls} {L : List Entry} {s : List Sv} {v : List Value} (h : ArgsRepV w X s v) : ArgsRep w X A L s v := ⟨h.1, fun i x y h1 h2 => (h.2 i x y h1 h2).rep⟩

theorem goodV_of_vc {f : FuncId} {fc : Bool} {fn : Func} {rf : RF} {args : List Sv} {Post : Sv → Prop} (hf : P.funcs[f]? = some fn) (hc : compX fc P fn = some rf) (hn : args.length ≤ rf.nt) (hv : VC G P 0 rf.body (endV G rf.res Post) ⟨initS 0 args, []⟩) : GoodV G P f args Post := by
  intro w X vs hX hG ha
  obtain ⟨c, rc, hb, hcc, hres, hnt, hbody⟩ := comp_ok hc
  rw [hbody] at hv
  have hR : R G X w [] [] fn.ntmps ⟨initS 0 args, []⟩ [] { tmps := vs.toArray ++ Array.replicate (fn.ntmps - vs.toArray.size) undef, defers := [] } w := by
    have hsl : ArgsRep w (fun b => Owned [] b ∨ X b) [] [] args vs := ⟨ha.1, fun i s v h1 h2 => SRepV.rep ((ha.2 i s v h1 h2).keep ⟨Nat.le_refl _, fun _ _ _ => rfl, fun b _ hb => by
      rcases hb with ⟨i, p, hp, _⟩ | hb
      · simp at hp
      · exact hb⟩)⟩
    refine ⟨⟨rfl, fun i j p q h => by simp at h, fun b ⟨i, p, h, _⟩ => by simp at h, fun i e pl h => by simp at h⟩, fun i => start_slots hsl i, rfl, ?_, hG.less ?_, Fr.refl _ _, fun b h => .inl h, Stab.refl _ _⟩
    · have := ha.1
      simp only [Array.size_append, List.size_toArray, Array.size_replicate]
      omega
    · rintro b (⟨i, p, h, _⟩ | h)
      · simp at h
      · exact h
  refine calls_of_wp hf hb ?_
  refine trim_sound (G := G) (L0 := []) (A0 := []) hX fc (resSlots rf.res) c rc [] (resSlots rf.res) hcc (endV G rf.res Post) _ (fun out st A a w' h hq => ?_) _ _ _ _ hR hv
  have fin : (match resS G st rf.res with | some r => (match fzR st.L r with | some (x, _) => Post x | none => False) | none => False) → a.defers = [] ∧ ∃ v, (results fn a.tmps).run P w' = .ok v w' ∧ ∃ v' r, Ending.returned v = .returned v' ∧ Post r ∧ SRepV w' X r v' ∧ Fr w (fun _ => False) w' := by
    intro hq
    split at hq
    · rename_i r hr
      split at hq
      · rename_i x L1 hx
        obtain ⟨v, h1, h2⟩ := res_sound h hres hr
        obtain ⟨A', n1, h3⟩ := fzR_rep (h.size0 hX) hx h.heap h2
        refine ⟨h.defers, v, h1, v, x, rfl, hq, h3.keep ⟨Nat.le_refl _, fun _ _ _ => rfl, fun b _ hb => .inr hb⟩, ?_⟩
        exact ⟨h.frame.os, h.frame.tape, h.frame.output, h.frame.size, fun k hk _ => h.frame.block k hk (fun ⟨i, p, hp, _⟩ => by simp at hp)⟩
      · cases hq
    · cases hq
  cases out with
  | normal => exact fin hq
  | ret => exact fin hq
  | exit i => cases hq

theorem good_of_vc {f : FuncId} {fc : Bool} {fn : Func} {rf : RF} {args : List Sv} {L : List Entry} {Post : Sv → List Entry → Prop} (hf : P.funcs[f]? = some fn) (hc : compX fc P fn = some rf) (hn : args.length ≤ rf.nt) (hv : VC G P L.length rf.body (endQ G L.length rf.res Post) ⟨initS 0 args, L⟩) : Good G P f args L Post := by
  intro w F A vs hF hh hG ha
  obtain ⟨c, rc, hb, hcc, hres, hnt, hbody⟩ := comp_ok hc
  rw [hbody] at hv
  have hR : R G F w L A fn.ntmps ⟨initS 0 args, L⟩ A { tmps := vs.toArray ++ Array.replicate (fn.ntmps - vs.toArray.size) undef, defers := [] } w := by
    refine ⟨hh, fun i => start_slots ha i, rfl, ?_, hG, Fr.refl _ _, fun b h => .inl h, Stab.refl _ _⟩
    have := ha.1
    simp only [Array.size_append, List.size_toArray, Array.size_replicate]
    omega
  refine calls_of_wp hf hb ?_
  refine trim_sound (G := G) (L0 := L) (A0 := A) hF fc (resSlots rf.res) c rc [] (resSlots rf.res) hcc (endQ G L.length rf.res Post) _ (fun out st A1 a w' h hq => ?_) _ _ _ _ hR hv
  have fin : (match resS G st rf.res with | some r => (match gcRes L.length r st.L with | some (x, L') => Post x L' | none => False) | none => False) → a.defers = [] ∧ ∃ v, (results fn a.tmps).run P w' = .ok v w' ∧ ∃ v' r L' A', Ending.returned v = .returned v' ∧ Post r L' ∧ HeapOK w' F A' L' ∧ SRep w' (fun b => Owned A' b ∨ F b) A' L' r v' ∧ Fr w (Owned A) w' ∧ OwnNew w A A' ∧ Stab L A L' A' := by
    intro hq
    split at hq
    · rename_i r hr
      split at hq
      · rename_i x L1 hx
        obtain ⟨v, h1, h2⟩ := res_sound h hres hr
        simp only [gcRes] at hx
        obtain ⟨g1, g2, g3⟩ := gc_r r (kbase L.length) (kbase_nd _)
        split at hx
        · rename_i ks' L' he
          simp only [Option.some.injEq, Prod.mk.injEq] at hx
          obtain ⟨rfl, rfl⟩ := hx
          obtain ⟨A', k1, k2, k3, k4, k5, k6, k7⟩ := gc_heap (w0 := w) g2 g1 he h.heap h.own h.stab rfl
          exact ⟨h.defers, v, h1, v, _, _, A', rfl, hq, k1, ren_srep k2 k3 (g3.mono (fun i k h => k4.get h) (fun k h => k4.get h)) h2, h.frame, k5, k6⟩
        · cases hx
      · cases hq
    · cases hq
  cases out with
  | normal => exact fin hq
  | ret => exact fin hq
  | exit i => cases hq
end
end Go.LH
