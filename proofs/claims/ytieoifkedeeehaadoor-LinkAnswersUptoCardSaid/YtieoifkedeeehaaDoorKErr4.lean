/- api.Place. -/
import Derived.Test.YtieoifkedeeehaaDoorKErr3
import Derived.Test.YtieoifkedeeehaaDoorKErr2
namespace Go.LH.K
set_option linter.unusedSimpArgs false
set_option linter.unusedVariables false
set_option maxRecDepth 10000
set_option maxHeartbeats 4000000
open Go Go.LH Go.Proofs
def boxL (c : Cv) : List Entry := [⟨true, 0, 1, [[c]]⟩]
theorem rep_val {w : World} {X : Nat → Prop} {A : Pls} {L : List Entry} {x v : Value} (h : Rep w X A L (.val x) v) : v = x := by
  cases h with
  | v _ _ h => exact repv_val h
theorem box_at {w : World} {F : Nat → Prop} {A : Pls} {c : Cv} {v : Value} (hh : HeapOK w F A (boxL c)) (h : SRep w (fun b => Owned A b ∨ F b) A (boxL c) (.c (.ifc 95 (.np 0 0 0 0))) v) :
    ∃ (p : Pl) (arr : Array Value) (el : TypeId) (fz : Nat × Nat) (u : Value), A = [some p] ∧ v = .iface 95 (.pointer (some ⟨p.b, p.o, none⟩)) ∧ w.heap[p.b]? = some (.cells arr el fz) ∧ arr[p.o]? = some u ∧ Rep w (fun b => Owned A b ∨ F b) A (boxL c) c u ∧ w.frozen? ⟨p.b, p.o, none⟩ = false := by
  cases h with
  | c _ _ h => cases h with
    | v _ _ h => cases h with
      | ifc _ _ u h => cases h
    | ifc _ _ u h => cases h with
      | v _ _ h => cases h
      | np _ _ _ _ _ h1 h =>
        obtain ⟨e, he, hg, hx⟩ := h
        obtain rfl : e = ⟨true, 0, 1, [[c]]⟩ := by simpa [boxL] using he.symm
        obtain ⟨_, p, hp, rfl⟩ := hx rfl
        have hl : A.length = 1 := by rw [hh.len]; rfl
        obtain ⟨hw, arr, el, fz, h2, h3, h4, h5, h6⟩ := (hh.ent 0 ⟨true, 0, 1, [[c]]⟩ (some p) rfl hp).cells (.inl rfl)
        obtain ⟨h7, h8⟩ := h6 0 [c] rfl
        obtain ⟨u, h9, h10⟩ := h8 0 c rfl
        have hA : A = [some p] := by
          match A, hl with
          | [q], _ => simp at hp; rw [hp]
        have hlt : p.o < arr.size := by
          have := (Array.getElem?_eq_some_iff.1 h9).1
          simpa using this
        refine ⟨p, arr, el, fz, u, hA, by simp, h2, by simpa using h9, by simpa using h10, ?_⟩
        have := h4 p.o hlt
        simp only [World.frozen?, h2]
        obtain ⟨lo, hi⟩ := fz
        simp only at this ⊢
        simp only [Bool.and_eq_false_iff, decide_eq_false_iff_not]
        omega
theorem typ_at {b : Nat → Addr} {w : World} {X : Nat → Prop} (hG : GOK (zG b) w X) : w.cell? ⟨21, 0, none⟩ = some (.iface 111 (.agg #[.pointer (some ⟨22, 40, none⟩)])) :=
  ((hG 21 [errT] rfl).2.2.1 0 errT rfl).2
theorem cell_at {w : World} {p : Nat} {o : Nat} {arr : Array Value} {el : TypeId} {fz : Nat × Nat} {u : Value} (h : w.heap[p]? = some (.cells arr el fz)) (k : arr[o]? = some u) : w.cell? ⟨p, o, none⟩ = some u := by
  simp [World.cell?, h, k]
abbrev as0 : List Entry := boxL (.val (.pointer none))
theorem sargs2 {w : World} {X : Nat → Prop} {A : Pls} {L : List Entry} {s t : Sv} {vs : List Value} (h : ArgsRep w X A L [s, t] vs) : ∃ v u, vs = [v, u] ∧ SRep w X A L s v ∧ SRep w X A L t u := by
  obtain ⟨h1, h2⟩ := h
  match vs, h1 with
  | [v, u], _ => exact ⟨v, u, rfl, h2 0 s v rfl rfl, h2 1 t u rfl rfl⟩
theorem good_nil {b : Nat → Addr} : Good (zG b) Tryd.prog 45 [.c (.val .nilIface), .c (.ifc 95 (.np 0 0 0 0))] as0 (fun r L => r = .c (bC false) ∧ L = as0) := by
  intro w F A vs hF hh hG ha
  obtain ⟨v, u, rfl, hv, hu⟩ := sargs2 ha
  obtain rfl := rep_val hv.inv_c
  refine Calls.mono (as_nil u w) ?_
  rintro e w' ⟨rfl, rfl⟩
  exact ⟨_, .c (bC false), as0, A, rfl, ⟨rfl, rfl⟩, hh, .c _ _ (.v _ _ (.val _ rfl)), Fr.refl _ _, fun _ h => .inl h, Stab.refl _ _⟩
theorem good_miss {b : Nat → Addr} (g : Nat) : Good (zG b) Tryd.prog 45 [.c (.val (sent b g)), .c (.ifc 95 (.np 0 0 0 0))] as0 (fun r L => r = .c (bC false) ∧ L = as0) := by
  intro w F A vs hF hh hG ha
  obtain ⟨v, u, rfl, hv, hu⟩ := sargs2 ha
  obtain rfl := rep_val hv.inv_c
  obtain ⟨p, arr, el, fz, x, hA, rfl, h1, h2, h3, h4⟩ := box_at hh hu
  refine Calls.mono (as_miss (b g) ⟨p.b, p.o, none⟩ x w (typ_at hG) (cell_at h1 h2) h4) ?_
  rintro e w' ⟨rfl, hf⟩
  have nx := Nx.world (F := F) hh hf
  exact ⟨_, .c (bC false), as0, A, rfl, ⟨rfl, rfl⟩, nx.heap, .c _ _ (.v _ _ (.val _ rfl)), nx.frame, nx.own, nx.stab⟩
theorem good_hit {b : Nat → Addr} (n : Int) (g : Nat) : Good (zG b) Tryd.prog 45 [.c (.ifc 93 (.rp [iC n, .val (sent b g)])), .c (.ifc 95 (.np 0 0 0 0))] as0 (fun r L => r = .c (bC true) ∧ L = boxL (.rp [iC n, .val (sent b g)])) := by
  intro w F A vs hF hh hG ha
  obtain ⟨v, u, rfl, hv, hu⟩ := sargs2 ha
  obtain ⟨p, arr, el, fz, x, hA, rfl, h1, h2, h3, h4⟩ := box_at hh hu
  have hv2 : ∃ e : Addr, v = .iface 93 (.pointer (some e)) ∧ RepV w (fun b => Owned A b ∨ F b) (.rp [iC n, .val (sent b g)]) (.pointer (some e)) := by
    cases hv with
    | c _ _ h => cases h with
      | v _ _ h => cases h with
        | ifc _ _ u h => cases h with
          | rp _ b o us hb hX hc hr => exact ⟨⟨b, o, none⟩, rfl, .rp _ b o us hb hX hc hr⟩
      | ifc _ _ u h => cases h with
        | v _ _ h => cases h with
          | rp _ b o us hb hX hc hr => exact ⟨⟨b, o, none⟩, rfl, .rp _ b o us hb hX hc hr⟩
  obtain ⟨e, rfl, hrp⟩ := hv2
  refine Calls.mono (as_hit e ⟨p.b, p.o, none⟩ x w (typ_at hG) (cell_at h1 h2) h4) ?_
  rintro ev w' ⟨rfl, rfl⟩
  have hf : Fr w (fun _ => False) ((((w.alloc (.cells #[.pointer (some ⟨p.b, p.o, none⟩)] 95)).alloc (.cells #[.pointer (some ⟨22, 95, none⟩), .pointer (some ⟨w.heap.size, 0, none⟩), .int .u64 150] 124)).alloc (.cells #[.pointer (some ⟨22, 95, none⟩), .pointer (some ⟨w.heap.size, 0, none⟩), .int .u64 150] 124)).alloc (.cells #[.pointer (some e)] 93)) :=
    fr_trans0 (fr_trans0 (fr_trans0 (fr_alloc _ _) (fr_alloc _ _)) (fr_alloc _ _)) (fr_alloc _ _)
  generalize ((((w.alloc (.cells #[.pointer (some ⟨p.b, p.o, none⟩)] 95)).alloc (.cells #[.pointer (some ⟨22, 95, none⟩), .pointer (some ⟨w.heap.size, 0, none⟩), .int .u64 150] 124)).alloc (.cells #[.pointer (some ⟨22, 95, none⟩), .pointer (some ⟨w.heap.size, 0, none⟩), .int .u64 150] 124)).alloc (.cells #[.pointer (some e)] 93)) = w4 at hf ⊢
  have nx := Nx.world (F := F) hh hf
  have hrp4 := hrp.keep nx.keep
  have hF4 : ∀ b, F b → b < w4.heap.size := fun b hb => Nat.lt_of_lt_of_le (hF b hb) hf.size
  have st := (store_nx (id := 0) (gen := 0) (row := 0) (col := 0) (n := 1) (us := [.pointer (some e)]) (cs := [.rp [iC n, .val (sent b g)]]) nx.heap hF4 (e := ⟨true, 0, 1, [[.val (.pointer none)]]⟩) rfl (.inl rfl) (by rw [hA]; rfl) (r := [.val (.pointer none)]) rfl (by simp) rfl (by
    intro i c u hc hu
    match i, hc, hu with
    | 0, hc, hu =>
      simp at hc hu; subst hc; subst hu
      simp only [if_true]
      exact .v _ _ hrp4)).2
  have hset : w4.setCells p.b (p.o + 0 * 1 + 0) [.pointer (some e)] = w4.setCell ⟨p.b, p.o, none⟩ (.pointer (some e)) := by
    simp [World.setCells]
  have nx2 := nx.trans st
  simp only [] at nx2
  rw [hset] at nx2
  exact ⟨_, .c (bC true), _, _, rfl, ⟨rfl, rfl⟩, nx2.heap, .c _ _ (.v _ _ (.val _ rfl)), nx2.frame, nx2.own, nx2.stab⟩
section
variable {b : Nat → Addr} (hP : Codes Tryd.prog)
include hP
theorem p_nil : Ans (zG b) Tryd.prog 35 [.c (.val .nilIface)] (.c (iC (-1))) := by
  refine good_z hP rfl rfl ?_
  simp -implicitDefEqProofs only [go_sem, kbase, Nat.reduceBEq, Nat.reduceLT, Nat.reduceAdd, Nat.reduceEqDiff, Nat.reduceLeDiff, reduceIte, Int.reduceEq, Int.reduceLT, Int.reduceLE, Int.reduceToNat, Int.reduceAdd, r35]
  refine call_gc (ks := [some 0]) (Lc := as0) rfl good_nil ?_
  rintro _ _ ⟨rfl, rfl⟩
  repeat' first | simp -implicitDefEqProofs only [go_sem, kbase, Nat.reduceBEq, Nat.reduceLT, Nat.reduceAdd, Nat.reduceEqDiff, Nat.reduceLeDiff, reduceIte, Int.reduceEq, Int.reduceLT, Int.reduceLE, Int.reduceToNat, Int.reduceAdd, *, lay, back, renR, renS, ren] | (with_reducible refine guard_intro (fun _ => ?_) (fun _ => ?_)) | (with_reducible refine cond_intro (fun _ => ?_) (fun _ => ?_)) | ((with_reducible apply gc_intro); exact rfl) | (with_reducible refine guardD_intro (fun _ => ?_) (fun _ => ?_))
theorem p_sent (g : Nat) : Ans (zG b) Tryd.prog 35 [.c (.val (sent b g))] (.c (iC (-1))) := by
  refine good_z hP rfl rfl ?_
  simp -implicitDefEqProofs only [go_sem, kbase, Nat.reduceBEq, Nat.reduceLT, Nat.reduceAdd, Nat.reduceEqDiff, Nat.reduceLeDiff, reduceIte, Int.reduceEq, Int.reduceLT, Int.reduceLE, Int.reduceToNat, Int.reduceAdd, r35]
  refine call_gc (ks := [some 0]) (Lc := as0) rfl (good_miss g) ?_
  rintro _ _ ⟨rfl, rfl⟩
  repeat' first | simp -implicitDefEqProofs only [go_sem, kbase, Nat.reduceBEq, Nat.reduceLT, Nat.reduceAdd, Nat.reduceEqDiff, Nat.reduceLeDiff, reduceIte, Int.reduceEq, Int.reduceLT, Int.reduceLE, Int.reduceToNat, Int.reduceAdd, *, lay, back, renR, renS, ren] | (with_reducible refine guard_intro (fun _ => ?_) (fun _ => ?_)) | (with_reducible refine cond_intro (fun _ => ?_) (fun _ => ?_)) | ((with_reducible apply gc_intro); exact rfl) | (with_reducible refine guardD_intro (fun _ => ?_) (fun _ => ?_))
theorem p_at (n : Int) (g : Nat) : Ans (zG b) Tryd.prog 35 [.c (.ifc 93 (.rp [iC n, .val (sent b g)]))] (.c (iC n)) := by
  refine good_z hP rfl rfl ?_
  simp -implicitDefEqProofs only [go_sem, kbase, Nat.reduceBEq, Nat.reduceLT, Nat.reduceAdd, Nat.reduceEqDiff, Nat.reduceLeDiff, reduceIte, Int.reduceEq, Int.reduceLT, Int.reduceLE, Int.reduceToNat, Int.reduceAdd, r35]
  refine call_gc (ks := [some 0]) (Lc := as0) rfl (good_hit n g) ?_
  rintro _ _ ⟨rfl, rfl⟩
  repeat' first | simp -implicitDefEqProofs only [go_sem, kbase, Nat.reduceBEq, Nat.reduceLT, Nat.reduceAdd, Nat.reduceEqDiff, Nat.reduceLeDiff, reduceIte, Int.reduceEq, Int.reduceLT, Int.reduceLE, Int.reduceToNat, Int.reduceAdd, *, lay, back, renR, renS, ren, renE, renL, boxL] | (with_reducible refine guard_intro (fun _ => ?_) (fun _ => ?_)) | (with_reducible refine cond_intro (fun _ => ?_) (fun _ => ?_)) | ((with_reducible apply gc_intro); exact rfl) | (with_reducible refine guardD_intro (fun _ => ?_) (fun _ => ?_))
end
end Go.LH.K
