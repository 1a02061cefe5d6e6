/- errors.Is as a contract. -/
import Derived.Test.YtieoifkedeeehaaDoorKBase
import Derived.Test.YtieoifkedeeehaaDoorKErr
namespace Go.LH.K
open Go Go.LH Go.Proofs
theorem args1 {w : World} {X : Nat → Prop} {s : Sv} {vs : List Value} (h : ArgsRepV w X [s] vs) : ∃ v, vs = [v] ∧ SRepV w X s v := by
  obtain ⟨h1, h2⟩ := h
  match vs, h1 with
  | [v], _ => exact ⟨v, rfl, h2 0 s v rfl rfl⟩
theorem args2 {w : World} {X : Nat → Prop} {s t : Sv} {vs : List Value} (h : ArgsRepV w X [s, t] vs) : ∃ v u, vs = [v, u] ∧ SRepV w X s v ∧ SRepV w X t u := by
  obtain ⟨h1, h2⟩ := h
  match vs, h1 with
  | [v, u], _ => exact ⟨v, u, rfl, h2 0 s v rfl rfl, h2 1 t u rfl rfl⟩
theorem val_eq {w : World} {X : Nat → Prop} {x v : Value} (h : SRepV w X (.c (.val x)) v) : v = x := by
  cases h with
  | c _ _ h => cases h; rfl
theorem repv_val {w : World} {X : Nat → Prop} {x v : Value} (h : RepV w X (.val x) v) : v = x := by cases h; rfl
theorem at_eq {w : World} {X : Nat → Prop} {t : TypeId} {n : Int} {x v : Value} (h : SRepV w X (.c (.ifc t (.rp [iC n, .val x]))) v) :
    ∃ b o, v = .iface t (.pointer (some ⟨b, o, none⟩)) ∧ b < w.heap.size ∧ w.cell? ⟨b, o, none⟩ = some (.int .i64 n) ∧ w.cell? ⟨b, o + 1, none⟩ = some x := by
  cases h with
  | c _ _ h => cases h with
    | ifc _ _ u h => cases h with
      | rp _ b o us hb hX hc hr =>
        refine ⟨b, o, rfl, hb, ?_, ?_⟩
        · have h1 := hc 0 _ rfl
          have h2 := hr 0 _ rfl
          rw [show o + 0 = o from rfl] at h1
          rw [h1, repv_val h2]
        · have h1 := hc 1 _ rfl
          have h2 := hr 1 _ rfl
          rw [h1, repv_val h2]
theorem sent_cells {b : Nat → Addr} {w : World} {X : Nat → Prop} (hG : GOK (zG b) w X) {g : Nat} (hg : g < 20) : ∃ (c : Array Value) (ty : TypeId), w.heap[(b g).block]? = some (.cells c ty (0, 0)) := by
  have h := (hG g [sent b g] (by simp [zG, hg])).2.2.2 (sent b g) 145 (b g) (List.mem_singleton.2 rfl) rfl
  exact h.2.2
variable {b : Nat → Addr} (hb : ∀ g h, g < 20 → h < 20 → b g = b h → g = h)
include hb
theorem e_is (g h : Nat) (hg : g < 20) (hh : h < 20) : Ans (zG b) Tryd.prog 33 [.c (.val (sent b g)), .c (.val (sent b h))] (.c (bC (g == h))) := by
  intro w X vs h1 hG ha
  obtain ⟨v, u, rfl, hv, hu⟩ := args2 ha
  obtain rfl := val_eq hv
  obtain rfl := val_eq hu
  by_cases he : g = h
  · subst he
    refine Calls.mono (is_same (b g) w) ?_
    rintro e w' ⟨rfl, rfl⟩
    exact ⟨_, _, rfl, rfl, by simp only [beq_self_eq_true]; exact .c _ _ (.val _ rfl), Fr.refl _ _⟩
  · obtain ⟨ca, ta, h2⟩ := sent_cells hG hg
    obtain ⟨cb, tb, h3⟩ := sent_cells hG hh
    refine Calls.mono (is_other (b g) (b h) ca cb ta tb w (fun hx => he (hb g h hg hh hx)) h2 h3) ?_
    rintro e w' ⟨rfl, rfl⟩
    exact ⟨_, _, rfl, rfl, by rw [show (g == h) = false by simp [he]]; exact .c _ _ (.val _ rfl), Fr.refl _ _⟩
theorem e_isAt (n : Int) (g h : Nat) (hg : g < 20) (hh : h < 20) : Ans (zG b) Tryd.prog 33 [.c (.ifc 93 (.rp [iC n, .val (sent b g)])), .c (.val (sent b h))] (.c (bC (g == h))) := by
  intro w X vs h1 hG ha
  obtain ⟨v, u, rfl, hv, hu⟩ := args2 ha
  obtain ⟨pb, po, rfl, hpb, hc0, hc1⟩ := at_eq hv
  obtain rfl := val_eq hu
  by_cases he : g = h
  · subst he
    refine Calls.mono (is_wrap_same pb po (b g) w hc1) ?_
    rintro e w' ⟨rfl, rfl⟩
    exact ⟨_, _, rfl, rfl, by simp only [beq_self_eq_true]; exact .c _ _ (.val _ rfl), Fr.refl _ _⟩
  · obtain ⟨ca, ta, h2⟩ := sent_cells hG hg
    obtain ⟨cb, tb, h3⟩ := sent_cells hG hh
    refine Calls.mono (is_wrap_other pb po (b h) (b g) ca cb ta tb w hc1 (fun hx => he (hb g h hg hh hx)) h2 h3) ?_
    rintro e w' ⟨rfl, rfl⟩
    exact ⟨_, _, rfl, rfl, by rw [show (g == h) = false by simp [he]]; exact .c _ _ (.val _ rfl), Fr.refl _ _⟩
end Go.LH.K
