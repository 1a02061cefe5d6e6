/- Link: the errors' variables, out of the row's list. -/
import Derived.Test.YtieoifkedeeehaaDoorRows
import Derived.Test.YtieoifkedeeehaaDoorKBase
import Derived.LaidLaws
import Derived.Lib.LaidTab
import Derived.Stop.LaidErr
import Derived.FnData
namespace Go.LH.K
open Go Go.LH Go.Proofs
set_option maxRecDepth 100000
set_option maxHeartbeats 4000000
theorem z_name : Tryd.prog.typeName? 3 145 = some "*errors.errorString" := by kernel_rfl
theorem z_star : "*" ++ "errors.errorString" = "*errors.errorString" := by decide
theorem z_row (u : TypeId) (h : Tryd.prog.typeName? 3 u = some "*errors.errorString") : u = 145 :=
  typeName_ptr_named (nm := "errors.errorString") (by rw [z_star]; kernel_rfl) (by kernel_rfl) (by decide) u (by rw [z_star]; exact h)
theorem z_cells165 : Tryd.prog.cellsOf 165 = 1 := by kernel_rfl
theorem z_cells9 : Tryd.prog.cellsOf 9 = 1 := by kernel_rfl
/-- A variable that holds a sentinel. -/
def sentD (txt : List UInt8) : DataW Unit := .iface "*errors.errorString" (.ptr (.agg [.lit (.string txt)]))
def plc (a : Addr) : MemPlace := .cell a.block a.off
theorem laid_sents {W : World} : ∀ (l : List (String × Nat × List UInt8)) (ps : List MemPlace),
    (∀ x ∈ l, Tryd.prog.globalNamed x.1 = some x.2.1 ∧ (Tryd.prog.globals[x.2.1]?).map (·.type) = some 40) →
    DataW.LaidVars Tryd.prog W (l.map fun x => (x.1, sentD x.2.2)) ps →
    (∀ b off, MemPlace.cell b off ∈ ps → (∃ c t, W.heap[b]? = some (.cells c t (0, 0))) ∧ ∀ u v, W.cell? ⟨b, off, none⟩ = some (.iface u v) → Value.okWide Tryd.prog W .any 0 u v) →
    ∃ adr : List Addr, adr.length = l.length ∧ (adr.map plc).Sublist ps ∧ (∀ a ∈ adr, a.spot = none) ∧
      ∀ (i : Nat) (x : String × Nat × List UInt8) (a : Addr), l[i]? = some x → adr[i]? = some a → W.cell? ⟨x.2.1, 0, none⟩ = some (.iface 145 (.pointer (some a))) ∧ ∃ c t, W.heap[a.block]? = some (.cells c t (0, 0))
  | [], ps, _, h, _ => by
    obtain rfl : ps = [] := h
    exact ⟨[], rfl, List.Sublist.refl _, by simp, by intro i x a h; simp at h⟩
  | (n, g, txt) :: l, ps, hg, h, hrows => by
    obtain ⟨g', t, cs, fuel, p, q, h1, h2, h3, h4, h5, rfl⟩ := h
    obtain ⟨g1, g2⟩ := hg _ (List.mem_cons_self ..)
    simp only at g1 g2
    obtain rfl := Option.some.inj (g1.symm.trans h1)
    obtain rfl := Option.some.inj (g2.symm.trans h2)
    obtain ⟨lc⟩ := cs
    have ok : ∀ u v, lc = [.iface u v] → Value.okWide Tryd.prog W .any 0 u v := fun u v e => by
      subst e
      exact (hrows g 0 (by simp [MemPlace.row])).2 u v (by simpa using World.var?_cell h1 h3 0)
    obtain ⟨a, s, rfl, hc, hs, hz, rfl⟩ := errorString_of_trod Tryd.underlying40 z_row Tryd.underlying145 Tryd.underlying165 rfl rfl Tryd.underlying9 z_cells165 z_cells9 h4 ok
    obtain ⟨adr, k1, k2, k3, k4⟩ := laid_sents l q (fun x hx => hg x (List.mem_cons_of_mem _ hx)) h5 (fun b off hb => hrows b off (List.mem_append_right _ hb))
    obtain ⟨c, ty, hb⟩ := (hrows a.block a.off (by simp [MemPlace.row])).1
    have hsp : a.spot = none := by
      unfold World.cell? at hc
      rw [hb] at hc
      simp only at hc
      split at hc
      · cases hc
      · rename_i hn; simpa using hn
    refine ⟨a :: adr, by simp [k1], ?_, ?_, ?_⟩
    · have e : MemPlace.row a 1 = [plc a] := by simp [MemPlace.row, plc]
      rw [e]
      simp only [List.map_cons]
      exact List.Sublist.trans (List.Sublist.cons_cons _ k2) (by rw [List.append_assoc]; exact List.sublist_append_right _ _)
    · intro x hx
      rcases List.mem_cons.1 hx with rfl | hx
      · exact hsp
      · exact k3 x hx
    · intro i x b' hi hb'
      match i, hi, hb' with
      | 0, hi, hb' =>
        simp at hi hb'; subst hi; subst hb'
        exact ⟨by simpa using World.var?_cell h1 h3 0, c, ty, hb⟩
      | i + 1, hi, hb' => exact k4 i x b' (by simpa using hi) (by simpa using hb')
/-- The list: name, number, words. -/
def zlist : List (String × Nat × List UInt8) := [("ferry/api.ErrShort", 2, [116, 104, 101, 32, 98, 121, 116, 101, 115, 32, 101, 110, 100, 32, 116, 111, 111, 32, 101, 97, 114, 108, 121]), ("ferry/api.ErrRest", 3, [115, 111, 109, 101, 116, 104, 105, 110, 103, 32, 105, 115, 32, 108, 101, 102, 116, 32, 111, 118, 101, 114]), ("ferry/api.ErrTag", 4, [97, 110, 111, 116, 104, 101, 114, 32, 116, 97, 103, 32, 105, 115, 32, 119, 97, 110, 116, 101, 100]), ("ferry/api.ErrRange", 5, [97, 32, 110, 117, 109, 98, 101, 114, 32, 111, 117, 116, 32, 111, 102, 32, 105, 116, 115, 32, 114, 97, 110, 103, 101]), ("ferry/api.ErrLength", 6, [97, 32, 108, 101, 110, 103, 116, 104, 32, 116, 104, 97, 116, 32, 105, 115, 110, 39, 116, 32, 116, 104, 101, 32, 116, 104, 105, 110, 103, 39, 115]), ("ferry/api.ErrSum", 7, [116, 104, 101, 32, 99, 104, 101, 99, 107, 32, 115, 117, 109, 32, 105, 115, 32, 119, 114, 111, 110, 103]), ("ferry/api.ErrKind", 8, [110, 111, 32, 115, 117, 99, 104, 32, 107, 105, 110, 100]), ("ferry/api.ErrPlan", 9, [110, 111, 116, 32, 111, 102, 32, 116, 104, 105, 115, 32, 112, 108, 97, 110]), ("ferry/api.ErrState", 10, [116, 104, 101, 32, 115, 116, 97, 116, 101, 32, 98, 114, 101, 97, 107, 115, 32, 97, 32, 114, 117, 108, 101]), ("ferry/api.ErrBase", 11, [110, 111, 116, 32, 111, 118, 101, 114, 32, 116, 104, 105, 115, 32, 98, 97, 115, 101]), ("ferry/api.ErrSize", 1, [116, 111, 111, 32, 108, 97, 114, 103, 101]), ("ferry/api.ErrArg", 0, [97, 32, 119, 114, 111, 110, 103, 32, 97, 114, 103, 117, 109, 101, 110, 116]), ("ferry/api.ErrEnd", 13, [97, 32, 99, 111, 117, 110, 116, 101, 114, 32, 105, 115, 32, 97, 116, 32, 105, 116, 115, 32, 101, 110, 100]), ("ferry/api.ErrBusy", 14, [115, 111, 109, 101, 116, 104, 105, 110, 103, 32, 105, 115, 32, 117, 110, 100, 101, 114, 32, 119, 97, 121]), ("ferry/api.ErrDown", 15, [116, 104, 101, 32, 109, 111, 100, 117, 108, 101, 32, 105, 115, 32, 100, 111, 119, 110]), ("ferry/api.ErrLost", 16, [116, 104, 101, 32, 112, 97, 114, 116, 105, 116, 105, 111, 110, 32, 105, 115, 32, 108, 111, 115, 116]), ("ferry/api.ErrNone", 12, [116, 104, 101, 114, 101, 32, 105, 115, 32, 110, 111, 110, 101]), ("ferry/api.ErrText", 17, [97, 32, 116, 101, 120, 116, 32, 116, 104, 97, 116, 32, 105, 115, 110, 39, 116, 32, 111, 102, 32, 116, 104, 101, 32, 108, 97, 110, 103, 117, 97, 103, 101]), ("ferry/api.ErrStop", 18, [99, 97, 110, 99, 101, 108, 108, 101, 100]), ("ferry/api.ErrDivide", 19, [100, 105, 118, 105, 115, 105, 111, 110, 32, 98, 121, 32, 122, 101, 114, 111])]
def zpos : List Nat := [11, 10, 0, 1, 2, 3, 4, 5, 6, 7, 8, 9, 16, 12, 13, 14, 15, 17, 18, 19]
theorem zlist_ok : ∀ x ∈ zlist, Tryd.prog.globalNamed x.1 = some x.2.1 ∧ (Tryd.prog.globals[x.2.1]?).map (·.type) = some 40 := by
  intro x hx
  simp only [zlist, List.mem_cons, List.mem_nil_iff, or_false] at hx
  rcases hx with rfl | rfl | rfl | rfl | rfl | rfl | rfl | rfl | rfl | rfl | rfl | rfl | rfl | rfl | rfl | rfl | rfl | rfl | rfl | rfl <;> exact ⟨by kernel_rfl, by kernel_rfl⟩
theorem zpos_ok : ∀ g, g < 20 → ∃ i x, zpos[g]? = some i ∧ i < 20 ∧ zlist[i]? = some x ∧ x.2.1 = g := by
  intro g hg
  have : g = 0 ∨ g = 1 ∨ g = 2 ∨ g = 3 ∨ g = 4 ∨ g = 5 ∨ g = 6 ∨ g = 7 ∨ g = 8 ∨ g = 9 ∨ g = 10 ∨ g = 11 ∨ g = 12 ∨ g = 13 ∨ g = 14 ∨ g = 15 ∨ g = 16 ∨ g = 17 ∨ g = 18 ∨ g = 19 := by omega
  rcases this with rfl | rfl | rfl | rfl | rfl | rfl | rfl | rfl | rfl | rfl | rfl | rfl | rfl | rfl | rfl | rfl | rfl | rfl | rfl | rfl <;> exact ⟨_, _, rfl, by decide, rfl, rfl⟩
theorem zrow_err : ((List.range Tryd.prog.types.size).all fun ty => !(Tryd.prog.rowNamed ty [101, 114, 114, 111, 114]) || ty == 40) = true := by kernel_rfl
theorem zcut : (Tryd.prog.cutTypes.find? (·.1 == "internal/reflectlite.rtype")).map (·.2) = some 111 := by kernel_rfl
theorem zhandle : typeHandle Tryd.prog 40 = .pointer (some ⟨22, 40, none⟩) := by kernel_rfl
theorem zerrT : Tryd.prog.globalNamed "errors.errorType" = some 21 := by kernel_rfl
/-- WHAT THE ROW's LIST GIVES. -/
theorem laid_all {W : World} (h : laidMetH Tryd.prog YtieoifkedeeehaaDoor.Rows.linkAnswersUptoRow.laid W) : ∃ b : Nat → Addr, (∀ g h, g < 20 → h < 20 → b g = b h → g = h) ∧ GOK (zG b) W (fun _ => False) := by
  have h0 : laidMet Tryd.prog (("math/bits.deBruijn32tab", Lib.tabData .u8 (tzTab.map fun (n : Nat) => (n : Int))) :: zlist.map fun x => (x.1, sentD x.2.2)) W ∧ handlesMet Tryd.prog [("errors.errorType", YtieoifkedeeehaaDoor.Rows.laid_errors_errorType)] W := h
  have htab := Lib.tabIs_of_head (g := 20) (t := 109) (e := 5) (n := 32) (by kernel_rfl) (by kernel_rfl) (by kernel_rfl) (by kernel_rfl) (by kernel_rfl) (by kernel_rfl) h0.1
  have h' := And.intro h0.1.tail h0.2
  obtain ⟨⟨ps, h1, h2, h3⟩, h4⟩ := h'
  obtain ⟨adr, k1, k2, k3, k4⟩ := laid_sents zlist ps zlist_ok h1 h3
  have hnd : (adr.map plc).Nodup := h2.sublist k2
  have hlen : adr.length = 20 := by rw [k1]; rfl
  have hat : ∀ g, g < 20 → ∃ i x a, zpos[g]? = some i ∧ zlist[i]? = some x ∧ x.2.1 = g ∧ adr[i]? = some a ∧ adr.getD (zpos.getD g 0) default = a := by
    intro g hg
    obtain ⟨i, x, e1, e2, e3, e4⟩ := zpos_ok g hg
    have hi : i < adr.length := by omega
    refine ⟨i, x, adr[i], e1, e3, e4, List.getElem?_eq_getElem hi, ?_⟩
    simp [List.getD, e1, List.getElem?_eq_getElem hi]
  have hB : ∃ B : Nat → Addr, ∀ g, g < 20 → ∃ i x a, zpos[g]? = some i ∧ zlist[i]? = some x ∧ x.2.1 = g ∧ adr[i]? = some a ∧ B g = a := ⟨fun g => adr.getD (zpos.getD g 0) default, hat⟩
  clear hat
  obtain ⟨B, hat⟩ := hB
  refine ⟨B, ?_, ?_⟩
  · intro g h hg hh he
    obtain ⟨i, x, a, e1, e2, e3, e4, e5⟩ := hat g hg
    obtain ⟨j, y, c, f1, f2, f3, f4, f5⟩ := hat h hh
    rw [e5, f5] at he
    subst he
    have hi := (List.getElem?_eq_some_iff.1 e4).1
    have hj := (List.getElem?_eq_some_iff.1 f4).1
    have hij : i = j := by
      have hp : ∀ (i j : Nat), i < j → adr[i]? = some a → adr[j]? = some a → False := by
        intro i j hlt h1 h2
        obtain ⟨q1, q2⟩ := List.getElem?_eq_some_iff.1 h1
        obtain ⟨q3, q4⟩ := List.getElem?_eq_some_iff.1 h2
        have := List.pairwise_iff_getElem.1 hnd i j (by simpa using q1) (by simpa using q3) hlt
        simp [q2, q4] at this
      rcases Nat.lt_trichotomy i j with hlt | heq | hgt
      · exact (hp i j hlt e4 f4).elim
      · exact heq
      · exact (hp j i hgt f4 e4).elim
    subst hij
    rw [e2] at f2
    obtain rfl := Option.some.inj f2
    omega
  · intro g l hl
    unfold zG at hl
    split at hl
    · rename_i hg
      obtain rfl := Option.some.inj hl
      obtain ⟨i, x, a, e1, e2, e3, e4, e5⟩ := hat g hg
      obtain ⟨q1, c, ty, q2⟩ := k4 i x a e2 e4
      rw [e3] at q1
      have hlt : ∀ {k : Nat} {o : Nat} {v : Value}, W.cell? ⟨k, o, none⟩ = some v → k < W.heap.size := by
        intro k o v hv
        unfold World.cell? at hv
        rcases Nat.lt_or_ge k W.heap.size with h | h
        · exact h
        · simp [Array.getElem?_eq_none h] at hv
      refine ⟨fun h => h, hlt q1, ?_, ?_⟩
      · intro j v hj
        match j, hj with
        | 0, hj =>
          simp at hj; subst hj
          refine ⟨rfl, ?_⟩
          simp only [sent, e5]; exact q1
      · intro v t a' hv he
        simp at hv; subst hv
        simp only [sent, e5] at he
        injection he with he1 he2
        injection he2 with he3
        injection he3 with he4
        subst he4
        refine ⟨fun h => h, ?_, c, ty, q2⟩
        rcases Nat.lt_or_ge a.block W.heap.size with h | h
        · exact h
        · simp [Array.getElem?_eq_none h] at q2
    · split at hl
      · rename_i hg
        subst hg
        obtain rfl := Option.some.inj hl
        have h5 := h4 _ (List.mem_cons_self ..)
        obtain ⟨name, u, ty, r1, r2, r3, r4, r5⟩ : ∃ name u ty, (YtieoifkedeeehaaDoor.Rows.laid_errors_errorType (H := Unit)).handleName? = some name ∧ (Tryd.prog.cutTypes.find? (·.1 == "internal/reflectlite.rtype")).map (·.2) = some u ∧ ty < Tryd.prog.types.size ∧ Tryd.prog.rowNamed ty name = true ∧ W.var? Tryd.prog "errors.errorType" = some #[.iface u (.agg #[typeHandle Tryd.prog ty])] := h5
        obtain rfl := Option.some.inj (zcut.symm.trans r2)
        have hn : name = [101, 114, 114, 111, 114] := (Option.some.inj ((show (YtieoifkedeeehaaDoor.Rows.laid_errors_errorType (H := Unit)).handleName? = some [101, 114, 114, 111, 114] from rfl).symm.trans r1)).symm
        subst hn
        have hty : ty = 40 := by
          have := List.all_eq_true.1 zrow_err ty (List.mem_range.2 r3)
          simpa [r4] using this
        subst hty
        rw [zhandle] at r5
        have q1 := World.var?_cell zerrT r5 0
        have q2 : W.cell? ⟨21, 0, none⟩ = some errT := by simpa [errT] using q1
        refine ⟨fun h => h, ?_, ?_, ?_⟩
        · unfold World.cell? at q2
          rcases Nat.lt_or_ge 21 W.heap.size with h | h
          · exact h
          · simp [Array.getElem?_eq_none h] at q2
        · intro j v hj
          match j, hj with
          | 0, hj => simp at hj; subst hj; exact ⟨rfl, q2⟩
        · intro v t a hv he
          simp at hv; subst hv
          simp only [errT] at he
          injection he with he1 he2
          cases he2
      · unfold zX at hl
        split at hl
        · rename_i hg
          subst hg
          obtain rfl := Option.some.inj hl
          have hc := fun i (hi : i < 32) => htab.cell (g := 20) (by kernel_rfl) i (by simpa [tzTab] using hi)
          have hlt : 20 < W.heap.size := by
            have q2 := hc 0 (by decide)
            unfold World.cell? at q2
            rcases Nat.lt_or_ge 20 W.heap.size with h | h
            · exact h
            · simp [Array.getElem?_eq_none h] at q2
          refine ⟨fun h => h, hlt, ?_, ?_⟩
          · intro j v hj
            have hjl : j < 32 := by
              have := (List.getElem?_eq_some_iff.1 hj).1
              simpa [tzTab] using this
            have hv : v = .int .u8 (((tzTab.map fun (n : Nat) => (n : Int)).getD j 0)) := by
              rw [List.getElem?_map] at hj
              obtain ⟨k, hk, rfl⟩ := Option.map_eq_some_iff.1 hj
              simp [List.getD, hk]
            subst hv
            exact ⟨rfl, hc j hjl⟩
          · intro v t a hv he
            obtain ⟨k, hk, rfl⟩ := List.mem_map.1 hv
            cases he
        · cases hl
end Go.LH.K
