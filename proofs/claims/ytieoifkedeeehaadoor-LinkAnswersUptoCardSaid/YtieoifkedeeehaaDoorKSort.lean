/- Link: slices.Sort at []int, as a contract. -/
import Derived.Test.YtieoifkedeeehaaDoorKSpec4
import Derived.Test.YtieoifkedeeehaaDoorProg
import Derived.Test.YtieoifkedeeehaaDoorKErr3
import Derived.Shelf.Sort.Plain
namespace Go.LH.K
open Go Go.LH Go.Proofs Go.Shelf
set_option maxRecDepth 10000
set_option maxHeartbeats 4000000
def Sk.lays189_ren : Go.Shelf.Ren := ⟨fun | 189 => 29 | 125 => 39 | 257 => 38 | 128 => 40 | 129 => 55 | 294 => 46 | 295 => 47 | 296 => 48 | 297 => 49 | 298 => 50 | 299 => 51 | 216 => 52 | 300 => 53 | 301 => 54 | 328 => 60 | 329 => 61 | 330 => 62 | 331 => 63 | 332 => 64 | 215 => 65 | 343 => 68 | n => n, fun | 28 => 36 | 3 => 3 | 46 => 85 | 0 => 0 | 51 => 29 | 53 => 108 | 4 => 4 | 183 => 100 | 182 => 99 | 131 => 105 | 5 => 5 | 9 => 9 | 218 => 131 | 222 => 135 | 228 => 143 | 229 => 58 | n => n, fun | n => n⟩
theorem Sk.lays189 : Go.Proofs.Lays.n189 Tryd.prog Sk.lays189_ren where
  mixed := by kernel_rfl
  f125 := Tryd.func39.trans (congrArg some (by kernel_rfl))
  f128 := Tryd.func40.trans (congrArg some (by kernel_rfl))
  f129 := Tryd.func55.trans (congrArg some (by kernel_rfl))
  f189 := Tryd.func29.trans (congrArg some (by kernel_rfl))
  f215 := Tryd.func65.trans (congrArg some (by kernel_rfl))
  f216 := Tryd.func52.trans (congrArg some (by kernel_rfl))
  f257 := Tryd.func38.trans (congrArg some (by kernel_rfl))
  f294 := Tryd.func46.trans (congrArg some (by kernel_rfl))
  f295 := Tryd.func47.trans (congrArg some (by kernel_rfl))
  f296 := Tryd.func48.trans (congrArg some (by kernel_rfl))
  f297 := Tryd.func49.trans (congrArg some (by kernel_rfl))
  f298 := Tryd.func50.trans (congrArg some (by kernel_rfl))
  f299 := Tryd.func51.trans (congrArg some (by kernel_rfl))
  f300 := Tryd.func53.trans (congrArg some (by kernel_rfl))
  f301 := Tryd.func54.trans (congrArg some (by kernel_rfl))
  f328 := Tryd.func60.trans (congrArg some (by kernel_rfl))
  f329 := Tryd.func61.trans (congrArg some (by kernel_rfl))
  f330 := Tryd.func62.trans (congrArg some (by kernel_rfl))
  f331 := Tryd.func63.trans (congrArg some (by kernel_rfl))
  f332 := Tryd.func64.trans (congrArg some (by kernel_rfl))
  f343 := Tryd.func68.trans (congrArg some (by kernel_rfl))
  t0 := Tryd.underlying0
  a0 := Tryd.isAgg0
  z0 := Tryd.sizeOf0
  v0 := Tryd.zeroValue0
  t3 := Tryd.underlying3
  a3 := Tryd.isAgg3
  z3 := Tryd.sizeOf3
  v3 := Tryd.zeroValue3
  t4 := Tryd.underlying4
  a4 := Tryd.isAgg4
  z4 := Tryd.sizeOf4
  v4 := Tryd.zeroValue4
  t5 := Tryd.underlying5
  a5 := Tryd.isAgg5
  z5 := Tryd.sizeOf5
  v5 := Tryd.zeroValue5
  t9 := Tryd.underlying9
  a9 := Tryd.isAgg9
  z9 := Tryd.sizeOf9
  v9 := Tryd.zeroValue9
  t28 := Tryd.underlying36
  a28 := Tryd.isAgg36
  z28 := Tryd.sizeOf36
  v28 := Tryd.zeroValue36
  t46 := Tryd.underlying85
  a46 := Tryd.isAgg85
  z46 := Tryd.sizeOf85
  v46 := Tryd.zeroValue85
  t51 := Tryd.underlying29
  a51 := Tryd.isAgg29
  z51 := Tryd.sizeOf29
  v51 := Tryd.zeroValue29
  t53 := Tryd.underlying108
  a53 := Tryd.isAgg108
  z53 := Tryd.sizeOf108
  v53 := Tryd.zeroValue108
  t131 := Tryd.underlying105
  a131 := Tryd.isAgg105
  z131 := Tryd.sizeOf105
  v131 := Tryd.zeroValue105
  t182 := Tryd.underlying99
  a182 := Tryd.isAgg99
  z182 := Tryd.sizeOf99
  v182 := Tryd.zeroValue99
  t183 := Tryd.underlying100
  a183 := Tryd.isAgg100
  z183 := Tryd.sizeOf100
  v183 := Tryd.zeroValue100
  t218 := Tryd.underlying131
  a218 := Tryd.isAgg131
  z218 := Tryd.sizeOf131
  v218 := Tryd.zeroValue131
  t222 := Tryd.underlying135
  a222 := Tryd.isAgg135
  z222 := Tryd.sizeOf135
  v222 := Tryd.zeroValue135
  t228 := Tryd.underlying143
  a228 := Tryd.isAgg143
  z228 := Tryd.sizeOf143
  v228 := Tryd.zeroValue143
  t229 := Tryd.underlying58
  a229 := Tryd.isAgg58
  z229 := Tryd.sizeOf58
  v229 := Tryd.zeroValue58
end Go.LH.K
namespace Go.LH.K
open Go Go.LH Go.Proofs
set_option maxRecDepth 10000
set_option maxHeartbeats 4000000
theorem sort_f : Sk.lays189_ren.f 189 = 29 := by rfl
theorem grow_at {w : World} {f : Array Value → Array Value} {b k : Nat} {os : Array Obj} {n : Nat} (hk : k < w.heap.size) :
    (Sort.grow (Sort.mapBlock (Sort.ahead w n) b f) os).heap[k]? = if k = b then (w.heap[k]?).map (Sort.onCells f) else w.heap[k]? := by
  show (w.heap.modify b (Sort.onCells f) ++ os)[k]? = _
  rw [Array.getElem?_append_left (by simpa using hk), Array.getElem?_modify]
  by_cases h : b = k
  · subst h; simp
  · rw [if_neg h, if_neg (Ne.symm h)]
theorem sort_ne {G : GEnv} (l : List Int) (hne : l ≠ []) (hl : l.length < 4611686018427387904) : AnsH G Tryd.prog 29 [.c (.rs 0 l.length 0 l.length)] [intsE l] .un [intsE (l.mergeSort fun x y => decide (x ≤ y))] := by
  intro w F A vs hF hh hG ha
  obtain ⟨ha1, ha2⟩ := ha
  obtain ⟨v, rfl⟩ : ∃ v, vs = [v] := by
    match vs, ha1 with
    | [v], _ => exact ⟨v, rfl⟩
  have hv := (ha2 0 _ v rfl rfl).inv_c
  have hpos : 0 < l.length := List.length_pos_iff.2 hne
  have hwd : wdI l = 1 := by cases l <;> simp_all [wdI]
  obtain ⟨e, he, hg, hbx, hfit, ad, cap, rfl, hcap, hcase⟩ := rs_at hv (by simp [live?, intsE])
  obtain rfl : intsE l = e := by simpa using he
  rcases hcase with ⟨k1, k3⟩ | ⟨k1, k0, p, k2⟩ | ⟨p, k1, k0, rfl, k3⟩
  · omega
  · omega
  obtain ⟨hw0, arr, el, fz, hb, hn, hf, hfit', hrows⟩ := (hh.ent 0 (intsE l) (some p) rfl k1).cells (.inr k0)
  simp only [intsE, hwd, List.length_map, Nat.mul_one, Nat.zero_add, Nat.add_zero] at hfit' hrows k3 ⊢
  have hbl : p.b < w.heap.size := (Array.getElem?_eq_some_iff.1 hb).1
  have hcell : ∀ j, j < l.length → arr[p.o + j]? = some (.int .i64 l[j]!) := by
    intro j hj
    obtain ⟨_, h2⟩ := hrows j [iC l[j]] (by simp [hj, intE])
    obtain ⟨u, hu, hur⟩ := h2 0 _ rfl
    simp only [Bool.false_eq_true, if_false, Nat.add_zero] at hur hu
    rw [hu, getElem!_pos l j hj]
    cases hur; rfl
  have hH : Sort.Holds (Value.int .i64) w p.b p.o l.toArray := by
    intro j hj
    have hj' : j < l.length := by simpa using hj
    refine ⟨?_, ?_⟩
    · have := hcell j hj'
      simp only [World.cell?, hb]
      rw [getElem!_pos l.toArray j hj]
      rw [getElem!_pos l j hj'] at this
      simpa using this
    · have hlt : p.o + j < arr.size := by omega
      have := hf _ hlt
      simp only [World.frozen?, hb]
      simp only [not_and, Nat.not_lt] at this
      by_cases hc : fz.1 ≤ p.o + j
      · have := this hc; simp; omega
      · simp; omega
  have hc := Any.slices_Sort_int Sk.lays189 p.b p.o cap l w hH hbl hl
  rw [sort_f] at hc
  refine Calls.mono hc ?_
  rintro e w' ⟨rfl, n, os, rfl⟩
  have hsl : (l.mergeSort fun x y => decide (x ≤ y)).length = l.length := List.length_mergeSort l
  have hsd : wdI (l.mergeSort fun x y => decide (x ≤ y)) = 1 := by
    cases h : l.mergeSort fun x y => decide (x ≤ y) with
    | nil => rw [h] at hsl; simp at hsl; omega
    | cons a r => rfl
  generalize hs : (l.mergeSort fun x y => decide (x ≤ y)) = s at hsl hsd
  have hfr : Fr w (fun b => ∃ q, some p = some q ∧ q.b = b) (Sort.grow (Sort.putRow (Value.int .i64) (Sort.ahead w n) p.b p.o s.toArray) os) := by
    refine ⟨rfl, rfl, rfl, ?_, fun k hk hnk => ?_⟩
    · show w.heap.size ≤ (w.heap.modify p.b _ ++ os).size
      simp
    · unfold Sort.putRow
      rw [grow_at hk, if_neg (fun h => hnk ⟨p, rfl, h.symm⟩)]
  have hE : ERep (Sort.grow (Sort.putRow (Value.int .i64) (Sort.ahead w n) p.b p.o s.toArray) os) (fun b => Owned (A.set 0 (some p)) b ∨ F b) (A.set 0 (some p)) ([intsE l].set 0 (intsE s)) (intsE s) (some p) := by
    refine .inl ⟨.inr (by simp [intsE, hsd]), Sort.putCells (Value.int .i64) p.o s.toArray arr, el, fz, ?_, ?_, ?_, ?_, ?_⟩
    · unfold Sort.putRow
      rw [grow_at hbl, if_pos rfl, hb]; rfl
    · simp [Sort.putCells, hn]
    · intro x hx
      exact hf x (by simpa [Sort.putCells] using hx)
    · simp only [intsE, hsd, List.length_map, Nat.mul_one, hsl, Sort.putCells, Array.size_mapIdx]; omega
    · intro r row hr
      have hrl : r < s.length := by
        have := (List.getElem?_eq_some_iff.1 hr).1
        simpa [intsE] using this
      obtain rfl : [iC s[r]] = row := by simpa [intsE, intE, hrl] using hr
      refine ⟨by simp [intsE, hsd], fun j c hj => ?_⟩
      match j, hj with
      | 0, hj =>
        simp only [List.getElem?_cons_zero, Option.some.injEq] at hj
        subst hj
        refine ⟨.int .i64 s[r], ?_, ?_⟩
        · simp only [intsE, hsd, Nat.mul_one, Nat.add_zero, Sort.putCells, Array.getElem?_mapIdx]
          have hlt : p.o + r < arr.size := by omega
          rw [Array.getElem?_eq_getElem hlt]
          simp only [Option.map_some, List.size_toArray]
          rw [if_pos (by omega), Nat.add_sub_cancel_left, getElem!_pos s.toArray r (by simpa using hrl)]
          simp
        · simp only [intsE, Bool.false_eq_true, if_false]
          exact .val _ rfl
  have nx := Nx.turn (id := 0) (e := intsE l) (e' := intsE s) hh hF rfl k1 hfr (fun q hq => .inr ⟨p, rfl, by obtain rfl := Option.some.inj hq; rfl⟩) (by simp [intsE, hsl]) (fun _ => ⟨rfl, .inl (by simp [intsE, hwd, hsd]), rfl, by simp [intsE, hsl]⟩) hE
  have e0 : intsE l = ⟨false, l.length, 1, l.map intE⟩ := by simp [intsE, hwd]
  have hst := nx.stab
  rw [e0] at hst
  exact ⟨_, .un, _, _, rfl, ⟨rfl, by rw [← hs]; rfl⟩, nx.heap, .un _, nx.frame, nx.own, hst⟩
end Go.LH.K
