/- What all texts of a seat use: numbers, the errors' variables. -/
import Derived.Test.YtieoifkedeeehaaDoorLhWalkE
import Derived.Test.YtieoifkedeeehaaDoorKCode
namespace Go.LH.K
open Go Go.LH
/-- Not to be used for rewriting. -/
def Hid (p : Prop) : Prop := p
abbrev iC (n : Int) : Cv := .val (.int .i64 n)
abbrev bC (b : Bool) : Cv := .val (.bool b)
abbrev sC (s : ByteArray) : Cv := .val (.string s)
abbrev uC (n : Int) : Cv := .val (.int .u32 n)
def intE (n : Int) : List Cv := [iC n]
def byE (n : Nat) : List Cv := [.val (.int .u8 n)]
/-- A number of 64 bits. -/
def i64 (n : Int) : Prop := -9223372036854775808 ≤ n ∧ n ≤ 9223372036854775807
/-! the errors: variables 0..19 -/
def sent (b : Nat → Addr) (g : Nat) : Value := .iface 145 (.pointer (some (b g)))
/-- errors.errorType. -/
def errT : Value := .iface 111 (.agg #[.pointer (some ⟨22, 40, none⟩)])
def tzTab : List Nat := [0, 1, 28, 2, 29, 14, 24, 3, 30, 22, 20, 15, 25, 17, 4, 8, 31, 27, 13, 23, 21, 19, 16, 7, 26, 12, 18, 6, 11, 5, 10, 9]
/-- math/bits.deBruijn32tab. -/
def zX : GEnv := fun g => if g = 20 then some (tzTab.map fun (n : Nat) => .int .u8 n) else none
def zG (b : Nat → Addr) : GEnv := fun g => if g < 20 then some [sent b g] else if g = 21 then some [errT] else zX g
theorem zG_at {b : Nat → Addr} {g : Nat} (h : Nat.blt g 20 = true) : zG b g = some [sent b g] := by
  have : g < 20 := by simpa [Nat.blt_eq] using h
  simp [zG, this]
theorem wrap_id {n : Int} (h : i64 n) : IntKind.wrap .i64 n = n := by
  obtain ⟨h1, h2⟩ := h
  simp [IntKind.wrap, IntKind.bits, IntKind.signed]
  omega
theorem wrap_nat {n : Nat} (h : n ≤ 9223372036854775807) : IntKind.wrap .i64 (n : Int) = n := wrap_id ⟨by omega, by omega⟩
theorem wrap_succ {n : Nat} (h : n < 9223372036854775807) : IntKind.wrap .i64 ((n : Int) + 1) = ((n + 1 : Nat) : Int) := by
  rw [wrap_id ⟨by omega, by omega⟩]; simp
theorem row_at {α : Type} {e : α → List Cv} {l : List α} {i : Nat} (h : i < l.length) : (l.map e)[((i : Nat) : Int).toNat]? = some (e l[i]) := by simp [h]
/-- The codes are the program's. -/
def zcode : FuncId → Option RF := fun f => [none, none, none, some r3, some r4, some r5, some r6, some r7, some r8, some r9, some r10, some r11, some r12, some r13, some r14, some r15, some r16, some r17, some r18, some r19, some r20, some r21, some r22, some r23, some r24, some r25, some r26, some r27, some r28, some r29, some r30, some r31, some r32, none, some r34, some r35, some r36, some r37, some r38, some r39, some r40, some r41, some r42, none, none, none, some r46, some r47, some r48, some r49, some r50, some r51, some r52, some r53, some r54, some r55, none, none, none, none, some r60, some r61, some r62, some r63, some r64, some r65, none, none, some r68][f]?.join
def Codes (P : Program) : Prop := ∀ f rf, zcode f = some rf → callable P f = true ∧ ∃ fc fn, P.funcs[f]? = some fn ∧ compX fc P fn = some rf
theorem good_z {P : Program} {G : GEnv} (hP : Codes P) {f : FuncId} {rf : RF} {args : List Sv} {Post : Sv → Prop} (hf : zcode f = some rf) (hn : Nat.ble args.length rf.nt = true) (hv : VC G P 0 rf.body (endV G rf.res Post) ⟨initS 0 args, []⟩) : GoodV G P f args Post := by
  obtain ⟨_, fc, fn, h1, h2⟩ := hP _ _ hf
  exact goodV_of_vc h1 h2 (Nat.le_of_ble_eq_true hn) hv
theorem good_h {P : Program} {G : GEnv} (hP : Codes P) {f : FuncId} {rf : RF} {args : List Sv} {L : List Entry} {Post : Sv → List Entry → Prop} (hf : zcode f = some rf) (hn : Nat.ble args.length rf.nt = true) (hv : VC G P L.length rf.body (endQ G L.length rf.res Post) ⟨initS 0 args, L⟩) : Good G P f args L Post := by
  obtain ⟨_, fc, fn, h1, h2⟩ := hP _ _ hf
  exact good_of_vc h1 h2 (Nat.le_of_ble_eq_true hn) hv
/-- The contract of a function over the caller's heap, whose answer is known. -/
abbrev AnsH (G : GEnv) (P : Program) (f : FuncId) (as : List Sv) (L : List Entry) (v : Sv) (L' : List Entry) : Prop := Good G P f as L (fun x Lx => x = v ∧ Lx = L')
theorem call_h {G : GEnv} {P : Program} {f : FuncId} {args as : List Sv} {L Lc L' : List Entry} {ks : Ks} {v : Sv} {d : Option Nat} {r : List ROper} {K : St → Prop} {s : Slots} (hg : AnsH G P f as Lc v L') (h : gcArgs args L = some (as, ks, Lc))
    (hk : VCops G P r K (put ⟨s, lay (back ks L.length) ks L' L⟩ d (renR (back ks L.length) v))) : callE G P f args L d r K s :=
  call_gc h hg (by rintro _ _ ⟨rfl, rfl⟩; exact hk)
theorem callO_h {G : GEnv} {P : Program} {f : FuncId} {args as : List Sv} {L Lc L' : List Entry} {ks : Ks} {v : Sv} {d : Option Nat} {l : List (ROper × Bool × Nat)} {e : Nat} {p : Pend} {K : St → Prop} {s : Slots} (hg : AnsH G P f as Lc v L') (h : gcArgs args L = some (as, ks, Lc))
    (hk : again G (e + 1) (lay (back ks L.length) ks L' L) p ∧ VCo G P l (e + 1) p K (put ⟨s, lay (back ks L.length) ks L' L⟩ d (renR (back ks L.length) v))) : callO G P f args L d l e p K s :=
  .inr (.inr ⟨as, ks, Lc, _, h, hg, by rintro _ _ ⟨rfl, rfl⟩; exact hk⟩)
def endE (G : GEnv) (n : Nat) (l : List ResR) (Post : Sv → List Entry → Prop) (s : Slots) (L : List Entry) : Prop := endQ G n l Post .ret ⟨s, L⟩
theorem endq_ret {G : GEnv} {n : Nat} {l : List ResR} {Post : Sv → List Entry → Prop} {s : Slots} {L : List Entry} : endQ G n l Post .ret ⟨s, L⟩ = endE G n l Post s L := (rfl)
theorem endq_nrm {G : GEnv} {n : Nat} {l : List ResR} {Post : Sv → List Entry → Prop} {s : Slots} {L : List Entry} : endQ G n l Post .normal ⟨s, L⟩ = endE G n l Post s L := (rfl)
theorem endE_intro {G : GEnv} {n : Nat} {l : List ResR} {Post : Sv → List Entry → Prop} {s : Slots} {L L' : List Entry} {r x : Sv} (h1 : resS G ⟨s, L⟩ l = some r) (h2 : gcRes n r L = some (x, L')) (h3 : Post x L') : endE G n l Post s L := by
  unfold endE endQ
  simp only [h1, h2]
  exact h3
theorem mapAt_0 {g c : Nat} {es : List Cv} {r : List Entry} : mapAt (mapE g c es :: r) 0 g = some (c, es) := by simp [mapAt, mapE]
theorem mapAt_1 {g c : Nat} {es : List Cv} {a : Entry} {r : List Entry} : mapAt (a :: mapE g c es :: r) 1 g = some (c, es) := by simp [mapAt, mapE]
theorem mapAt_2 {g c : Nat} {es : List Cv} {a b : Entry} {r : List Entry} : mapAt (a :: b :: mapE g c es :: r) 2 g = some (c, es) := by simp [mapAt, mapE]
theorem mapAt_3 {g c : Nat} {es : List Cv} {a b d : Entry} {r : List Entry} : mapAt (a :: b :: d :: mapE g c es :: r) 3 g = some (c, es) := by simp [mapAt, mapE]
theorem mapEs_mp {L : List Entry} {id gen : Nat} : mapEs L (.mp id gen) = (match mapAt L id gen with
  | some (_, es) => some es
  | none => none) := rfl
theorem renE_map {f : Nat → Nat} {g c : Nat} {es : List Cv} : renE f (mapE g c es) = mapE g c es := (rfl)
theorem renE_t {f : Nat → Nat} {g wd : Nat} {rows : List (List Cv)} : renE f ⟨true, g, wd, rows⟩ = ⟨true, g, wd, rows.map (renL f)⟩ := (rfl)
theorem renE_f {f : Nat → Nat} {g wd : Nat} {rows : List (List Cv)} : renE f ⟨false, g, wd, rows⟩ = ⟨false, g, wd, rows⟩ := (rfl)
attribute [go_sem] true_or or_true false_or or_false false_and and_false renE_map renE_t renE_f lay back renR renS renSL ren renL zG_at endq_ret endq_nrm mapAt_0 mapAt_1 mapAt_2 mapAt_3 mapEs_mp mPack
/-- What errors.Is and api.Place answer. -/
structure ErrI (P : Program) (b : Nat → Addr) : Prop where
  is : ∀ g h, g < 20 → h < 20 → Ans (zG b) P 33 [.c (.val (sent b g)), .c (.val (sent b h))] (.c (bC (g == h)))
  isAt : ∀ n g h, g < 20 → h < 20 → Ans (zG b) P 33 [.c (.ifc 93 (.rp [iC n, .val (sent b g)])), .c (.val (sent b h))] (.c (bC (g == h)))
  pNil : Ans (zG b) P 35 [.c (.val .nilIface)] (.c (iC (-1)))
  pSent : ∀ g, g < 20 → Ans (zG b) P 35 [.c (.val (sent b g))] (.c (iC (-1)))
  pAt : ∀ n g, g < 20 → i64 n → Ans (zG b) P 35 [.c (.ifc 93 (.rp [iC n, .val (sent b g)]))] (.c (iC n))
theorem nilEq_sent {b : Nat → Addr} {g : Nat} : nilEq (.val (sent b g)) (.val .nilIface) = some false := (rfl)
end Go.LH.K
