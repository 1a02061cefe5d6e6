/- FrameAsks: what the data are, and what the functions answer. -/
import Derived.Test.YtieoifkedeeehaaGreatDoorLhThree
import Derived.Test.YtieoifkedeeehaaGreatDoorZCode
namespace Go.LH.Z
open Go Go.LH
abbrev iC (n : Int) : Cv := .val (.int .i64 n)
abbrev bC (b : Bool) : Cv := .val (.bool b)
structure PageP where
  rights : Int
  init : ByteArray
structure ProcP where
  entry : Int
  prio : Int
  auto : Bool
structure PortP where
  kind : Int
  size : Int
  depth : Int
  refresh : Int
structure PlanS where
  id : Int
  mobile : Bool
  pages : List PageP
  procs : List ProcP
  ports : List PortP
  events : Int
  sems : List Int
structure Win where
  part : Int
  start : Int
  len : Int
structure Lnk where
  src : Int
  out : Int
  dst : Int
  inn : Int
structure Cfg where
  ticks : Int
  parts : List PlanS
  homes : List Int
  wins : List Win
  links : List Lnk
  tries : Int
def PageP.enc (p : PageP) : List Cv := [iC p.rights, .val (.string p.init)]
def ProcP.enc (p : ProcP) : List Cv := [iC p.entry, iC p.prio, bC p.auto]
def PortP.enc (p : PortP) : List Cv := [iC p.kind, iC p.size, iC p.depth, iC p.refresh]
def intE (n : Int) : List Cv := [iC n]
def PlanS.enc (p : PlanS) : List Cv := [iC p.id, bC p.mobile, .sl 2 (p.pages.map PageP.enc), .sl 3 (p.procs.map ProcP.enc), .sl 4 (p.ports.map PortP.enc), iC p.events, .sl 1 (p.sems.map intE)]
def Win.enc (w : Win) : List Cv := [iC w.part, iC w.start, iC w.len]
def Lnk.enc (l : Lnk) : List Cv := [iC l.src, iC l.out, iC l.dst, iC l.inn]
def Cfg.enc (c : Cfg) : List Cv := [iC c.ticks, .sl 7 (c.parts.map PlanS.enc), .sl 1 (c.homes.map intE), .sl 3 (c.wins.map Win.enc), .sl 4 (c.links.map Lnk.enc), iC c.tries]

/-- Small enough, and numbers of 64 bits. -/
def i64 (n : Int) : Prop := -9223372036854775808 ≤ n ∧ n ≤ 9223372036854775807
structure PageP.Ok (p : PageP) : Prop where
  rights : i64 p.rights
  init : p.init.size ≤ 4294967296
structure ProcP.Ok (p : ProcP) : Prop where
  entry : i64 p.entry
  prio : i64 p.prio
structure PortP.Ok (p : PortP) : Prop where
  kind : i64 p.kind
  size : i64 p.size
  depth : i64 p.depth
  refresh : i64 p.refresh
structure PlanS.Ok (p : PlanS) : Prop where
  id : i64 p.id
  events : i64 p.events
  pages : ∀ x ∈ p.pages, x.Ok
  procs : ∀ x ∈ p.procs, x.Ok
  ports : ∀ x ∈ p.ports, x.Ok
  sems : ∀ x ∈ p.sems, i64 x
  npages : p.pages.length ≤ 4294967296
  nprocs : p.procs.length ≤ 4294967296
  nports : p.ports.length ≤ 4294967296
  nsems : p.sems.length ≤ 4294967296
structure Win.Ok (w : Win) : Prop where
  part : i64 w.part
  start : i64 w.start
  len : i64 w.len
structure Lnk.Ok (l : Lnk) : Prop where
  src : i64 l.src
  out : i64 l.out
  dst : i64 l.dst
  inn : i64 l.inn
structure Cfg.Ok (c : Cfg) : Prop where
  ticks : i64 c.ticks
  tries : i64 c.tries
  parts : ∀ x ∈ c.parts, x.Ok
  homes : ∀ x ∈ c.homes, i64 x
  wins : ∀ x ∈ c.wins, x.Ok
  links : ∀ x ∈ c.links, x.Ok
  nparts : c.parts.length ≤ 4294967296
  nhomes : c.homes.length ≤ 4294967296
  nwins : c.wins.length ≤ 4294967296
  nlinks : c.links.length ≤ 4294967296

/-! the errors: variables 0..19 -/
def sent (b : Nat → Addr) (g : Nat) : Value := .iface 157 (.pointer (some (b g)))
/-- errors.errorType, variable 20. -/
def errT : Value := .iface 129 (.agg #[.pointer (some ⟨21, 36, none⟩)])
def zG (b : Nat → Addr) : GEnv := fun g => if g < 20 then some [sent b g] else if g = 20 then some [errT] else none
theorem zG_at {b : Nat → Addr} {g : Nat} (h : Nat.blt g 20 = true) : zG b g = some [sent b g] := by
  have : g < 20 := by simpa [Nat.blt_eq] using h
  simp [zG, this]
theorem wrap_id {n : Int} (h : i64 n) : IntKind.wrap .i64 n = n := by
  obtain ⟨h1, h2⟩ := h
  simp [IntKind.wrap, IntKind.bits, IntKind.signed]
  omega
theorem wrap_nat {n : Nat} (h : n ≤ 9223372036854775807) : IntKind.wrap .i64 (n : Int) = n := wrap_id ⟨by omega, by omega⟩
theorem wrap_succ {n : Nat} (h : n < 9223372036854775807) : IntKind.wrap .i64 ((n : Int) + 1) = ((n + 1 : Nat) : Int) := by
  rw [wrap_id ⟨by omega, by omega⟩]; simp
theorem row_at {α : Type} {e : α → List Cv} {l : List α} {i : Nat} (h : i < l.length) : (l.map e)[((i : Nat) : Int).toNat]? = some (e l[i]) := by simp [h]

/-- The codes are the program's. -/
def zcode : FuncId → Option RF := fun f => [none, none, none, some r3, some r4, some r5, some r6, some r7, some r8, some r9, some r10, some r11, some r12, some r13, some r14, some r15, some r16, some r17, some r18, some r19, some r20, some r21, some r22, some r23, some r24, some r25, some r26, some r27, some r28, some r29, some r30, some r31, some r32, some r33, some r34, some r35, none, some r37, none, some r39, some r40, some r41, some r42, some r43, some r44, some r45, some r46, some r47, some r48, some r49, some r50, some r51, none, none, none, none, none, none, some r58, some r59, some r60, some r61, some r62, some r63, some r64, some r65, some r66, some r67, some r68, some r69, some r70, none, none, some r73, some r74, some r75, some r76, some r77, some r78, some r79, some r80, some r81, some r82, some r83, some r84, some r85, some r86, some r87, some r88, some r89, some r90, some r91, some r92][f]?.join
def Codes (P : Program) : Prop := ∀ f rf, zcode f = some rf → callable P f = true ∧ ∃ fn, P.funcs[f]? = some fn ∧ comp P fn = some rf
theorem good_z {P : Program} {G : GEnv} (hP : Codes P) {f : FuncId} {rf : RF} {args : List Sv} {Post : Sv → Prop} (hf : zcode f = some rf) (hn : Nat.ble args.length rf.nt = true) (hv : VC G P 0 rf.body (endV G rf.res Post) ⟨initS 0 args, []⟩) : GoodV G P f args Post := by
  obtain ⟨_, fn, h1, h2⟩ := hP _ _ hf
  exact goodV_of_vc h1 h2 (Nat.le_of_ble_eq_true hn) hv
attribute [go_sem] zG_at
end Go.LH.Z
