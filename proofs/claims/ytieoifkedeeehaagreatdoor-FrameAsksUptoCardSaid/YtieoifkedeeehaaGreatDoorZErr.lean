/- FrameAsks: errors.Is at what comes up: a sentinel against a sentinel, nil, an *api.At around a sentinel. -/
import Derived.Test.YtieoifkedeeehaaGreatDoorProg
import Derived.WalkKit
import Derived.LaidEql
import Derived.Stop.Asserts
import Derived.RowKitTokens
namespace Go.LH.Z
set_option maxRecDepth 100000
set_option maxHeartbeats 4000000
open Go.Proofs Go.RowKit Go.Extern.Stop Go.Stop Go.Extern
/-! ### CLOSED FACTS: what 'reflectlite.TypeOf(target).Comparable()' gives at such a target -/
theorem Zr.isTypeOf (v : Value) (w : World) : (Extern.ReflectliteType.typeOf #[.iface 157 v]).run Tryz.prog w = .ok (.iface 129 (.agg #[.pointer (some ⟨21, 157, none⟩)])) w := by kernel_rfl
theorem Zr.isComparable (w : World) : ((Extern.ReflectliteType.method fun t => Rtype.noPackHeld "Comparable" t >>= fun _ => (fun a => Value.bool a.comparable) <$> typeInfo t) #[.agg #[.pointer (some ⟨21, 157, none⟩)]]).run Tryz.prog w = .ok (.bool true) w := by kernel_rfl
theorem Zr.isMethodComparable (v : Value) (w : World) : (Go.method 291 129 v "Comparable").run Tryz.prog w = .ok (117, v) w := by kernel_rfl
theorem Zr.isComp : (Tryz.prog.info? 157).map (·.comparable) = some true := by kernel_rfl
theorem Zr.isSize : (Tryz.prog.info? 179).map (·.size) = some 1 := by kernel_rfl

/-! ### CLOSED FACTS ON THE METHOD SETS: what errors.is's assertions find -/
theorem Zr.noIsE (v : Value) (xT : TypeId) (w : World) : (Instr.typeAssert (.iface 157 v) xT 131 true).run Tryz.prog w = .ok (.tuple #[.nilIface, .bool false]) w := run_typeAssert_lacksB Tryz.underlying131 (by kernel_rfl) (by kernel_rfl) v xT w
theorem Zr.noUnwrapE (v : Value) (xT : TypeId) (w : World) : (Instr.typeAssert (.iface 157 v) xT 134 true).run Tryz.prog w = .ok (.tuple #[.nilIface, .bool false]) w := run_typeAssert_lacksB Tryz.underlying134 (by kernel_rfl) (by kernel_rfl) v xT w
theorem Zr.noUnwrapsE (v : Value) (xT : TypeId) (w : World) : (Instr.typeAssert (.iface 157 v) xT 136 true).run Tryz.prog w = .ok (.tuple #[.nilIface, .bool false]) w := run_typeAssert_lacksB Tryz.underlying136 (by kernel_rfl) (by kernel_rfl) v xT w
theorem Zr.noIsW (v : Value) (xT : TypeId) (w : World) : (Instr.typeAssert (.iface 90 v) xT 131 true).run Tryz.prog w = .ok (.tuple #[.nilIface, .bool false]) w := run_typeAssert_lacksB Tryz.underlying131 (by kernel_rfl) (by kernel_rfl) v xT w
theorem Zr.hasUnwrapW (v : Value) (xT : TypeId) (w : World) : (Instr.typeAssert (.iface 90 v) xT 134 true).run Tryz.prog w = .ok (.tuple #[.iface 90 v, .bool true]) w := run_typeAssert_hasB Tryz.underlying134 (by kernel_rfl) v xT w
theorem Zr.methodUnwrap (v : Value) (w : World) : (Go.method 291 90 v "Unwrap").run Tryz.prog w = .ok (111, v) w := by kernel_rfl

/-- errors.Is(x, x), x a pointer to an errors.errorString. -/
theorem is_same (a : Addr) (w : World) :
    Calls Tryz.prog 36 #[.iface 157 (.pointer (some a)), .iface 157 (.pointer (some a))] w fun e w' => e = .returned (.bool true) ∧ w' = w := by
  obtain ⟨i, hi, hcmp⟩ := Option.map_eq_some_iff.1 Zr.isComp
  obtain ⟨j, hj, hjs⟩ := Option.map_eq_some_iff.1 Zr.isSize
  have h8 := @run_callFunc_extern Tryz.prog 52 _ Extern.ReflectliteType.typeOf Tryz.func52 (by kernel_rfl) (by kernel_rfl) (by kernel_rfl) (by kernel_rfl)
  have h32 := @run_callFunc_extern Tryz.prog 117 _ (Extern.ReflectliteType.method fun t => do Rtype.noPackHeld "Comparable" t; pure (.bool (← typeInfo t).comparable)) Tryz.func117 (by kernel_rfl) (by kernel_rfl) (by kernel_rfl) (by kernel_rfl)
  have tT := Zr.isTypeOf
  have cT := Zr.isComparable
  have mR := Zr.isMethodComparable
  have heq := run_eql_iface_ptr_same (P := Tryz.prog) w a Tryz.underlying36 Tryz.underlying157 hi hcmp hj
  go_enter Tryz.func36, Tryz.ntmps36
  go_wp2
  refine wp_loop_rounds 1 ?_
  rw [rounds_succ]
  go_wp2
  go_ret
  exact ⟨rfl, rfl⟩

/-- nil. -/
theorem is_nil (b : Addr) (w : World) :
    Calls Tryz.prog 36 #[.nilIface, .iface 157 (.pointer (some b))] w fun e w' => e = .returned (.bool false) ∧ w' = w := by
  have hn := run_eql_iface_nil_left (P := Tryz.prog) w 157 (.pointer (some b)) Tryz.underlying36
  go_enter Tryz.func36, Tryz.ntmps36
  go_wp2
  go_ret
  exact ⟨rfl, rfl⟩

/-- errors.Is(x, y), two different pointers to errors.errorString: neither has Is nor Unwrap: false. -/
theorem is_other (a b : Addr) (ca cb : Array Value) (ta tb : TypeId) (w : World) (hne : a ≠ b) (ha : w.heap[a.block]? = some (.cells ca ta (0, 0))) (hb : w.heap[b.block]? = some (.cells cb tb (0, 0))) :
    Calls Tryz.prog 36 #[.iface 157 (.pointer (some a)), .iface 157 (.pointer (some b))] w fun e w' => e = .returned (.bool false) ∧ w' = w := by
  obtain ⟨i, hi, hcmp⟩ := Option.map_eq_some_iff.1 Zr.isComp
  obtain ⟨j, hj, hjs⟩ := Option.map_eq_some_iff.1 Zr.isSize
  have h8 := @run_callFunc_extern Tryz.prog 52 _ Extern.ReflectliteType.typeOf Tryz.func52 (by kernel_rfl) (by kernel_rfl) (by kernel_rfl) (by kernel_rfl)
  have h32 := @run_callFunc_extern Tryz.prog 117 _ (Extern.ReflectliteType.method fun t => do Rtype.noPackHeld "Comparable" t; pure (.bool (← typeInfo t).comparable)) Tryz.func117 (by kernel_rfl) (by kernel_rfl) (by kernel_rfl) (by kernel_rfl)
  have tT := Zr.isTypeOf
  have cT := Zr.isComparable
  have mR := Zr.isMethodComparable
  have nE := Zr.noIsE
  have uE := Zr.noUnwrapE
  have vE := Zr.noUnwrapsE
  have nW := Zr.noIsW
  have uW := Zr.hasUnwrapW
  have mU := Zr.methodUnwrap
  have heq := run_eql_iface_ptr_other (P := Tryz.prog) w Tryz.underlying36 Tryz.underlying157 hi hcmp hj (by rw [hjs]; decide) hne ha hb
  go_enter Tryz.func36, Tryz.ntmps36
  go_wp2
  refine wp_loop_rounds 1 ?_
  rw [rounds_succ]
  go_wp2
  go_ret
  exact ⟨rfl, rfl⟩

/-- errors.Is(e, x), e a *fmt.wrapError that wraps x itself: one Unwrap, then equal. -/
theorem is_wrap_same (pb po : Nat) (b : Addr) (w : World) (h1 : w.cell? ⟨pb, po + 1, none⟩ = some (.iface 157 (.pointer (some b)))) :
    Calls Tryz.prog 36 #[.iface 90 (.pointer (some ⟨pb, po, none⟩)), .iface 157 (.pointer (some b))] w fun e w' => e = .returned (.bool true) ∧ w' = w := by
  obtain ⟨i, hi, hcmp⟩ := Option.map_eq_some_iff.1 Zr.isComp
  obtain ⟨j, hj, hjs⟩ := Option.map_eq_some_iff.1 Zr.isSize
  have h8 := @run_callFunc_extern Tryz.prog 52 _ Extern.ReflectliteType.typeOf Tryz.func52 (by kernel_rfl) (by kernel_rfl) (by kernel_rfl) (by kernel_rfl)
  have h32 := @run_callFunc_extern Tryz.prog 117 _ (Extern.ReflectliteType.method fun t => do Rtype.noPackHeld "Comparable" t; pure (.bool (← typeInfo t).comparable)) Tryz.func117 (by kernel_rfl) (by kernel_rfl) (by kernel_rfl) (by kernel_rfl)
  have tT := Zr.isTypeOf
  have cT := Zr.isComparable
  have mR := Zr.isMethodComparable
  have nE := Zr.noIsE
  have uE := Zr.noUnwrapE
  have vE := Zr.noUnwrapsE
  have nW := Zr.noIsW
  have uW := Zr.hasUnwrapW
  have mU := Zr.methodUnwrap
  have heq := run_eql_iface_ptr_same (P := Tryz.prog) w b Tryz.underlying36 Tryz.underlying157 hi hcmp hj
  have hty := run_eql_iface_types (P := Tryz.prog) 90 157 (.pointer (some ⟨pb, po, none⟩)) (.pointer (some b)) Tryz.underlying36 (by decide) w
  go_enter Tryz.func36, Tryz.ntmps36
  go_wp2
  refine wp_loop_rounds 2 ?_
  rw [rounds_succ]
  go_wp2
  rw [rounds_succ]
  go_wp2
  go_ret
  exact ⟨rfl, rfl⟩

/-- errors.Is(e, x), e a *fmt.wrapError that wraps another error of errors.New's make. -/
theorem is_wrap_other (pb po : Nat) (b a : Addr) (ca cb : Array Value) (ta tb : TypeId) (w : World) (h1 : w.cell? ⟨pb, po + 1, none⟩ = some (.iface 157 (.pointer (some a)))) (hne : a ≠ b) (ha : w.heap[a.block]? = some (.cells ca ta (0, 0))) (hb : w.heap[b.block]? = some (.cells cb tb (0, 0))) :
    Calls Tryz.prog 36 #[.iface 90 (.pointer (some ⟨pb, po, none⟩)), .iface 157 (.pointer (some b))] w fun e w' => e = .returned (.bool false) ∧ w' = w := by
  obtain ⟨i, hi, hcmp⟩ := Option.map_eq_some_iff.1 Zr.isComp
  obtain ⟨j, hj, hjs⟩ := Option.map_eq_some_iff.1 Zr.isSize
  have h8 := @run_callFunc_extern Tryz.prog 52 _ Extern.ReflectliteType.typeOf Tryz.func52 (by kernel_rfl) (by kernel_rfl) (by kernel_rfl) (by kernel_rfl)
  have h32 := @run_callFunc_extern Tryz.prog 117 _ (Extern.ReflectliteType.method fun t => do Rtype.noPackHeld "Comparable" t; pure (.bool (← typeInfo t).comparable)) Tryz.func117 (by kernel_rfl) (by kernel_rfl) (by kernel_rfl) (by kernel_rfl)
  have tT := Zr.isTypeOf
  have cT := Zr.isComparable
  have mR := Zr.isMethodComparable
  have nE := Zr.noIsE
  have uE := Zr.noUnwrapE
  have vE := Zr.noUnwrapsE
  have nW := Zr.noIsW
  have uW := Zr.hasUnwrapW
  have mU := Zr.methodUnwrap
  have heq := run_eql_iface_ptr_other (P := Tryz.prog) w Tryz.underlying36 Tryz.underlying157 hi hcmp hj (by rw [hjs]; decide) hne ha hb
  have hty := run_eql_iface_types (P := Tryz.prog) 90 157 (.pointer (some ⟨pb, po, none⟩)) (.pointer (some b)) Tryz.underlying36 (by decide) w
  go_enter Tryz.func36, Tryz.ntmps36
  go_wp2
  refine wp_loop_rounds 2 ?_
  rw [rounds_succ]
  go_wp2
  rw [rounds_succ]
  go_wp2
  go_ret
  exact ⟨rfl, rfl⟩

end Go.LH.Z
