/- LH: the codes are the program's. -/
import Derived.Test.YtieoifkedeeehaaDoorProg
import Derived.Test.YtieoifkedeeehaaDoorKCode
namespace Go.LH.K
open Go Go.LH Go.Proofs
theorem c3 : compX true Tryd.prog Tryd.f3 = some r3 := by kernel_rfl
theorem c4 : compX false Tryd.prog Tryd.f4 = some r4 := by kernel_rfl
theorem c5 : compX false Tryd.prog Tryd.f5 = some r5 := by kernel_rfl
theorem c6 : compX false Tryd.prog Tryd.f6 = some r6 := by kernel_rfl
theorem c7 : compX false Tryd.prog Tryd.f7 = some r7 := by kernel_rfl
theorem c8 : compX false Tryd.prog Tryd.f8 = some r8 := by kernel_rfl
theorem c9 : compX false Tryd.prog Tryd.f9 = some r9 := by kernel_rfl
theorem c10 : compX false Tryd.prog Tryd.f10 = some r10 := by kernel_rfl
theorem c11 : compX false Tryd.prog Tryd.f11 = some r11 := by kernel_rfl
theorem c12 : compX false Tryd.prog Tryd.f12 = some r12 := by kernel_rfl
theorem c13 : compX false Tryd.prog Tryd.f13 = some r13 := by kernel_rfl
theorem c14 : compX false Tryd.prog Tryd.f14 = some r14 := by kernel_rfl
theorem c15 : compX false Tryd.prog Tryd.f15 = some r15 := by kernel_rfl
theorem c16 : compX false Tryd.prog Tryd.f16 = some r16 := by kernel_rfl
theorem c17 : compX false Tryd.prog Tryd.f17 = some r17 := by kernel_rfl
theorem c18 : compX false Tryd.prog Tryd.f18 = some r18 := by kernel_rfl
theorem c19 : compX false Tryd.prog Tryd.f19 = some r19 := by kernel_rfl
theorem c20 : compX false Tryd.prog Tryd.f20 = some r20 := by kernel_rfl
theorem c21 : compX false Tryd.prog Tryd.f21 = some r21 := by kernel_rfl
theorem c22 : compX false Tryd.prog Tryd.f22 = some r22 := by kernel_rfl
theorem c23 : compX false Tryd.prog Tryd.f23 = some r23 := by kernel_rfl
theorem c24 : compX false Tryd.prog Tryd.f24 = some r24 := by kernel_rfl
theorem c25 : compX false Tryd.prog Tryd.f25 = some r25 := by kernel_rfl
theorem c26 : compX false Tryd.prog Tryd.f26 = some r26 := by kernel_rfl
theorem c27 : compX false Tryd.prog Tryd.f27 = some r27 := by kernel_rfl
theorem c28 : compX false Tryd.prog Tryd.f28 = some r28 := by kernel_rfl
theorem c29 : compX false Tryd.prog Tryd.f29 = some r29 := by kernel_rfl
theorem c30 : compX false Tryd.prog Tryd.f30 = some r30 := by kernel_rfl
theorem c31 : compX false Tryd.prog Tryd.f31 = some r31 := by kernel_rfl
theorem c32 : compX false Tryd.prog Tryd.f32 = some r32 := by kernel_rfl
theorem c34 : compX false Tryd.prog Tryd.f34 = some r34 := by kernel_rfl
theorem c35 : compX false Tryd.prog Tryd.f35 = some r35 := by kernel_rfl
theorem c36 : compX false Tryd.prog Tryd.f36 = some r36 := by kernel_rfl
theorem c37 : compX false Tryd.prog Tryd.f37 = some r37 := by kernel_rfl
theorem c38 : compX false Tryd.prog Tryd.f38 = some r38 := by kernel_rfl
theorem c39 : compX false Tryd.prog Tryd.f39 = some r39 := by kernel_rfl
theorem c40 : compX false Tryd.prog Tryd.f40 = some r40 := by kernel_rfl
theorem c41 : compX false Tryd.prog Tryd.f41 = some r41 := by kernel_rfl
theorem c42 : compX false Tryd.prog Tryd.f42 = some r42 := by kernel_rfl
theorem c46 : compX false Tryd.prog Tryd.f46 = some r46 := by kernel_rfl
theorem c47 : compX false Tryd.prog Tryd.f47 = some r47 := by kernel_rfl
theorem c48 : compX false Tryd.prog Tryd.f48 = some r48 := by kernel_rfl
theorem c49 : compX false Tryd.prog Tryd.f49 = some r49 := by kernel_rfl
theorem c50 : compX false Tryd.prog Tryd.f50 = some r50 := by kernel_rfl
theorem c51 : compX false Tryd.prog Tryd.f51 = some r51 := by kernel_rfl
theorem c52 : compX false Tryd.prog Tryd.f52 = some r52 := by kernel_rfl
theorem c53 : compX false Tryd.prog Tryd.f53 = some r53 := by kernel_rfl
theorem c54 : compX false Tryd.prog Tryd.f54 = some r54 := by kernel_rfl
theorem c55 : compX false Tryd.prog Tryd.f55 = some r55 := by kernel_rfl
theorem c60 : compX false Tryd.prog Tryd.f60 = some r60 := by kernel_rfl
theorem c61 : compX false Tryd.prog Tryd.f61 = some r61 := by kernel_rfl
theorem c62 : compX false Tryd.prog Tryd.f62 = some r62 := by kernel_rfl
theorem c63 : compX false Tryd.prog Tryd.f63 = some r63 := by kernel_rfl
theorem c64 : compX false Tryd.prog Tryd.f64 = some r64 := by kernel_rfl
theorem c65 : compX false Tryd.prog Tryd.f65 = some r65 := by kernel_rfl
theorem c68 : compX false Tryd.prog Tryd.f68 = some r68 := by kernel_rfl
end Go.LH.K
