/- FrameAsks: the codes are the program's. -/
import Derived.Test.YtieoifkedeeehaaGreatDoorZSpec
import Derived.Test.YtieoifkedeeehaaGreatDoorZComp
namespace Go.LH.Z
open Go Go.LH Go.Proofs
set_option maxRecDepth 100000
set_option maxHeartbeats 4000000
theorem codes : Codes Tryz.prog := by
  intro f rf h
  match f, h with
  | 0, h => exact nomatch (show (none : Option RF) = some rf from h)
  | 1, h => exact nomatch (show (none : Option RF) = some rf from h)
  | 2, h => exact nomatch (show (none : Option RF) = some rf from h)
  | 3, h => exact ⟨by kernel_rfl, _, Tryz.func3, (c3).trans (show some r3 = some rf from h)⟩
  | 4, h => exact ⟨by kernel_rfl, _, Tryz.func4, (c4).trans (show some r4 = some rf from h)⟩
  | 5, h => exact ⟨by kernel_rfl, _, Tryz.func5, (c5).trans (show some r5 = some rf from h)⟩
  | 6, h => exact ⟨by kernel_rfl, _, Tryz.func6, (c6).trans (show some r6 = some rf from h)⟩
  | 7, h => exact ⟨by kernel_rfl, _, Tryz.func7, (c7).trans (show some r7 = some rf from h)⟩
  | 8, h => exact ⟨by kernel_rfl, _, Tryz.func8, (c8).trans (show some r8 = some rf from h)⟩
  | 9, h => exact ⟨by kernel_rfl, _, Tryz.func9, (c9).trans (show some r9 = some rf from h)⟩
  | 10, h => exact ⟨by kernel_rfl, _, Tryz.func10, (c10).trans (show some r10 = some rf from h)⟩
  | 11, h => exact ⟨by kernel_rfl, _, Tryz.func11, (c11).trans (show some r11 = some rf from h)⟩
  | 12, h => exact ⟨by kernel_rfl, _, Tryz.func12, (c12).trans (show some r12 = some rf from h)⟩
  | 13, h => exact ⟨by kernel_rfl, _, Tryz.func13, (c13).trans (show some r13 = some rf from h)⟩
  | 14, h => exact ⟨by kernel_rfl, _, Tryz.func14, (c14).trans (show some r14 = some rf from h)⟩
  | 15, h => exact ⟨by kernel_rfl, _, Tryz.func15, (c15).trans (show some r15 = some rf from h)⟩
  | 16, h => exact ⟨by kernel_rfl, _, Tryz.func16, (c16).trans (show some r16 = some rf from h)⟩
  | 17, h => exact ⟨by kernel_rfl, _, Tryz.func17, (c17).trans (show some r17 = some rf from h)⟩
  | 18, h => exact ⟨by kernel_rfl, _, Tryz.func18, (c18).trans (show some r18 = some rf from h)⟩
  | 19, h => exact ⟨by kernel_rfl, _, Tryz.func19, (c19).trans (show some r19 = some rf from h)⟩
  | 20, h => exact ⟨by kernel_rfl, _, Tryz.func20, (c20).trans (show some r20 = some rf from h)⟩
  | 21, h => exact ⟨by kernel_rfl, _, Tryz.func21, (c21).trans (show some r21 = some rf from h)⟩
  | 22, h => exact ⟨by kernel_rfl, _, Tryz.func22, (c22).trans (show some r22 = some rf from h)⟩
  | 23, h => exact ⟨by kernel_rfl, _, Tryz.func23, (c23).trans (show some r23 = some rf from h)⟩
  | 24, h => exact ⟨by kernel_rfl, _, Tryz.func24, (c24).trans (show some r24 = some rf from h)⟩
  | 25, h => exact ⟨by kernel_rfl, _, Tryz.func25, (c25).trans (show some r25 = some rf from h)⟩
  | 26, h => exact ⟨by kernel_rfl, _, Tryz.func26, (c26).trans (show some r26 = some rf from h)⟩
  | 27, h => exact ⟨by kernel_rfl, _, Tryz.func27, (c27).trans (show some r27 = some rf from h)⟩
  | 28, h => exact ⟨by kernel_rfl, _, Tryz.func28, (c28).trans (show some r28 = some rf from h)⟩
  | 29, h => exact ⟨by kernel_rfl, _, Tryz.func29, (c29).trans (show some r29 = some rf from h)⟩
  | 30, h => exact ⟨by kernel_rfl, _, Tryz.func30, (c30).trans (show some r30 = some rf from h)⟩
  | 31, h => exact ⟨by kernel_rfl, _, Tryz.func31, (c31).trans (show some r31 = some rf from h)⟩
  | 32, h => exact ⟨by kernel_rfl, _, Tryz.func32, (c32).trans (show some r32 = some rf from h)⟩
  | 33, h => exact ⟨by kernel_rfl, _, Tryz.func33, (c33).trans (show some r33 = some rf from h)⟩
  | 34, h => exact ⟨by kernel_rfl, _, Tryz.func34, (c34).trans (show some r34 = some rf from h)⟩
  | 35, h => exact ⟨by kernel_rfl, _, Tryz.func35, (c35).trans (show some r35 = some rf from h)⟩
  | 36, h => exact nomatch (show (none : Option RF) = some rf from h)
  | 37, h => exact ⟨by kernel_rfl, _, Tryz.func37, (c37).trans (show some r37 = some rf from h)⟩
  | 38, h => exact nomatch (show (none : Option RF) = some rf from h)
  | 39, h => exact ⟨by kernel_rfl, _, Tryz.func39, (c39).trans (show some r39 = some rf from h)⟩
  | 40, h => exact ⟨by kernel_rfl, _, Tryz.func40, (c40).trans (show some r40 = some rf from h)⟩
  | 41, h => exact ⟨by kernel_rfl, _, Tryz.func41, (c41).trans (show some r41 = some rf from h)⟩
  | 42, h => exact ⟨by kernel_rfl, _, Tryz.func42, (c42).trans (show some r42 = some rf from h)⟩
  | 43, h => exact ⟨by kernel_rfl, _, Tryz.func43, (c43).trans (show some r43 = some rf from h)⟩
  | 44, h => exact ⟨by kernel_rfl, _, Tryz.func44, (c44).trans (show some r44 = some rf from h)⟩
  | 45, h => exact ⟨by kernel_rfl, _, Tryz.func45, (c45).trans (show some r45 = some rf from h)⟩
  | 46, h => exact ⟨by kernel_rfl, _, Tryz.func46, (c46).trans (show some r46 = some rf from h)⟩
  | 47, h => exact ⟨by kernel_rfl, _, Tryz.func47, (c47).trans (show some r47 = some rf from h)⟩
  | 48, h => exact ⟨by kernel_rfl, _, Tryz.func48, (c48).trans (show some r48 = some rf from h)⟩
  | 49, h => exact ⟨by kernel_rfl, _, Tryz.func49, (c49).trans (show some r49 = some rf from h)⟩
  | 50, h => exact ⟨by kernel_rfl, _, Tryz.func50, (c50).trans (show some r50 = some rf from h)⟩
  | 51, h => exact ⟨by kernel_rfl, _, Tryz.func51, (c51).trans (show some r51 = some rf from h)⟩
  | 52, h => exact nomatch (show (none : Option RF) = some rf from h)
  | 53, h => exact nomatch (show (none : Option RF) = some rf from h)
  | 54, h => exact nomatch (show (none : Option RF) = some rf from h)
  | 55, h => exact nomatch (show (none : Option RF) = some rf from h)
  | 56, h => exact nomatch (show (none : Option RF) = some rf from h)
  | 57, h => exact nomatch (show (none : Option RF) = some rf from h)
  | 58, h => exact ⟨by kernel_rfl, _, Tryz.func58, (c58).trans (show some r58 = some rf from h)⟩
  | 59, h => exact ⟨by kernel_rfl, _, Tryz.func59, (c59).trans (show some r59 = some rf from h)⟩
  | 60, h => exact ⟨by kernel_rfl, _, Tryz.func60, (c60).trans (show some r60 = some rf from h)⟩
  | 61, h => exact ⟨by kernel_rfl, _, Tryz.func61, (c61).trans (show some r61 = some rf from h)⟩
  | 62, h => exact ⟨by kernel_rfl, _, Tryz.func62, (c62).trans (show some r62 = some rf from h)⟩
  | 63, h => exact ⟨by kernel_rfl, _, Tryz.func63, (c63).trans (show some r63 = some rf from h)⟩
  | 64, h => exact ⟨by kernel_rfl, _, Tryz.func64, (c64).trans (show some r64 = some rf from h)⟩
  | 65, h => exact ⟨by kernel_rfl, _, Tryz.func65, (c65).trans (show some r65 = some rf from h)⟩
  | 66, h => exact ⟨by kernel_rfl, _, Tryz.func66, (c66).trans (show some r66 = some rf from h)⟩
  | 67, h => exact ⟨by kernel_rfl, _, Tryz.func67, (c67).trans (show some r67 = some rf from h)⟩
  | 68, h => exact ⟨by kernel_rfl, _, Tryz.func68, (c68).trans (show some r68 = some rf from h)⟩
  | 69, h => exact ⟨by kernel_rfl, _, Tryz.func69, (c69).trans (show some r69 = some rf from h)⟩
  | 70, h => exact ⟨by kernel_rfl, _, Tryz.func70, (c70).trans (show some r70 = some rf from h)⟩
  | 71, h => exact nomatch (show (none : Option RF) = some rf from h)
  | 72, h => exact nomatch (show (none : Option RF) = some rf from h)
  | 73, h => exact ⟨by kernel_rfl, _, Tryz.func73, (c73).trans (show some r73 = some rf from h)⟩
  | 74, h => exact ⟨by kernel_rfl, _, Tryz.func74, (c74).trans (show some r74 = some rf from h)⟩
  | 75, h => exact ⟨by kernel_rfl, _, Tryz.func75, (c75).trans (show some r75 = some rf from h)⟩
  | 76, h => exact ⟨by kernel_rfl, _, Tryz.func76, (c76).trans (show some r76 = some rf from h)⟩
  | 77, h => exact ⟨by kernel_rfl, _, Tryz.func77, (c77).trans (show some r77 = some rf from h)⟩
  | 78, h => exact ⟨by kernel_rfl, _, Tryz.func78, (c78).trans (show some r78 = some rf from h)⟩
  | 79, h => exact ⟨by kernel_rfl, _, Tryz.func79, (c79).trans (show some r79 = some rf from h)⟩
  | 80, h => exact ⟨by kernel_rfl, _, Tryz.func80, (c80).trans (show some r80 = some rf from h)⟩
  | 81, h => exact ⟨by kernel_rfl, _, Tryz.func81, (c81).trans (show some r81 = some rf from h)⟩
  | 82, h => exact ⟨by kernel_rfl, _, Tryz.func82, (c82).trans (show some r82 = some rf from h)⟩
  | 83, h => exact ⟨by kernel_rfl, _, Tryz.func83, (c83).trans (show some r83 = some rf from h)⟩
  | 84, h => exact ⟨by kernel_rfl, _, Tryz.func84, (c84).trans (show some r84 = some rf from h)⟩
  | 85, h => exact ⟨by kernel_rfl, _, Tryz.func85, (c85).trans (show some r85 = some rf from h)⟩
  | 86, h => exact ⟨by kernel_rfl, _, Tryz.func86, (c86).trans (show some r86 = some rf from h)⟩
  | 87, h => exact ⟨by kernel_rfl, _, Tryz.func87, (c87).trans (show some r87 = some rf from h)⟩
  | 88, h => exact ⟨by kernel_rfl, _, Tryz.func88, (c88).trans (show some r88 = some rf from h)⟩
  | 89, h => exact ⟨by kernel_rfl, _, Tryz.func89, (c89).trans (show some r89 = some rf from h)⟩
  | 90, h => exact ⟨by kernel_rfl, _, Tryz.func90, (c90).trans (show some r90 = some rf from h)⟩
  | 91, h => exact ⟨by kernel_rfl, _, Tryz.func91, (c91).trans (show some r91 = some rf from h)⟩
  | 92, h => exact ⟨by kernel_rfl, _, Tryz.func92, (c92).trans (show some r92 = some rf from h)⟩
  | n + 93, h =>
    have e : zcode (n + 93) = none := rfl
    rw [e] at h; cases h
end Go.LH.Z
