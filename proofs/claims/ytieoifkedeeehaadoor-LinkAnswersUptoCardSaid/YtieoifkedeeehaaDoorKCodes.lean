/- Link: the codes are the program's. -/
import Derived.Test.YtieoifkedeeehaaDoorKBase
import Derived.Test.YtieoifkedeeehaaDoorKComp
namespace Go.LH.K
open Go Go.LH Go.Proofs
set_option maxRecDepth 100000
set_option maxHeartbeats 4000000
theorem codes : Codes Tryd.prog := by
  intro f rf h
  match f, h with
  | 0, h => exact nomatch (show (none : Option RF) = some rf from h)
  | 1, h => exact nomatch (show (none : Option RF) = some rf from h)
  | 2, h => exact nomatch (show (none : Option RF) = some rf from h)
  | 3, h => exact ⟨by kernel_rfl, _, _, Tryd.func3, (c3).trans (show some r3 = some rf from h)⟩
  | 4, h => exact ⟨by kernel_rfl, _, _, Tryd.func4, (c4).trans (show some r4 = some rf from h)⟩
  | 5, h => exact ⟨by kernel_rfl, _, _, Tryd.func5, (c5).trans (show some r5 = some rf from h)⟩
  | 6, h => exact ⟨by kernel_rfl, _, _, Tryd.func6, (c6).trans (show some r6 = some rf from h)⟩
  | 7, h => exact ⟨by kernel_rfl, _, _, Tryd.func7, (c7).trans (show some r7 = some rf from h)⟩
  | 8, h => exact ⟨by kernel_rfl, _, _, Tryd.func8, (c8).trans (show some r8 = some rf from h)⟩
  | 9, h => exact ⟨by kernel_rfl, _, _, Tryd.func9, (c9).trans (show some r9 = some rf from h)⟩
  | 10, h => exact ⟨by kernel_rfl, _, _, Tryd.func10, (c10).trans (show some r10 = some rf from h)⟩
  | 11, h => exact ⟨by kernel_rfl, _, _, Tryd.func11, (c11).trans (show some r11 = some rf from h)⟩
  | 12, h => exact ⟨by kernel_rfl, _, _, Tryd.func12, (c12).trans (show some r12 = some rf from h)⟩
  | 13, h => exact ⟨by kernel_rfl, _, _, Tryd.func13, (c13).trans (show some r13 = some rf from h)⟩
  | 14, h => exact ⟨by kernel_rfl, _, _, Tryd.func14, (c14).trans (show some r14 = some rf from h)⟩
  | 15, h => exact ⟨by kernel_rfl, _, _, Tryd.func15, (c15).trans (show some r15 = some rf from h)⟩
  | 16, h => exact ⟨by kernel_rfl, _, _, Tryd.func16, (c16).trans (show some r16 = some rf from h)⟩
  | 17, h => exact ⟨by kernel_rfl, _, _, Tryd.func17, (c17).trans (show some r17 = some rf from h)⟩
  | 18, h => exact ⟨by kernel_rfl, _, _, Tryd.func18, (c18).trans (show some r18 = some rf from h)⟩
  | 19, h => exact ⟨by kernel_rfl, _, _, Tryd.func19, (c19).trans (show some r19 = some rf from h)⟩
  | 20, h => exact ⟨by kernel_rfl, _, _, Tryd.func20, (c20).trans (show some r20 = some rf from h)⟩
  | 21, h => exact ⟨by kernel_rfl, _, _, Tryd.func21, (c21).trans (show some r21 = some rf from h)⟩
  | 22, h => exact ⟨by kernel_rfl, _, _, Tryd.func22, (c22).trans (show some r22 = some rf from h)⟩
  | 23, h => exact ⟨by kernel_rfl, _, _, Tryd.func23, (c23).trans (show some r23 = some rf from h)⟩
  | 24, h => exact ⟨by kernel_rfl, _, _, Tryd.func24, (c24).trans (show some r24 = some rf from h)⟩
  | 25, h => exact ⟨by kernel_rfl, _, _, Tryd.func25, (c25).trans (show some r25 = some rf from h)⟩
  | 26, h => exact ⟨by kernel_rfl, _, _, Tryd.func26, (c26).trans (show some r26 = some rf from h)⟩
  | 27, h => exact ⟨by kernel_rfl, _, _, Tryd.func27, (c27).trans (show some r27 = some rf from h)⟩
  | 28, h => exact ⟨by kernel_rfl, _, _, Tryd.func28, (c28).trans (show some r28 = some rf from h)⟩
  | 29, h => exact ⟨by kernel_rfl, _, _, Tryd.func29, (c29).trans (show some r29 = some rf from h)⟩
  | 30, h => exact ⟨by kernel_rfl, _, _, Tryd.func30, (c30).trans (show some r30 = some rf from h)⟩
  | 31, h => exact ⟨by kernel_rfl, _, _, Tryd.func31, (c31).trans (show some r31 = some rf from h)⟩
  | 32, h => exact ⟨by kernel_rfl, _, _, Tryd.func32, (c32).trans (show some r32 = some rf from h)⟩
  | 33, h => exact nomatch (show (none : Option RF) = some rf from h)
  | 34, h => exact ⟨by kernel_rfl, _, _, Tryd.func34, (c34).trans (show some r34 = some rf from h)⟩
  | 35, h => exact ⟨by kernel_rfl, _, _, Tryd.func35, (c35).trans (show some r35 = some rf from h)⟩
  | 36, h => exact ⟨by kernel_rfl, _, _, Tryd.func36, (c36).trans (show some r36 = some rf from h)⟩
  | 37, h => exact ⟨by kernel_rfl, _, _, Tryd.func37, (c37).trans (show some r37 = some rf from h)⟩
  | 38, h => exact ⟨by kernel_rfl, _, _, Tryd.func38, (c38).trans (show some r38 = some rf from h)⟩
  | 39, h => exact ⟨by kernel_rfl, _, _, Tryd.func39, (c39).trans (show some r39 = some rf from h)⟩
  | 40, h => exact ⟨by kernel_rfl, _, _, Tryd.func40, (c40).trans (show some r40 = some rf from h)⟩
  | 41, h => exact ⟨by kernel_rfl, _, _, Tryd.func41, (c41).trans (show some r41 = some rf from h)⟩
  | 42, h => exact ⟨by kernel_rfl, _, _, Tryd.func42, (c42).trans (show some r42 = some rf from h)⟩
  | 43, h => exact nomatch (show (none : Option RF) = some rf from h)
  | 44, h => exact nomatch (show (none : Option RF) = some rf from h)
  | 45, h => exact nomatch (show (none : Option RF) = some rf from h)
  | 46, h => exact ⟨by kernel_rfl, _, _, Tryd.func46, (c46).trans (show some r46 = some rf from h)⟩
  | 47, h => exact ⟨by kernel_rfl, _, _, Tryd.func47, (c47).trans (show some r47 = some rf from h)⟩
  | 48, h => exact ⟨by kernel_rfl, _, _, Tryd.func48, (c48).trans (show some r48 = some rf from h)⟩
  | 49, h => exact ⟨by kernel_rfl, _, _, Tryd.func49, (c49).trans (show some r49 = some rf from h)⟩
  | 50, h => exact ⟨by kernel_rfl, _, _, Tryd.func50, (c50).trans (show some r50 = some rf from h)⟩
  | 51, h => exact ⟨by kernel_rfl, _, _, Tryd.func51, (c51).trans (show some r51 = some rf from h)⟩
  | 52, h => exact ⟨by kernel_rfl, _, _, Tryd.func52, (c52).trans (show some r52 = some rf from h)⟩
  | 53, h => exact ⟨by kernel_rfl, _, _, Tryd.func53, (c53).trans (show some r53 = some rf from h)⟩
  | 54, h => exact ⟨by kernel_rfl, _, _, Tryd.func54, (c54).trans (show some r54 = some rf from h)⟩
  | 55, h => exact ⟨by kernel_rfl, _, _, Tryd.func55, (c55).trans (show some r55 = some rf from h)⟩
  | 56, h => exact nomatch (show (none : Option RF) = some rf from h)
  | 57, h => exact nomatch (show (none : Option RF) = some rf from h)
  | 58, h => exact nomatch (show (none : Option RF) = some rf from h)
  | 59, h => exact nomatch (show (none : Option RF) = some rf from h)
  | 60, h => exact ⟨by kernel_rfl, _, _, Tryd.func60, (c60).trans (show some r60 = some rf from h)⟩
  | 61, h => exact ⟨by kernel_rfl, _, _, Tryd.func61, (c61).trans (show some r61 = some rf from h)⟩
  | 62, h => exact ⟨by kernel_rfl, _, _, Tryd.func62, (c62).trans (show some r62 = some rf from h)⟩
  | 63, h => exact ⟨by kernel_rfl, _, _, Tryd.func63, (c63).trans (show some r63 = some rf from h)⟩
  | 64, h => exact ⟨by kernel_rfl, _, _, Tryd.func64, (c64).trans (show some r64 = some rf from h)⟩
  | 65, h => exact ⟨by kernel_rfl, _, _, Tryd.func65, (c65).trans (show some r65 = some rf from h)⟩
  | 66, h => exact nomatch (show (none : Option RF) = some rf from h)
  | 67, h => exact nomatch (show (none : Option RF) = some rf from h)
  | 68, h => exact ⟨by kernel_rfl, _, _, Tryd.func68, (c68).trans (show some r68 = some rf from h)⟩
  | n + 69, h =>
    have e : zcode (n + 69) = none := rfl
    rw [e] at h; cases h
end Go.LH.K
