import Derived.Test.YtlgbeekhaoiggaaAmG
import Derived.Test.YtlgbeekhaoiggaaAmA
import Derived.Test.YtlgbeekhaoiggaaRows
set_option linter.all false
section
namespace Go.Proofs.Ytlgbeekhaoiggaa
open Go.AM
def f6r0 : List AIns := [⟨some 2, .mov (.c (.bool false)), none⟩]
def f6r1 : List AIns := [⟨some 18, .mov (.t 0), none⟩,
  ⟨some 19, .call (.c (.func (.func 17) #[] #[])) [(.t 18)], none⟩,
  ⟨some 3, .mov (.t 19), none⟩]
def f6r2 : List AIns := [⟨some 20, .mov (.t 0), none⟩,
  ⟨some 21, .len (.t 20), none⟩,
  ⟨some 22, .bin .gtr (.t 21) (.c (.int .i64 50)), none⟩,
  ⟨some 23, .mov (.t 22), none⟩,
  ⟨some 24, .mov (.t 3), some (23, false)⟩,
  ⟨some 25, .call (.c (.func (.func 24) #[] #[])) [(.t 24)], some (23, false)⟩,
  ⟨some 26, .un .not (.t 25), some (23, false)⟩,
  ⟨some 27, .pick (.t 23) (.c (.bool true)) (.t 26), none⟩]
def f6r3 : List AIns := [⟨some 28, .call (.c (.func (.func 12) #[] #[])) [], none⟩,
  ⟨some 2, .mov (.t 28), none⟩]
def f6r4 : List AIns := [⟨some 29, .mov (.t 0), none⟩,
  ⟨some 30, .call (.c (.func (.func 21) #[] #[])) [(.t 29)], none⟩,
  ⟨some 31, .mov (.t 3), none⟩,
  ⟨some 32, .call (.c (.func (.func 23) #[] #[])) [(.t 31)], none⟩,
  ⟨some 4, .mov (.t 30), none⟩,
  ⟨some 5, .mov (.t 32), none⟩]
def f6r5 : List AIns := [⟨some 34, .mov (.t 4), none⟩,
  ⟨some 35, .call (.c (.func (.func 15) #[] #[])) [(.t 34)], none⟩,
  ⟨some 33, .mov (.t 35), none⟩,
  ⟨some 36, .extract (.t 33) 0, none⟩,
  ⟨some 37, .extract (.t 33) 1, none⟩,
  ⟨some 38, .extract (.t 33) 2, none⟩,
  ⟨some 6, .mov (.t 36), none⟩,
  ⟨some 7, .mov (.t 37), none⟩,
  ⟨some 8, .mov (.t 38), none⟩]
def f6r6 : List AIns := [⟨some 40, .mov (.t 5), none⟩,
  ⟨some 41, .call (.c (.func (.func 13) #[] #[])) [(.t 40)], none⟩,
  ⟨some 39, .mov (.t 41), none⟩,
  ⟨some 42, .extract (.t 39) 0, none⟩,
  ⟨some 43, .extract (.t 39) 1, none⟩,
  ⟨some 44, .extract (.t 39) 2, none⟩,
  ⟨some 9, .mov (.t 42), none⟩,
  ⟨some 10, .mov (.t 43), none⟩,
  ⟨some 11, .mov (.t 44), none⟩]
def f6r7 : List AIns := [⟨some 46, .mov (.t 4), none⟩,
  ⟨some 47, .call (.c (.func (.func 20) #[] #[])) [(.t 46)], none⟩,
  ⟨some 45, .mov (.t 47), none⟩,
  ⟨some 48, .extract (.t 45) 0, none⟩,
  ⟨some 49, .extract (.t 45) 1, none⟩,
  ⟨some 50, .extract (.t 45) 2, none⟩,
  ⟨some 12, .mov (.t 48), none⟩,
  ⟨some 13, .mov (.t 49), none⟩,
  ⟨some 14, .mov (.t 50), none⟩]
def f6r8 : List AIns := [⟨some 52, .mov (.t 5), none⟩,
  ⟨some 53, .call (.c (.func (.func 19) #[] #[])) [(.t 52)], none⟩,
  ⟨some 51, .mov (.t 53), none⟩,
  ⟨some 54, .extract (.t 51) 0, none⟩,
  ⟨some 55, .extract (.t 51) 1, none⟩,
  ⟨some 56, .extract (.t 51) 2, none⟩,
  ⟨some 15, .mov (.t 54), none⟩,
  ⟨some 16, .mov (.t 55), none⟩,
  ⟨some 17, .mov (.t 56), none⟩]
def f6r9 : List AIns := [⟨some 57, .call (.c (.func (.func 12) #[] #[])) [], none⟩,
  ⟨some 58, .mov (.t 57), none⟩,
  ⟨some 59, .mov (.t 6), some (58, true)⟩,
  ⟨some 60, .mov (.t 0), some (58, true)⟩,
  ⟨some 61, .call (.c (.func (.func 18) #[] #[])) [(.t 59), (.t 60)], some (58, true)⟩,
  ⟨some 62, .pick (.t 58) (.t 61) (.c (.bool false)), none⟩,
  ⟨some 63, .mov (.t 62), none⟩,
  ⟨some 64, .mov (.t 7), some (63, true)⟩,
  ⟨some 65, .mov (.t 4), some (63, true)⟩,
  ⟨some 66, .lenStr (.t 65), some (63, true)⟩,
  ⟨some 67, .bin .eql (.t 64) (.t 66), some (63, true)⟩,
  ⟨some 68, .pick (.t 63) (.t 67) (.c (.bool false)), none⟩,
  ⟨some 69, .mov (.t 68), none⟩,
  ⟨some 70, .mov (.t 8), some (69, true)⟩,
  ⟨some 71, .bin .eql (.t 70) (.c (.int .i64 0)), some (69, true)⟩,
  ⟨some 72, .pick (.t 69) (.t 71) (.c (.bool false)), none⟩,
  ⟨some 73, .mov (.t 72), none⟩,
  ⟨some 74, .mov (.t 9), some (73, true)⟩,
  ⟨some 75, .mov (.t 3), some (73, true)⟩,
  ⟨some 76, .call (.c (.func (.func 16) #[] #[])) [(.t 74), (.t 75)], some (73, true)⟩,
  ⟨some 77, .pick (.t 73) (.t 76) (.c (.bool false)), none⟩,
  ⟨some 78, .mov (.t 77), none⟩,
  ⟨some 79, .mov (.t 10), some (78, true)⟩,
  ⟨some 80, .mov (.t 5), some (78, true)⟩,
  ⟨some 81, .lenStr (.t 80), some (78, true)⟩,
  ⟨some 82, .bin .eql (.t 79) (.t 81), some (78, true)⟩,
  ⟨some 83, .pick (.t 78) (.t 82) (.c (.bool false)), none⟩,
  ⟨some 84, .mov (.t 83), none⟩,
  ⟨some 85, .mov (.t 11), some (84, true)⟩,
  ⟨some 86, .bin .eql (.t 85) (.c (.int .i64 0)), some (84, true)⟩,
  ⟨some 87, .pick (.t 84) (.t 86) (.c (.bool false)), none⟩,
  ⟨some 88, .mov (.t 87), none⟩,
  ⟨some 89, .mov (.t 12), some (88, true)⟩,
  ⟨some 90, .mov (.t 0), some (88, true)⟩,
  ⟨some 91, .call (.c (.func (.func 18) #[] #[])) [(.t 89), (.t 90)], some (88, true)⟩,
  ⟨some 92, .pick (.t 88) (.t 91) (.c (.bool false)), none⟩,
  ⟨some 93, .mov (.t 92), none⟩,
  ⟨some 94, .mov (.t 14), some (93, true)⟩,
  ⟨some 95, .bin .eql (.t 94) (.c (.int .i64 0)), some (93, true)⟩,
  ⟨some 96, .pick (.t 93) (.t 95) (.c (.bool false)), none⟩,
  ⟨some 97, .mov (.t 96), none⟩,
  ⟨some 98, .mov (.t 15), some (97, true)⟩,
  ⟨some 99, .mov (.t 3), some (97, true)⟩,
  ⟨some 100, .call (.c (.func (.func 16) #[] #[])) [(.t 98), (.t 99)], some (97, true)⟩,
  ⟨some 101, .pick (.t 97) (.t 100) (.c (.bool false)), none⟩,
  ⟨some 102, .mov (.t 101), none⟩,
  ⟨some 103, .mov (.t 17), some (102, true)⟩,
  ⟨some 104, .bin .eql (.t 103) (.c (.int .i64 0)), some (102, true)⟩,
  ⟨some 105, .pick (.t 102) (.t 104) (.c (.bool false)), none⟩,
  ⟨some 2, .mov (.t 105), none⟩]
def f6b : ACode := (.seq (.reg f6r0) (.seq (.reg f6r1) (.seq (.seq (.reg f6r2) (.cond (.t 27) (.seq (.reg f6r3) .ret) .skip)) (.seq (.reg f6r4) (.seq (.reg f6r5) (.seq (.reg f6r6) (.seq (.reg f6r7) (.seq (.reg f6r8) (.seq (.reg f6r9) .ret)))))))))
def f6 : AFn := ⟨106, f6b, [.tmp 2], .pure⟩
theorem f6_is : cFn Try.prog .pure 6 = some f6 := by kernel_rfl
def f12r0 : List AIns := [⟨some 0, .mov (.c (.bool false)), none⟩]
def f12r1 : List AIns := [⟨some 11, .call (.c (.func (.func 46) #[] #[])) [(.c (.int .i64 1)), (.c (.int .i64 5)), (.c (.int .i64 3))], none⟩,
  ⟨some 12, .build [(.int .i64 0), (.int .i64 0)] [(1, 1, (.c (.int .i64 7)))], none⟩,
  ⟨some 13, .build [(.int .i64 0), (.int .i64 0)] [(0, 1, (.c (.int .i64 1)))], none⟩,
  ⟨some 14, .build [(.int .i64 0), (.int .i64 0), (.int .i64 0), (.int .i64 0)] [(0, 2, (.t 12)), (2, 2, (.t 13))], none⟩,
  ⟨some 15, .build [(.int .i64 0), (.int .i64 0), (.int .i64 0), (.int .i64 0), (.int .i64 0)] [(0, 4, (.t 14)), (4, 1, (.c (.int .i64 (-2))))], none⟩,
  ⟨some 16, .buildSlice 57 2 [(.int .i64 0), (.int .i64 0), (.int .i64 0), (.int .i64 0), (.int .i64 0), (.int .i64 0), (.int .i64 0), (.int .i64 0), (.int .i64 0), (.int .i64 0)] [(0, 5, (.t 11)), (5, 5, (.t 15))], none⟩,
  ⟨some 1, .mov (.t 16), none⟩]
def f12r2 : List AIns := [⟨some 18, .call (.c (.func (.func 15) #[] #[])) [(.c (.string ⟨#[91, 49, 44, 53, 41, 61, 62, 51, 59, 91, 55, 44, 43, 105, 110, 102, 41, 61, 62, 45, 50]⟩))], none⟩,
  ⟨some 17, .mov (.t 18), none⟩,
  ⟨some 19, .extract (.t 17) 0, none⟩,
  ⟨some 20, .extract (.t 17) 1, none⟩,
  ⟨some 21, .extract (.t 17) 2, none⟩,
  ⟨some 2, .mov (.t 19), none⟩,
  ⟨some 3, .mov (.t 20), none⟩,
  ⟨some 4, .mov (.t 21), none⟩]
def f12r3 : List AIns := [⟨some 23, .call (.c (.func (.func 13) #[] #[])) [(.c (.string ⟨#[91, 49, 44, 53, 41, 59, 91, 51, 44, 57, 41]⟩))], none⟩,
  ⟨some 22, .mov (.t 23), none⟩,
  ⟨some 24, .extract (.t 22) 0, none⟩,
  ⟨some 25, .extract (.t 22) 1, none⟩,
  ⟨some 26, .extract (.t 22) 2, none⟩,
  ⟨some 5, .mov (.t 24), none⟩,
  ⟨some 6, .mov (.t 25), none⟩,
  ⟨some 7, .mov (.t 26), none⟩]
def f12r4 : List AIns := [⟨some 28, .call (.c (.func (.func 19) #[] #[])) [(.c (.string ⟨#[32, 40, 50, 44, 32, 52, 93, 32, 59, 32, 91, 49, 32, 44, 50, 41, 32]⟩))], none⟩,
  ⟨some 27, .mov (.t 28), none⟩,
  ⟨some 29, .extract (.t 27) 0, none⟩,
  ⟨some 30, .extract (.t 27) 1, none⟩,
  ⟨some 31, .extract (.t 27) 2, none⟩,
  ⟨some 8, .mov (.t 29), none⟩,
  ⟨some 9, .mov (.t 30), none⟩,
  ⟨some 10, .mov (.t 31), none⟩]
def f12r5 : List AIns := [⟨some 32, .mov (.t 1), none⟩,
  ⟨some 33, .call (.c (.func (.func 21) #[] #[])) [(.t 32)], none⟩,
  ⟨some 34, .bin .eql (.t 33) (.c (.string ⟨#[91, 49, 44, 53, 41, 61, 62, 51, 59, 91, 55, 44, 43, 105, 110, 102, 41, 61, 62, 45, 50]⟩)), none⟩,
  ⟨some 35, .mov (.t 34), none⟩,
  ⟨some 36, .mov (.t 2), some (35, true)⟩,
  ⟨some 37, .mov (.t 1), some (35, true)⟩,
  ⟨some 38, .call (.c (.func (.func 18) #[] #[])) [(.t 36), (.t 37)], some (35, true)⟩,
  ⟨some 39, .pick (.t 35) (.t 38) (.c (.bool false)), none⟩,
  ⟨some 40, .mov (.t 39), none⟩,
  ⟨some 41, .mov (.t 3), some (40, true)⟩,
  ⟨some 42, .bin .eql (.t 41) (.c (.int .i64 21)), some (40, true)⟩,
  ⟨some 43, .pick (.t 40) (.t 42) (.c (.bool false)), none⟩,
  ⟨some 44, .mov (.t 43), none⟩,
  ⟨some 45, .mov (.t 4), some (44, true)⟩,
  ⟨some 46, .bin .eql (.t 45) (.c (.int .i64 0)), some (44, true)⟩,
  ⟨some 47, .pick (.t 44) (.t 46) (.c (.bool false)), none⟩,
  ⟨some 48, .mov (.t 47), none⟩,
  ⟨some 49, .mov (.t 6), some (48, true)⟩,
  ⟨some 50, .bin .eql (.t 49) (.c (.int .i64 6)), some (48, true)⟩,
  ⟨some 51, .pick (.t 48) (.t 50) (.c (.bool false)), none⟩,
  ⟨some 52, .mov (.t 51), none⟩,
  ⟨some 53, .mov (.t 7), some (52, true)⟩,
  ⟨some 54, .bin .eql (.t 53) (.c (.int .i64 180)), some (52, true)⟩,
  ⟨some 55, .pick (.t 52) (.t 54) (.c (.bool false)), none⟩,
  ⟨some 56, .mov (.t 55), none⟩,
  ⟨some 57, .mov (.t 10), some (56, true)⟩,
  ⟨some 58, .bin .eql (.t 57) (.c (.int .i64 0)), some (56, true)⟩,
  ⟨some 59, .pick (.t 56) (.t 58) (.c (.bool false)), none⟩,
  ⟨some 60, .mov (.t 59), none⟩,
  ⟨some 61, .mov (.t 8), some (60, true)⟩,
  ⟨some 62, .call (.c (.func (.func 46) #[] #[])) [(.c (.int .i64 3)), (.c (.int .i64 5)), (.c (.int .i64 0))], some (60, true)⟩,
  ⟨some 63, .fieldN 0 4 (.t 62), some (60, true)⟩,
  ⟨some 64, .call (.c (.func (.func 46) #[] #[])) [(.c (.int .i64 1)), (.c (.int .i64 2)), (.c (.int .i64 0))], some (60, true)⟩,
  ⟨some 65, .fieldN 0 4 (.t 64), some (60, true)⟩,
  ⟨some 66, .buildSlice 46 2 [(.int .i64 0), (.int .i64 0), (.int .i64 0), (.int .i64 0), (.int .i64 0), (.int .i64 0), (.int .i64 0), (.int .i64 0)] [(0, 4, (.t 63)), (4, 4, (.t 65))], some (60, true)⟩,
  ⟨some 67, .call (.c (.func (.func 16) #[] #[])) [(.t 61), (.t 66)], some (60, true)⟩,
  ⟨some 68, .pick (.t 60) (.t 67) (.c (.bool false)), none⟩,
  ⟨some 0, .mov (.t 68), none⟩]
def f12b : ACode := (.seq (.reg f12r0) (.seq (.reg f12r1) (.seq (.reg f12r2) (.seq (.reg f12r3) (.seq (.reg f12r4) (.seq (.reg f12r5) .ret))))))
def f12 : AFn := ⟨69, f12b, [.tmp 0], .pure⟩
theorem f12_is : cFn Try.prog .pure 12 = some f12 := by kernel_rfl
def f13r0 : List AIns := [⟨some 2, .mov (.c (.slice none 0 0)), none⟩,
  ⟨some 3, .mov (.c (.int .i64 0)), none⟩,
  ⟨some 4, .mov (.c (.int .i64 0)), none⟩]
def f13r1 : List AIns := [⟨some 5, .mov (.t 0), none⟩,
  ⟨some 6, .build [(.string ⟨#[]⟩), (.int .i64 0), (.bool false)] [(0, 1, (.t 5))], none⟩,
  ⟨some 7, .box 62 (.t 6), none⟩,
  ⟨some 8, .call (.c (.func (.func 47) #[] #[])) [(.t 7)], none⟩,
  ⟨some 9, .extract (.t 8) 0, none⟩,
  ⟨some 10, .extract (.t 8) 1, none⟩,
  ⟨some 11, .extract (.t 8) 2, none⟩,
  ⟨some 2, .mov (.t 9), none⟩,
  ⟨some 3, .mov (.t 10), none⟩,
  ⟨some 4, .mov (.t 11), none⟩]
def f13b : ACode := (.seq (.reg f13r0) (.seq (.reg f13r1) .ret))
def f13 : AFn := ⟨12, f13b, [.tmp 2, .tmp 3, .tmp 4], .pure⟩
theorem f13_is : cFn Try.prog .pure 13 = some f13 := by kernel_rfl
def f15r0 : List AIns := [⟨some 2, .mov (.c (.slice none 0 0)), none⟩,
  ⟨some 3, .mov (.c (.int .i64 0)), none⟩,
  ⟨some 4, .mov (.c (.int .i64 0)), none⟩]
def f15r1 : List AIns := [⟨some 5, .mov (.t 0), none⟩,
  ⟨some 6, .build [(.string ⟨#[]⟩), (.int .i64 0), (.bool false)] [(0, 1, (.t 5))], none⟩,
  ⟨some 7, .box 62 (.t 6), none⟩,
  ⟨some 8, .call (.c (.func (.func 50) #[] #[])) [(.t 7)], none⟩,
  ⟨some 9, .extract (.t 8) 0, none⟩,
  ⟨some 10, .extract (.t 8) 1, none⟩,
  ⟨some 11, .extract (.t 8) 2, none⟩,
  ⟨some 2, .mov (.t 9), none⟩,
  ⟨some 3, .mov (.t 10), none⟩,
  ⟨some 4, .mov (.t 11), none⟩]
def f15b : ACode := (.seq (.reg f15r0) (.seq (.reg f15r1) .ret))
def f15 : AFn := ⟨12, f15b, [.tmp 2, .tmp 3, .tmp 4], .pure⟩
theorem f15_is : cFn Try.prog .pure 15 = some f15 := by kernel_rfl
def f16r0 : List AIns := [⟨some 4, .mov (.c (.bool false)), none⟩]
def f16r1 : List AIns := [⟨some 6, .mov (.t 0), none⟩,
  ⟨some 7, .len (.t 6), none⟩,
  ⟨some 8, .mov (.t 1), none⟩,
  ⟨some 9, .len (.t 8), none⟩,
  ⟨some 10, .bin .neq (.t 7) (.t 9), none⟩]
def f16r2 : List AIns := [⟨some 4, .mov (.c (.bool false)), none⟩]
def f16r3 : List AIns := [⟨some 5, .mov (.c (.int .i64 0)), none⟩]
def f16r4 : List AIns := [⟨some 11, .mov (.t 5), none⟩,
  ⟨some 12, .mov (.t 0), none⟩,
  ⟨some 13, .len (.t 12), none⟩,
  ⟨some 14, .bin .lss (.t 11) (.t 13), none⟩]
def f16r5 : List AIns := [⟨some 17, .mov (.t 0), none⟩,
  ⟨some 18, .mov (.t 5), none⟩,
  ⟨some 19, .idxA 4 (.t 17) (.t 18), none⟩,
  ⟨some 20, .loadN 4 (.t 19), none⟩,
  ⟨some 21, .mov (.t 1), none⟩,
  ⟨some 22, .mov (.t 5), none⟩,
  ⟨some 23, .idxA 4 (.t 21) (.t 22), none⟩,
  ⟨some 24, .loadN 4 (.t 23), none⟩,
  ⟨some 25, .eqv true [.i, .i, .i, .i] true (.t 20) (.t 24), none⟩]
def f16r6 : List AIns := [⟨some 4, .mov (.c (.bool false)), none⟩]
def f16r7 : List AIns := [⟨some 15, .mov (.t 5), none⟩,
  ⟨some 16, .bin .add (.t 15) (.c (.int .i64 1)), none⟩,
  ⟨some 5, .mov (.t 16), none⟩]
def f16l8 : ACode := (.seq (.seq (.reg f16r4) (.cond (.t 14) .skip (.exit 0))) (.seq (.block 1 (.seq (.regD f16r5 [(0, []), (1, []), (2, []), (3, []), (4, []), (5, []), (6, []), (7, []), (8, [])]) (.cond (.t 25) (.seq (.reg f16r6) .ret) .skip))) (.reg f16r7)))
def f16r9 : List AIns := [⟨some 4, .mov (.c (.bool true)), none⟩]
def f16b : ACode := (.seq (.reg f16r0) (.seq (.seq (.reg f16r1) (.cond (.t 10) (.seq (.reg f16r2) .ret) .skip)) (.seq (.seq (.reg f16r3) (.block 0 (.loop f16l8))) (.seq (.reg f16r9) .ret))))
def f16 : AFn := ⟨26, f16b, [.tmp 4], .pure⟩
theorem f16_is : cFn Try.prog .pure 16 = some f16 := by kernel_rfl
def f17r0 : List AIns := [⟨some 2, .mov (.c (.slice none 0 0)), none⟩]
def f17r1 : List AIns := [⟨some 3, .mov (.t 0), none⟩,
  ⟨some 4, .call (.c (.func (.func 51) #[] #[])) [(.t 3)], none⟩,
  ⟨some 2, .mov (.t 4), none⟩]
def f17b : ACode := (.seq (.reg f17r0) (.seq (.reg f17r1) .ret))
def f17 : AFn := ⟨5, f17b, [.tmp 2], .pure⟩
theorem f17_is : cFn Try.prog .pure 17 = some f17 := by kernel_rfl
def f18r0 : List AIns := [⟨some 4, .mov (.c (.bool false)), none⟩]
def f18r1 : List AIns := [⟨some 6, .mov (.t 0), none⟩,
  ⟨some 7, .len (.t 6), none⟩,
  ⟨some 8, .mov (.t 1), none⟩,
  ⟨some 9, .len (.t 8), none⟩,
  ⟨some 10, .bin .neq (.t 7) (.t 9), none⟩]
def f18r2 : List AIns := [⟨some 4, .mov (.c (.bool false)), none⟩]
def f18r3 : List AIns := [⟨some 5, .mov (.c (.int .i64 0)), none⟩]
def f18r4 : List AIns := [⟨some 11, .mov (.t 5), none⟩,
  ⟨some 12, .mov (.t 0), none⟩,
  ⟨some 13, .len (.t 12), none⟩,
  ⟨some 14, .bin .lss (.t 11) (.t 13), none⟩]
def f18r5 : List AIns := [⟨some 17, .mov (.t 0), none⟩,
  ⟨some 18, .mov (.t 5), none⟩,
  ⟨some 19, .idxA 5 (.t 17) (.t 18), none⟩,
  ⟨some 20, .loadN 5 (.t 19), none⟩,
  ⟨some 21, .mov (.t 1), none⟩,
  ⟨some 22, .mov (.t 5), none⟩,
  ⟨some 23, .idxA 5 (.t 21) (.t 22), none⟩,
  ⟨some 24, .loadN 5 (.t 23), none⟩,
  ⟨some 25, .eqv true [.i, .i, .i, .i, .i] true (.t 20) (.t 24), none⟩]
def f18r6 : List AIns := [⟨some 4, .mov (.c (.bool false)), none⟩]
def f18r7 : List AIns := [⟨some 15, .mov (.t 5), none⟩,
  ⟨some 16, .bin .add (.t 15) (.c (.int .i64 1)), none⟩,
  ⟨some 5, .mov (.t 16), none⟩]
def f18l8 : ACode := (.seq (.seq (.reg f18r4) (.cond (.t 14) .skip (.exit 0))) (.seq (.block 1 (.seq (.regD f18r5 [(0, []), (1, []), (2, []), (3, []), (4, []), (5, []), (6, []), (7, []), (8, [])]) (.cond (.t 25) (.seq (.reg f18r6) .ret) .skip))) (.reg f18r7)))
def f18r9 : List AIns := [⟨some 4, .mov (.c (.bool true)), none⟩]
def f18b : ACode := (.seq (.reg f18r0) (.seq (.seq (.reg f18r1) (.cond (.t 10) (.seq (.reg f18r2) .ret) .skip)) (.seq (.seq (.reg f18r3) (.block 0 (.loop f18l8))) (.seq (.reg f18r9) .ret))))
def f18 : AFn := ⟨26, f18b, [.tmp 4], .pure⟩
theorem f18_is : cFn Try.prog .pure 18 = some f18 := by kernel_rfl
def f19r0 : List AIns := [⟨some 2, .mov (.c (.slice none 0 0)), none⟩,
  ⟨some 3, .mov (.c (.int .i64 0)), none⟩,
  ⟨some 4, .mov (.c (.int .i64 0)), none⟩]
def f19r1 : List AIns := [⟨some 5, .mov (.t 0), none⟩,
  ⟨some 6, .build [(.string ⟨#[]⟩), (.int .i64 0), (.bool false)] [(0, 1, (.t 5)), (2, 1, (.c (.bool true)))], none⟩,
  ⟨some 7, .box 62 (.t 6), none⟩,
  ⟨some 8, .call (.c (.func (.func 47) #[] #[])) [(.t 7)], none⟩,
  ⟨some 9, .extract (.t 8) 0, none⟩,
  ⟨some 10, .extract (.t 8) 1, none⟩,
  ⟨some 11, .extract (.t 8) 2, none⟩,
  ⟨some 2, .mov (.t 9), none⟩,
  ⟨some 3, .mov (.t 10), none⟩,
  ⟨some 4, .mov (.t 11), none⟩]
def f19b : ACode := (.seq (.reg f19r0) (.seq (.reg f19r1) .ret))
def f19 : AFn := ⟨12, f19b, [.tmp 2, .tmp 3, .tmp 4], .pure⟩
theorem f19_is : cFn Try.prog .pure 19 = some f19 := by kernel_rfl
def f20r0 : List AIns := [⟨some 2, .mov (.c (.slice none 0 0)), none⟩,
  ⟨some 3, .mov (.c (.int .i64 0)), none⟩,
  ⟨some 4, .mov (.c (.int .i64 0)), none⟩]
def f20r1 : List AIns := [⟨some 5, .mov (.t 0), none⟩,
  ⟨some 6, .build [(.string ⟨#[]⟩), (.int .i64 0), (.bool false)] [(0, 1, (.t 5)), (2, 1, (.c (.bool true)))], none⟩,
  ⟨some 7, .box 62 (.t 6), none⟩,
  ⟨some 8, .call (.c (.func (.func 50) #[] #[])) [(.t 7)], none⟩,
  ⟨some 9, .extract (.t 8) 0, none⟩,
  ⟨some 10, .extract (.t 8) 1, none⟩,
  ⟨some 11, .extract (.t 8) 2, none⟩,
  ⟨some 2, .mov (.t 9), none⟩,
  ⟨some 3, .mov (.t 10), none⟩,
  ⟨some 4, .mov (.t 11), none⟩]
def f20b : ACode := (.seq (.reg f20r0) (.seq (.reg f20r1) .ret))
def f20 : AFn := ⟨12, f20b, [.tmp 2, .tmp 3, .tmp 4], .pure⟩
theorem f20_is : cFn Try.prog .pure 20 = some f20 := by kernel_rfl
def f21r0 : List AIns := [⟨some 2, .mov (.c (.string ⟨#[]⟩)), none⟩]
def f21r1 : List AIns := [⟨some 3, .mov (.t 0), none⟩,
  ⟨some 4, .call (.c (.func (.func 52) #[] #[])) [(.t 3), (.c (.func (.func 53) #[] #[]))], none⟩,
  ⟨some 2, .mov (.t 4), none⟩]
def f21b : ACode := (.seq (.reg f21r0) (.seq (.reg f21r1) .ret))
def f21 : AFn := ⟨5, f21b, [.tmp 2], .pure⟩
theorem f21_is : cFn Try.prog .pure 21 = some f21 := by kernel_rfl
def f23r0 : List AIns := [⟨some 2, .mov (.c (.string ⟨#[]⟩)), none⟩]
def f23r1 : List AIns := [⟨some 3, .mov (.t 0), none⟩,
  ⟨some 4, .call (.c (.func (.func 58) #[] #[])) [(.t 3), (.c (.func (.func 54) #[] #[]))], none⟩,
  ⟨some 2, .mov (.t 4), none⟩]
def f23b : ACode := (.seq (.reg f23r0) (.seq (.reg f23r1) .ret))
def f23 : AFn := ⟨5, f23b, [.tmp 2], .pure⟩
theorem f23_is : cFn Try.prog .pure 23 = some f23 := by kernel_rfl
def f24r0 : List AIns := [⟨some 2, .mov (.c (.bool false)), none⟩]
def f24r1 : List AIns := [⟨some 3, .mov (.c (.int .i64 0)), none⟩]
def f24r2 : List AIns := [⟨some 4, .mov (.t 3), none⟩,
  ⟨some 5, .mov (.t 0), none⟩,
  ⟨some 6, .len (.t 5), none⟩,
  ⟨some 7, .bin .lss (.t 4) (.t 6), none⟩]
def f24r3 : List AIns := [⟨some 10, .mov (.t 0), none⟩,
  ⟨some 11, .mov (.t 3), none⟩,
  ⟨some 12, .idxA 4 (.t 10) (.t 11), none⟩,
  ⟨some 13, .loadN 4 (.t 12), none⟩,
  ⟨some 14, .call (.c (.func (.func 59) #[] #[])) [(.t 13)], none⟩,
  ⟨some 15, .un .not (.t 14), none⟩,
  ⟨some 16, .mov (.t 15), none⟩,
  ⟨some 17, .mov (.t 3), some (16, false)⟩,
  ⟨some 18, .bin .gtr (.t 17) (.c (.int .i64 0)), some (16, false)⟩,
  ⟨some 19, .mov (.t 18), some (16, false)⟩,
  ⟨some 20, .mov (.t 0), some (19, true)⟩,
  ⟨some 21, .mov (.t 3), some (19, true)⟩,
  ⟨some 22, .idxA 4 (.t 20) (.t 21), some (19, true)⟩,
  ⟨some 23, .addOff 0 (.t 22), some (19, true)⟩,
  ⟨some 24, .loadN 2 (.t 23), some (19, true)⟩,
  ⟨some 25, .mov (.t 0), some (19, true)⟩,
  ⟨some 26, .mov (.t 3), some (19, true)⟩,
  ⟨some 27, .bin .sub (.t 26) (.c (.int .i64 1)), some (19, true)⟩,
  ⟨some 28, .idxA 4 (.t 25) (.t 27), some (19, true)⟩,
  ⟨some 29, .addOff 2 (.t 28), some (19, true)⟩,
  ⟨some 30, .loadN 2 (.t 29), some (19, true)⟩,
  ⟨some 31, .call (.c (.func (.func 38) #[] #[])) [(.t 24), (.t 30)], some (19, true)⟩,
  ⟨some 32, .pick (.t 19) (.t 31) (.c (.bool false)), some (16, false)⟩,
  ⟨some 33, .pick (.t 16) (.c (.bool true)) (.t 32), none⟩]
def f24r4 : List AIns := [⟨some 2, .mov (.c (.bool false)), none⟩]
def f24r5 : List AIns := [⟨some 8, .mov (.t 3), none⟩,
  ⟨some 9, .bin .add (.t 8) (.c (.int .i64 1)), none⟩,
  ⟨some 3, .mov (.t 9), none⟩]
def f24l6 : ACode := (.seq (.seq (.reg f24r2) (.cond (.t 7) .skip (.exit 0))) (.seq (.block 1 (.seq (.regD f24r3 [(0, []), (1, []), (2, []), (3, []), (4, []), (5, []), (6, []), (7, []), (8, []), (9, []), (10, []), (11, []), (12, []), (13, []), (14, []), (15, []), (16, []), (17, []), (18, []), (19, []), (20, []), (21, []), (22, []), (23, [])]) (.cond (.t 33) (.seq (.reg f24r4) .ret) .skip))) (.reg f24r5)))
def f24r7 : List AIns := [⟨some 2, .mov (.c (.bool true)), none⟩]
def f24b : ACode := (.seq (.reg f24r0) (.seq (.seq (.reg f24r1) (.block 0 (.loop f24l6))) (.seq (.reg f24r7) .ret)))
def f24 : AFn := ⟨34, f24b, [.tmp 2], .pure⟩
theorem f24_is : cFn Try.prog .pure 24 = some f24 := by kernel_rfl
def f38r0 : List AIns := [⟨some 2, .box 44 (.t 0), none⟩,
  ⟨some 3, .box 44 (.t 1), none⟩,
  ⟨some 4, .mov (.c (.bool false)), none⟩]
def f38r1 : List AIns := [⟨some 5, .loadN 2 (.t 2), none⟩,
  ⟨some 6, .call (.c (.func (.func 73) #[] #[])) [(.t 5)], none⟩,
  ⟨none, .store 2 (.t 2) (.t 6), none⟩]
def f38r2 : List AIns := [⟨some 7, .loadN 2 (.t 3), none⟩,
  ⟨some 8, .call (.c (.func (.func 73) #[] #[])) [(.t 7)], none⟩,
  ⟨none, .store 2 (.t 3) (.t 8), none⟩]
def f38r3 : List AIns := [⟨some 9, .addOff 0 (.t 2), none⟩,
  ⟨some 10, .load1 (.t 9), none⟩,
  ⟨some 11, .addOff 0 (.t 3), none⟩,
  ⟨some 12, .load1 (.t 11), none⟩,
  ⟨some 13, .bin .neq (.t 10) (.t 12), none⟩]
def f38r4 : List AIns := [⟨some 14, .addOff 0 (.t 2), none⟩,
  ⟨some 15, .load1 (.t 14), none⟩,
  ⟨some 16, .addOff 0 (.t 3), none⟩,
  ⟨some 17, .load1 (.t 16), none⟩,
  ⟨some 18, .bin .lss (.t 15) (.t 17), none⟩,
  ⟨some 4, .mov (.t 18), none⟩]
def f38r5 : List AIns := [⟨some 19, .addOff 1 (.t 2), none⟩,
  ⟨some 20, .load1 (.t 19), none⟩,
  ⟨some 21, .addOff 1 (.t 3), none⟩,
  ⟨some 22, .load1 (.t 21), none⟩,
  ⟨some 23, .bin .lss (.t 20) (.t 22), none⟩,
  ⟨some 4, .mov (.t 23), none⟩]
def f38b : ACode := (.seq (.reg f38r0) (.seq (.reg f38r1) (.seq (.reg f38r2) (.seq (.seq (.reg f38r3) (.cond (.t 13) (.seq (.reg f38r4) .ret) .skip)) (.seq (.reg f38r5) .ret)))))
def f38 : AFn := ⟨24, f38b, [.tmp 4], .pure⟩
theorem f38_is : cFn Try.prog .pure 38 = some f38 := by kernel_rfl
def f46r0 : List AIns := [⟨some 6, .alloc 57 [(.int .i64 0), (.int .i64 0), (.int .i64 0), (.int .i64 0), (.int .i64 0)], none⟩]
def f46r1 : List AIns := [⟨some 7, .mov (.t 0), none⟩,
  ⟨some 8, .build [(.int .i64 0), (.int .i64 0)] [(1, 1, (.t 7))], none⟩,
  ⟨some 9, .mov (.t 1), none⟩,
  ⟨some 10, .build [(.int .i64 0), (.int .i64 0)] [(1, 1, (.t 9))], none⟩,
  ⟨some 11, .build [(.int .i64 0), (.int .i64 0), (.int .i64 0), (.int .i64 0)] [(0, 2, (.t 8)), (2, 2, (.t 10))], none⟩,
  ⟨some 12, .mov (.t 2), none⟩,
  ⟨some 13, .build [(.int .i64 0), (.int .i64 0), (.int .i64 0), (.int .i64 0), (.int .i64 0)] [(0, 4, (.t 11)), (4, 1, (.t 12))], none⟩,
  ⟨none, .store 5 (.t 6) (.t 13), none⟩]
def f46b : ACode := (.seq (.reg f46r0) (.seq (.reg f46r1) .ret))
def f46 : AFn := ⟨14, f46b, [.cellN 6 5], .pure⟩
theorem f46_is : cFn Try.prog .pure 46 = some f46 := by kernel_rfl
def f47r0 : List AIns := [⟨some 2, .mov (.c (.slice none 0 0)), none⟩,
  ⟨some 3, .mov (.c (.int .i64 0)), none⟩,
  ⟨some 4, .mov (.c (.int .i64 0)), none⟩]
def f47r1 : List AIns := [⟨some 5, .mov (.t 0), none⟩,
  ⟨some 6, .mov (.t 0), none⟩,
  ⟨some 7, .mkFunc (.func 78) [(.t 6)] [], none⟩,
  ⟨some 8, .call (.c (.func (.func 77) #[] #[])) [(.t 5), (.t 7), (.c (.func (.func 79) #[] #[]))], none⟩,
  ⟨some 9, .extract (.t 8) 0, none⟩,
  ⟨some 10, .extract (.t 8) 1, none⟩,
  ⟨some 11, .extract (.t 8) 2, none⟩,
  ⟨some 2, .mov (.t 9), none⟩,
  ⟨some 3, .mov (.t 10), none⟩,
  ⟨some 4, .mov (.t 11), none⟩]
def f47b : ACode := (.seq (.reg f47r0) (.seq (.reg f47r1) .ret))
def f47 : AFn := ⟨12, f47b, [.tmp 2, .tmp 3, .tmp 4], .plain⟩
theorem f47_is : cFn Try.prog .plain 47 = some f47 := by kernel_rfl
def f50r0 : List AIns := [⟨some 2, .mov (.c (.slice none 0 0)), none⟩,
  ⟨some 3, .mov (.c (.int .i64 0)), none⟩,
  ⟨some 4, .mov (.c (.int .i64 0)), none⟩]
def f50r1 : List AIns := [⟨some 5, .mov (.t 0), none⟩,
  ⟨some 6, .mov (.t 0), none⟩,
  ⟨some 7, .mkFunc (.func 85) [(.t 6)] [], none⟩,
  ⟨some 8, .call (.c (.func (.func 84) #[] #[])) [(.t 5), (.t 7), (.c (.func (.func 86) #[] #[]))], none⟩,
  ⟨some 9, .extract (.t 8) 0, none⟩,
  ⟨some 10, .extract (.t 8) 1, none⟩,
  ⟨some 11, .extract (.t 8) 2, none⟩,
  ⟨some 2, .mov (.t 9), none⟩,
  ⟨some 3, .mov (.t 10), none⟩,
  ⟨some 4, .mov (.t 11), none⟩]
def f50b : ACode := (.seq (.reg f50r0) (.seq (.reg f50r1) .ret))
def f50 : AFn := ⟨12, f50b, [.tmp 2, .tmp 3, .tmp 4], .plain⟩
theorem f50_is : cFn Try.prog .plain 50 = some f50 := by kernel_rfl
def f51r0 : List AIns := [⟨some 2, .mov (.c (.slice none 0 0)), none⟩]
def f51r1 : List AIns := [⟨some 3, .mov (.c (.slice none 0 0)), none⟩]
def f51r2 : List AIns := [⟨some 4, .mov (.c (.int .i64 0)), none⟩]
def f51r3 : List AIns := [⟨some 5, .mov (.t 4), none⟩,
  ⟨some 6, .mov (.t 0), none⟩,
  ⟨some 7, .len (.t 6), none⟩,
  ⟨some 8, .bin .lss (.t 5) (.t 7), none⟩]
def f51r4 : List AIns := [⟨some 11, .mov (.t 3), none⟩,
  ⟨some 12, .mov (.t 0), none⟩,
  ⟨some 13, .mov (.t 4), none⟩,
  ⟨some 14, .idxA 5 (.t 12) (.t 13), none⟩,
  ⟨some 15, .addOff 0 (.t 14), none⟩,
  ⟨some 16, .loadN 4 (.t 15), none⟩,
  ⟨some 17, .buildSlice 46 1 [(.int .i64 0), (.int .i64 0), (.int .i64 0), (.int .i64 0)] [(0, 4, (.t 16))], none⟩,
  ⟨some 18, .append 46 4 32 (.t 11) (.t 17), none⟩,
  ⟨some 3, .mov (.t 18), none⟩]
def f51r5 : List AIns := [⟨some 9, .mov (.t 4), none⟩,
  ⟨some 10, .bin .add (.t 9) (.c (.int .i64 1)), none⟩,
  ⟨some 4, .mov (.t 10), none⟩]
def f51l6 : ACode := (.seq (.seq (.reg f51r3) (.cond (.t 8) .skip (.exit 0))) (.seq (.block 1 (.reg f51r4)) (.reg f51r5)))
def f51r7 : List AIns := [⟨some 19, .mov (.t 3), none⟩,
  ⟨some 2, .mov (.t 19), none⟩]
def f51b : ACode := (.seq (.reg f51r0) (.seq (.reg f51r1) (.seq (.seq (.reg f51r2) (.block 0 (.loop f51l6))) (.seq (.reg f51r7) .ret))))
def f51 : AFn := ⟨20, f51b, [.tmp 2], .pure⟩
theorem f51_is : cFn Try.prog .pure 51 = some f51 := by kernel_rfl
def f52r0 : List AIns := [⟨some 4, .mov (.c (.string ⟨#[]⟩)), none⟩]
def f52r1 : List AIns := [⟨some 5, .alloc 95 [(.pointer none), (.slice none 0 0)], none⟩]
def f52r2 : List AIns := [⟨some 9, .mov (.t 0), none⟩,
  ⟨some 10, .len (.t 9), none⟩,
  ⟨some 11, .mov (.c (.int .i64 0)), none⟩]
def f52r3 : List AIns := [⟨some 12, .bin .lss (.t 11) (.t 10), none⟩]
def f52r4 : List AIns := [⟨some 13, .mov (.t 11), none⟩,
  ⟨some 14, .idxA 5 (.t 9) (.t 11), none⟩,
  ⟨some 15, .loadN 5 (.t 14), none⟩,
  ⟨some 7, .alloc 57 [(.int .i64 0), (.int .i64 0), (.int .i64 0), (.int .i64 0), (.int .i64 0)], none⟩,
  ⟨some 6, .mov (.t 13), none⟩,
  ⟨none, .store 5 (.t 7) (.t 15), none⟩]
def f52r5 : List AIns := [⟨some 16, .mov (.t 1), none⟩,
  ⟨some 17, .loadN 5 (.t 7), none⟩,
  ⟨some 18, .call (.t 16) [(.t 17)], none⟩,
  ⟨some 8, .mov (.t 18), none⟩]
def f52r6 : List AIns := [⟨some 19, .mov (.t 8), none⟩,
  ⟨some 20, .bin .eql (.t 19) (.c (.string ⟨#[]⟩)), none⟩]
def f52r7 : List AIns := [⟨some 4, .mov (.c (.string ⟨#[]⟩)), none⟩]
def f52r8 : List AIns := [⟨some 21, .mov (.t 6), none⟩,
  ⟨some 22, .bin .gtr (.t 21) (.c (.int .i64 0)), none⟩]
def f52r9 : List AIns := [⟨some 23, .call (.c (.func (.func 87) #[] #[])) [(.t 5), (.c (.int .u8 59))], none⟩]
def f52r10 : List AIns := [⟨some 24, .mov (.t 8), none⟩,
  ⟨some 25, .call (.c (.func (.func 88) #[] #[])) [(.t 5), (.t 24)], none⟩]
def f52r11 : List AIns := [⟨some 26, .bin .add (.t 11) (.c (.int .i64 1)), none⟩,
  ⟨some 11, .mov (.t 26), none⟩]
def f52l12 : ACode := (.seq (.reg f52r3) (.seq (.cond (.t 12) .skip (.exit 0)) (.seq (.block 1 (.seq (.reg f52r4) (.seq (.reg f52r5) (.seq (.seq (.reg f52r6) (.cond (.t 20) (.seq (.reg f52r7) .ret) .skip)) (.seq (.seq (.reg f52r8) (.cond (.t 22) (.reg f52r9) .skip)) (.reg f52r10)))))) (.reg f52r11))))
def f52r13 : List AIns := [⟨some 27, .call (.c (.func (.func 89) #[] #[])) [(.t 5)], none⟩,
  ⟨some 4, .mov (.t 27), none⟩]
def f52b : ACode := (.seq (.reg f52r0) (.seq (.reg f52r1) (.seq (.seq (.reg f52r2) (.block 0 (.loop f52l12))) (.seq (.reg f52r13) .ret))))
def f52 : AFn := ⟨28, f52b, [.tmp 4], .pure⟩
theorem f52_is : cFn Try.prog .pure 52 = some f52 := by kernel_rfl
def f53r0 : List AIns := [⟨some 1, .box 57 (.t 0), none⟩,
  ⟨some 2, .mov (.c (.string ⟨#[]⟩)), none⟩]
def f53r1 : List AIns := [⟨some 4, .addOff 0 (.t 1), none⟩,
  ⟨some 5, .loadN 4 (.t 4), none⟩,
  ⟨some 6, .call (.c (.func (.func 54) #[] #[])) [(.t 5)], none⟩,
  ⟨some 3, .mov (.t 6), none⟩]
def f53r2 : List AIns := [⟨some 7, .mov (.t 3), none⟩,
  ⟨some 8, .bin .eql (.t 7) (.c (.string ⟨#[]⟩)), none⟩]
def f53r3 : List AIns := [⟨some 2, .mov (.c (.string ⟨#[]⟩)), none⟩]
def f53r4 : List AIns := [⟨some 9, .mov (.t 3), none⟩,
  ⟨some 10, .bin .add (.t 9) (.c (.string ⟨#[61, 62]⟩)), none⟩,
  ⟨some 11, .addOff 4 (.t 1), none⟩,
  ⟨some 12, .load1 (.t 11), none⟩,
  ⟨some 13, .call (.c (.func (.func 55) #[] #[])) [(.t 12)], none⟩,
  ⟨some 14, .bin .add (.t 10) (.t 13), none⟩,
  ⟨some 2, .mov (.t 14), none⟩]
def f53b : ACode := (.seq (.reg f53r0) (.seq (.reg f53r1) (.seq (.seq (.reg f53r2) (.cond (.t 8) (.seq (.reg f53r3) .ret) .skip)) (.seq (.reg f53r4) .ret))))
def f53 : AFn := ⟨15, f53b, [.tmp 2], .pure⟩
theorem f53_is : cFn Try.prog .pure 53 = some f53 := by kernel_rfl
def f54r0 : List AIns := [⟨some 1, .box 46 (.t 0), none⟩,
  ⟨some 2, .mov (.c (.string ⟨#[]⟩)), none⟩]
def f54r1 : List AIns := [⟨some 4, .loadN 4 (.t 1), none⟩,
  ⟨some 5, .call (.c (.func (.func 71) #[] #[])) [(.t 4)], none⟩,
  ⟨some 6, .un .not (.t 5), none⟩]
def f54r2 : List AIns := [⟨some 2, .mov (.c (.string ⟨#[]⟩)), none⟩]
def f54r3 : List AIns := [⟨some 3, .mov (.c (.string ⟨#[91]⟩)), none⟩]
def f54r4 : List AIns := [⟨some 7, .addOff 0 (.t 1), none⟩,
  ⟨some 8, .loadN 2 (.t 7), none⟩,
  ⟨some 9, .call (.c (.func (.func 90) #[] #[])) [], none⟩,
  ⟨some 10, .eqv false [.i, .i] true (.t 8) (.t 9), none⟩]
def f54r5 : List AIns := [⟨some 3, .mov (.c (.string ⟨#[40]⟩)), none⟩]
def f54r6 : List AIns := [⟨some 11, .mov (.t 3), none⟩,
  ⟨some 12, .addOff 0 (.t 1), none⟩,
  ⟨some 13, .loadN 2 (.t 12), none⟩,
  ⟨some 14, .call (.c (.func (.func 91) #[] #[])) [(.t 13)], none⟩,
  ⟨some 15, .bin .add (.t 11) (.t 14), none⟩,
  ⟨some 16, .bin .add (.t 15) (.c (.string ⟨#[44]⟩)), none⟩,
  ⟨some 17, .addOff 2 (.t 1), none⟩,
  ⟨some 18, .loadN 2 (.t 17), none⟩,
  ⟨some 19, .call (.c (.func (.func 91) #[] #[])) [(.t 18)], none⟩,
  ⟨some 20, .bin .add (.t 16) (.t 19), none⟩,
  ⟨some 21, .bin .add (.t 20) (.c (.string ⟨#[41]⟩)), none⟩,
  ⟨some 2, .mov (.t 21), none⟩]
def f54b : ACode := (.seq (.reg f54r0) (.seq (.seq (.reg f54r1) (.cond (.t 6) (.seq (.reg f54r2) .ret) .skip)) (.seq (.reg f54r3) (.seq (.seq (.regD f54r4 [(0, []), (1, []), (2, [1]), (3, [])]) (.cond (.t 10) (.reg f54r5) .skip)) (.seq (.regD f54r6 [(0, []), (1, []), (2, []), (6, []), (7, []), (3, [7]), (4, []), (5, []), (8, []), (9, []), (10, []), (11, [])]) .ret)))))
def f54 : AFn := ⟨22, f54b, [.tmp 2], .pure⟩
theorem f54_is : cFn Try.prog .pure 54 = some f54 := by kernel_rfl
def f55r0 : List AIns := [⟨some 2, .mov (.c (.string ⟨#[]⟩)), none⟩]
def f55r1 : List AIns := [⟨some 3, .alloc 93 [(.slice none 0 0)], none⟩]
def f55r2 : List AIns := [⟨some 8, .mov (.t 0), none⟩,
  ⟨some 9, .call (.c (.func (.func 92) #[] #[])) [(.t 8)], none⟩,
  ⟨some 4, .alloc 104 [(.int .u64 0)], none⟩,
  ⟨none, .store 1 (.t 4) (.t 9), none⟩]
def f55r3 : List AIns := [⟨some 10, .mkFunc (.func 93) [] [(.t 3), (.t 4)], none⟩,
  ⟨some 5, .mov (.t 10), none⟩]
def f55r4 : List AIns := [⟨some 11, .mov (.t 5), none⟩,
  ⟨some 12, .call (.t 11) [], none⟩]
def f55l5 : ACode := (.seq (.seq (.reg f55r4) (.cond (.t 12) .skip (.exit 0))) (.block 1 .skip))
def f55r6 : List AIns := [⟨some 13, .mov (.t 0), none⟩,
  ⟨some 14, .bin .lss (.t 13) (.c (.int .i64 0)), none⟩]
def f55r7 : List AIns := [⟨some 15, .load1 (.t 3), none⟩,
  ⟨some 16, .buildSlice 5 1 [(.int .u8 0)] [(0, 1, (.c (.int .u8 45)))], none⟩,
  ⟨some 17, .append 5 1 1 (.t 15) (.t 16), none⟩,
  ⟨none, .store 1 (.t 3) (.t 17), none⟩]
def f55r8 : List AIns := [⟨some 18, .load1 (.t 3), none⟩,
  ⟨some 19, .len (.t 18), none⟩,
  ⟨some 20, .makeSlice 5 1 [(.int .u8 0)] (.t 19) (.t 19), none⟩,
  ⟨some 6, .mov (.t 20), none⟩]
def f55r9 : List AIns := [⟨some 21, .load1 (.t 3), none⟩,
  ⟨some 22, .len (.t 21), none⟩,
  ⟨some 23, .mov (.c (.int .i64 0)), none⟩]
def f55r10 : List AIns := [⟨some 24, .bin .lss (.t 23) (.t 22), none⟩]
def f55r11 : List AIns := [⟨some 25, .mov (.t 23), none⟩,
  ⟨some 7, .mov (.t 25), none⟩]
def f55r12 : List AIns := [⟨some 26, .mov (.t 6), none⟩,
  ⟨some 27, .load1 (.t 3), none⟩,
  ⟨some 28, .len (.t 27), none⟩,
  ⟨some 29, .bin .sub (.t 28) (.c (.int .i64 1)), none⟩,
  ⟨some 30, .mov (.t 7), none⟩,
  ⟨some 31, .bin .sub (.t 29) (.t 30), none⟩,
  ⟨some 32, .load1 (.t 3), none⟩,
  ⟨some 33, .mov (.t 7), none⟩,
  ⟨some 34, .idxA 1 (.t 32) (.t 33), none⟩,
  ⟨some 35, .load1 (.t 34), none⟩,
  ⟨some 36, .idxA 1 (.t 26) (.t 31), none⟩,
  ⟨none, .store 1 (.t 36) (.t 35), none⟩]
def f55r13 : List AIns := [⟨some 37, .bin .add (.t 23) (.c (.int .i64 1)), none⟩,
  ⟨some 23, .mov (.t 37), none⟩]
def f55l14 : ACode := (.seq (.reg f55r10) (.seq (.cond (.t 24) .skip (.exit 2)) (.seq (.block 3 (.seq (.reg f55r11) (.regD f55r12 [(0, []), (1, []), (2, []), (3, []), (4, []), (5, []), (6, []), (7, []), (8, []), (9, []), (10, []), (11, [])]))) (.reg f55r13))))
def f55r15 : List AIns := [⟨some 38, .mov (.t 6), none⟩,
  ⟨some 39, .bytesStr (.t 38), none⟩,
  ⟨some 2, .mov (.t 39), none⟩]
def f55b : ACode := (.seq (.reg f55r0) (.seq (.reg f55r1) (.seq (.reg f55r2) (.seq (.reg f55r3) (.seq (.block 0 (.loop f55l5)) (.seq (.seq (.reg f55r6) (.cond (.t 14) (.reg f55r7) .skip)) (.seq (.reg f55r8) (.seq (.seq (.reg f55r9) (.block 2 (.loop f55l14))) (.seq (.reg f55r15) .ret)))))))))
def f55 : AFn := ⟨40, f55b, [.tmp 2], .pure⟩
theorem f55_is : cFn Try.prog .pure 55 = some f55 := by kernel_rfl
def f58r0 : List AIns := [⟨some 4, .mov (.c (.string ⟨#[]⟩)), none⟩]
def f58r1 : List AIns := [⟨some 5, .alloc 95 [(.pointer none), (.slice none 0 0)], none⟩]
def f58r2 : List AIns := [⟨some 9, .mov (.t 0), none⟩,
  ⟨some 10, .len (.t 9), none⟩,
  ⟨some 11, .mov (.c (.int .i64 0)), none⟩]
def f58r3 : List AIns := [⟨some 12, .bin .lss (.t 11) (.t 10), none⟩]
def f58r4 : List AIns := [⟨some 13, .mov (.t 11), none⟩,
  ⟨some 14, .idxA 4 (.t 9) (.t 11), none⟩,
  ⟨some 15, .loadN 4 (.t 14), none⟩,
  ⟨some 7, .alloc 46 [(.int .i64 0), (.int .i64 0), (.int .i64 0), (.int .i64 0)], none⟩,
  ⟨some 6, .mov (.t 13), none⟩,
  ⟨none, .store 4 (.t 7) (.t 15), none⟩]
def f58r5 : List AIns := [⟨some 16, .mov (.t 1), none⟩,
  ⟨some 17, .loadN 4 (.t 7), none⟩,
  ⟨some 18, .call (.t 16) [(.t 17)], none⟩,
  ⟨some 8, .mov (.t 18), none⟩]
def f58r6 : List AIns := [⟨some 19, .mov (.t 8), none⟩,
  ⟨some 20, .bin .eql (.t 19) (.c (.string ⟨#[]⟩)), none⟩]
def f58r7 : List AIns := [⟨some 4, .mov (.c (.string ⟨#[]⟩)), none⟩]
def f58r8 : List AIns := [⟨some 21, .mov (.t 6), none⟩,
  ⟨some 22, .bin .gtr (.t 21) (.c (.int .i64 0)), none⟩]
def f58r9 : List AIns := [⟨some 23, .call (.c (.func (.func 87) #[] #[])) [(.t 5), (.c (.int .u8 59))], none⟩]
def f58r10 : List AIns := [⟨some 24, .mov (.t 8), none⟩,
  ⟨some 25, .call (.c (.func (.func 88) #[] #[])) [(.t 5), (.t 24)], none⟩]
def f58r11 : List AIns := [⟨some 26, .bin .add (.t 11) (.c (.int .i64 1)), none⟩,
  ⟨some 11, .mov (.t 26), none⟩]
def f58l12 : ACode := (.seq (.reg f58r3) (.seq (.cond (.t 12) .skip (.exit 0)) (.seq (.block 1 (.seq (.reg f58r4) (.seq (.reg f58r5) (.seq (.seq (.reg f58r6) (.cond (.t 20) (.seq (.reg f58r7) .ret) .skip)) (.seq (.seq (.reg f58r8) (.cond (.t 22) (.reg f58r9) .skip)) (.reg f58r10)))))) (.reg f58r11))))
def f58r13 : List AIns := [⟨some 27, .call (.c (.func (.func 89) #[] #[])) [(.t 5)], none⟩,
  ⟨some 4, .mov (.t 27), none⟩]
def f58b : ACode := (.seq (.reg f58r0) (.seq (.reg f58r1) (.seq (.seq (.reg f58r2) (.block 0 (.loop f58l12))) (.seq (.reg f58r13) .ret))))
def f58 : AFn := ⟨28, f58b, [.tmp 4], .pure⟩
theorem f58_is : cFn Try.prog .pure 58 = some f58 := by kernel_rfl
def f59r0 : List AIns := [⟨some 1, .box 46 (.t 0), none⟩,
  ⟨some 2, .mov (.c (.bool false)), none⟩]
def f59r1 : List AIns := [⟨some 3, .addOff 0 (.t 1), none⟩,
  ⟨some 4, .loadN 2 (.t 3), none⟩,
  ⟨some 5, .call (.c (.func (.func 73) #[] #[])) [(.t 4)], none⟩,
  ⟨some 6, .addOff 0 (.t 1), none⟩,
  ⟨some 7, .loadN 2 (.t 6), none⟩,
  ⟨some 8, .eqv false [.i, .i] true (.t 5) (.t 7), none⟩,
  ⟨some 9, .mov (.t 8), none⟩,
  ⟨some 10, .addOff 2 (.t 1), some (9, true)⟩,
  ⟨some 11, .loadN 2 (.t 10), some (9, true)⟩,
  ⟨some 12, .call (.c (.func (.func 73) #[] #[])) [(.t 11)], some (9, true)⟩,
  ⟨some 13, .addOff 2 (.t 1), some (9, true)⟩,
  ⟨some 14, .loadN 2 (.t 13), some (9, true)⟩,
  ⟨some 15, .eqv false [.i, .i] true (.t 12) (.t 14), some (9, true)⟩,
  ⟨some 16, .pick (.t 9) (.t 15) (.c (.bool false)), none⟩,
  ⟨some 17, .mov (.t 16), none⟩,
  ⟨some 18, .addOff 0 (.t 1), some (17, true)⟩,
  ⟨some 19, .loadN 2 (.t 18), some (17, true)⟩,
  ⟨some 20, .addOff 2 (.t 1), some (17, true)⟩,
  ⟨some 21, .loadN 2 (.t 20), some (17, true)⟩,
  ⟨some 22, .call (.c (.func (.func 38) #[] #[])) [(.t 19), (.t 21)], some (17, true)⟩,
  ⟨some 23, .pick (.t 17) (.t 22) (.c (.bool false)), none⟩,
  ⟨some 2, .mov (.t 23), none⟩]
def f59b : ACode := (.seq (.reg f59r0) (.seq (.regD f59r1 [(0, []), (1, []), (3, []), (4, []), (2, [4]), (5, []), (6, []), (7, []), (8, []), (10, []), (11, []), (9, [11]), (12, []), (13, []), (14, []), (15, []), (16, []), (17, []), (18, []), (19, []), (20, []), (21, [])]) .ret))
def f59 : AFn := ⟨24, f59b, [.tmp 2], .pure⟩
theorem f59_is : cFn Try.prog .pure 59 = some f59 := by kernel_rfl
def f71r0 : List AIns := [⟨some 1, .box 46 (.t 0), none⟩,
  ⟨some 2, .mov (.c (.bool false)), none⟩]
def f71r1 : List AIns := [⟨some 3, .addOff 0 (.t 1), none⟩,
  ⟨some 4, .loadN 2 (.t 3), none⟩,
  ⟨some 5, .call (.c (.func (.func 102) #[] #[])) [(.t 4)], none⟩,
  ⟨some 6, .mov (.t 5), none⟩,
  ⟨some 7, .addOff 2 (.t 1), some (6, true)⟩,
  ⟨some 8, .loadN 2 (.t 7), some (6, true)⟩,
  ⟨some 9, .call (.c (.func (.func 102) #[] #[])) [(.t 8)], some (6, true)⟩,
  ⟨some 10, .pick (.t 6) (.t 9) (.c (.bool false)), none⟩,
  ⟨some 11, .mov (.t 10), none⟩,
  ⟨some 12, .addOff 0 (.t 1), some (11, true)⟩,
  ⟨some 13, .loadN 2 (.t 12), some (11, true)⟩,
  ⟨some 14, .addOff 2 (.t 1), some (11, true)⟩,
  ⟨some 15, .loadN 2 (.t 14), some (11, true)⟩,
  ⟨some 16, .call (.c (.func (.func 103) #[] #[])) [(.t 13), (.t 15)], some (11, true)⟩,
  ⟨some 17, .bin .lss (.t 16) (.c (.int .i64 0)), some (11, true)⟩,
  ⟨some 18, .pick (.t 11) (.t 17) (.c (.bool false)), none⟩,
  ⟨some 2, .mov (.t 18), none⟩]
def f71b : ACode := (.seq (.reg f71r0) (.seq (.reg f71r1) .ret))
def f71 : AFn := ⟨19, f71b, [.tmp 2], .pure⟩
theorem f71_is : cFn Try.prog .pure 71 = some f71 := by kernel_rfl
def f73r0 : List AIns := [⟨some 1, .box 44 (.t 0), none⟩,
  ⟨some 2, .alloc 44 [(.int .i64 0), (.int .i64 0)], none⟩]
def f73r1 : List AIns := [⟨some 3, .addOff 0 (.t 1), none⟩,
  ⟨some 4, .load1 (.t 3), none⟩,
  ⟨some 5, .bin .lss (.t 4) (.c (.int .i64 0)), none⟩,
  ⟨some 6, .mov (.t 5), none⟩,
  ⟨some 7, .addOff 0 (.t 1), some (6, false)⟩,
  ⟨some 8, .load1 (.t 7), some (6, false)⟩,
  ⟨some 9, .bin .eql (.t 8) (.c (.int .i64 0)), some (6, false)⟩,
  ⟨some 10, .mov (.t 9), some (6, false)⟩,
  ⟨some 11, .addOff 1 (.t 1), some (10, true)⟩,
  ⟨some 12, .load1 (.t 11), some (10, true)⟩,
  ⟨some 13, .call (.c (.func (.func 107) #[] #[])) [], some (10, true)⟩,
  ⟨some 14, .bin .eql (.t 12) (.t 13), some (10, true)⟩,
  ⟨some 15, .pick (.t 10) (.t 14) (.c (.bool false)), some (6, false)⟩,
  ⟨some 16, .pick (.t 6) (.c (.bool true)) (.t 15), none⟩]
def f73r2 : List AIns := [⟨some 17, .build [(.int .i64 0), (.int .i64 0)] [(0, 1, (.c (.int .i64 (-1))))], none⟩,
  ⟨none, .store 2 (.t 2) (.t 17), none⟩]
def f73r3 : List AIns := [⟨some 18, .addOff 0 (.t 1), none⟩,
  ⟨some 19, .load1 (.t 18), none⟩,
  ⟨some 20, .bin .gtr (.t 19) (.c (.int .i64 0)), none⟩]
def f73r4 : List AIns := [⟨some 21, .build [(.int .i64 0), (.int .i64 0)] [(0, 1, (.c (.int .i64 1)))], none⟩,
  ⟨none, .store 2 (.t 2) (.t 21), none⟩]
def f73r5 : List AIns := [⟨some 22, .loadN 2 (.t 1), none⟩,
  ⟨none, .store 2 (.t 2) (.t 22), none⟩]
def f73b : ACode := (.seq (.reg f73r0) (.seq (.seq (.regD f73r1 [(0, []), (1, []), (2, []), (3, []), (4, []), (5, []), (6, []), (7, []), (8, []), (9, []), (10, [9]), (11, []), (12, []), (13, [])]) (.cond (.t 16) (.seq (.reg f73r2) .ret) .skip)) (.seq (.seq (.reg f73r3) (.cond (.t 20) (.seq (.reg f73r4) .ret) .skip)) (.seq (.reg f73r5) .ret))))
def f73 : AFn := ⟨23, f73b, [.cellN 2 2], .pure⟩
theorem f73_is : cFn Try.prog .pure 73 = some f73 := by kernel_rfl
def f77r0 : List AIns := [⟨some 6, .mov (.c (.slice none 0 0)), none⟩,
  ⟨some 7, .mov (.c (.int .i64 0)), none⟩,
  ⟨some 8, .mov (.c (.int .i64 0)), none⟩]
def f77r1 : List AIns := [⟨some 9, .mov (.c (.slice none 0 0)), none⟩]
def f77r2 : List AIns := [⟨some 10, .mov (.c (.slice none 0 0)), none⟩]
def f77r3 : List AIns := [⟨some 15, .mov (.t 0), none⟩,
  ⟨some 16, .nilCheck (.t 15), none⟩,
  ⟨some 17, .addOff 0 (.t 16), none⟩,
  ⟨some 18, .load1 (.t 17), none⟩,
  ⟨some 19, .lenStr (.t 18), none⟩,
  ⟨some 20, .bin .gtr (.t 19) (.c (.int .i64 65536)), none⟩]
def f77r4 : List AIns := [⟨some 6, .mov (.c (.slice none 0 0)), none⟩,
  ⟨some 7, .mov (.c (.int .i64 0)), none⟩,
  ⟨some 8, .mov (.c (.int .i64 180)), none⟩]
def f77r5 : List AIns := [⟨some 21, .mov (.t 0), none⟩,
  ⟨some 22, .call (.c (.func (.func 109) #[] #[])) [(.t 21)], none⟩]
def f77r6 : List AIns := [⟨some 23, .mov (.t 0), none⟩,
  ⟨some 24, .nilCheck (.t 23), none⟩,
  ⟨some 25, .addOff 1 (.t 24), none⟩,
  ⟨some 26, .load1 (.t 25), none⟩,
  ⟨some 27, .mov (.t 0), none⟩,
  ⟨some 28, .nilCheck (.t 27), none⟩,
  ⟨some 29, .addOff 0 (.t 28), none⟩,
  ⟨some 30, .load1 (.t 29), none⟩,
  ⟨some 31, .lenStr (.t 30), none⟩,
  ⟨some 32, .bin .lss (.t 26) (.t 31), none⟩]
def f77r7 : List AIns := [⟨some 33, .mov (.t 9), none⟩,
  ⟨some 34, .len (.t 33), none⟩,
  ⟨some 35, .bin .gtr (.t 34) (.c (.int .i64 0)), none⟩]
def f77r8 : List AIns := [⟨some 36, .mov (.t 0), none⟩,
  ⟨some 37, .call (.c (.func (.func 110) #[] #[])) [(.t 36), (.c (.string ⟨#[59]⟩))], none⟩,
  ⟨some 11, .mov (.t 37), none⟩]
def f77r9 : List AIns := [⟨some 38, .mov (.t 11), none⟩,
  ⟨some 39, .bin .neq (.t 38) (.c (.int .i64 0)), none⟩]
def f77r10 : List AIns := [⟨some 40, .mov (.t 0), none⟩,
  ⟨some 41, .nilCheck (.t 40), none⟩,
  ⟨some 42, .addOff 1 (.t 41), none⟩,
  ⟨some 43, .load1 (.t 42), none⟩,
  ⟨some 44, .mov (.t 11), none⟩,
  ⟨some 6, .mov (.c (.slice none 0 0)), none⟩,
  ⟨some 7, .mov (.t 43), none⟩,
  ⟨some 8, .mov (.t 44), none⟩]
def f77r11 : List AIns := [⟨some 45, .mov (.t 0), none⟩,
  ⟨some 46, .call (.c (.func (.func 109) #[] #[])) [(.t 45)], none⟩]
def f77r12 : List AIns := [⟨some 47, .mov (.t 10), none⟩,
  ⟨some 48, .mov (.t 0), none⟩,
  ⟨some 49, .nilCheck (.t 48), none⟩,
  ⟨some 50, .addOff 1 (.t 49), none⟩,
  ⟨some 51, .load1 (.t 50), none⟩,
  ⟨some 52, .buildSlice 3 1 [(.int .i64 0)] [(0, 1, (.t 51))], none⟩,
  ⟨some 53, .append 3 1 8 (.t 47) (.t 52), none⟩,
  ⟨some 10, .mov (.t 53), none⟩]
def f77r13 : List AIns := [⟨some 55, .mov (.t 1), none⟩,
  ⟨some 56, .call (.t 55) [], none⟩,
  ⟨some 54, .mov (.t 56), none⟩,
  ⟨some 57, .extract (.t 54) 0, none⟩,
  ⟨some 58, .extract (.t 54) 1, none⟩,
  ⟨some 12, .alloc 46 [(.int .i64 0), (.int .i64 0), (.int .i64 0), (.int .i64 0)], none⟩,
  ⟨none, .store 4 (.t 12) (.t 57), none⟩,
  ⟨some 13, .mov (.t 58), none⟩]
def f77r14 : List AIns := [⟨some 59, .mov (.t 13), none⟩,
  ⟨some 60, .bin .neq (.t 59) (.c (.int .i64 0)), none⟩]
def f77r15 : List AIns := [⟨some 61, .mov (.t 0), none⟩,
  ⟨some 62, .nilCheck (.t 61), none⟩,
  ⟨some 63, .addOff 1 (.t 62), none⟩,
  ⟨some 64, .load1 (.t 63), none⟩,
  ⟨some 65, .mov (.t 13), none⟩,
  ⟨some 6, .mov (.c (.slice none 0 0)), none⟩,
  ⟨some 7, .mov (.t 64), none⟩,
  ⟨some 8, .mov (.t 65), none⟩]
def f77r16 : List AIns := [⟨some 66, .mov (.t 9), none⟩,
  ⟨some 67, .loadN 4 (.t 12), none⟩,
  ⟨some 68, .buildSlice 46 1 [(.int .i64 0), (.int .i64 0), (.int .i64 0), (.int .i64 0)] [(0, 4, (.t 67))], none⟩,
  ⟨some 69, .append 46 4 32 (.t 66) (.t 68), none⟩,
  ⟨some 9, .mov (.t 69), none⟩]
def f77r17 : List AIns := [⟨some 70, .mov (.t 0), none⟩,
  ⟨some 71, .call (.c (.func (.func 109) #[] #[])) [(.t 70)], none⟩]
def f77l18 : ACode := (.seq (.seq (.regD f77r6 [(0, []), (1, []), (2, []), (3, []), (4, []), (5, []), (6, []), (7, []), (8, []), (9, [])]) (.cond (.t 32) .skip (.exit 0))) (.block 1 (.seq (.seq (.reg f77r7) (.cond (.t 35) (.seq (.reg f77r8) (.seq (.seq (.reg f77r9) (.cond (.t 39) (.seq (.regD f77r10 [(0, []), (1, []), (2, []), (3, []), (4, []), (5, []), (6, []), (7, [])]) .ret) .skip)) (.reg f77r11))) .skip)) (.seq (.reg f77r12) (.seq (.reg f77r13) (.seq (.seq (.reg f77r14) (.cond (.t 60) (.seq (.regD f77r15 [(0, []), (1, []), (2, []), (3, []), (4, []), (5, []), (6, []), (7, [])]) .ret) .skip)) (.seq (.reg f77r16) (.reg f77r17))))))))
def f77r19 : List AIns := [⟨some 14, .mov (.c (.int .i64 1)), none⟩]
def f77r20 : List AIns := [⟨some 72, .mov (.t 14), none⟩,
  ⟨some 73, .mov (.t 9), none⟩,
  ⟨some 74, .len (.t 73), none⟩,
  ⟨some 75, .bin .lss (.t 72) (.t 74), none⟩,
  ⟨some 76, .mov (.t 75), none⟩,
  ⟨some 77, .mov (.t 0), some (76, true)⟩,
  ⟨some 78, .nilCheck (.t 77), some (76, true)⟩,
  ⟨some 79, .addOff 2 (.t 78), some (76, true)⟩,
  ⟨some 80, .load1 (.t 79), some (76, true)⟩,
  ⟨some 81, .un .not (.t 80), some (76, true)⟩,
  ⟨some 82, .pick (.t 76) (.t 81) (.c (.bool false)), none⟩]
def f77r21 : List AIns := [⟨some 85, .mov (.t 2), none⟩,
  ⟨some 86, .mov (.t 9), none⟩,
  ⟨some 87, .mov (.t 14), none⟩,
  ⟨some 88, .bin .sub (.t 87) (.c (.int .i64 1)), none⟩,
  ⟨some 89, .idxA 4 (.t 86) (.t 88), none⟩,
  ⟨some 90, .loadN 4 (.t 89), none⟩,
  ⟨some 91, .call (.t 85) [(.t 90)], none⟩,
  ⟨some 92, .fieldN 2 2 (.t 91), none⟩,
  ⟨some 93, .mov (.t 2), none⟩,
  ⟨some 94, .mov (.t 9), none⟩,
  ⟨some 95, .mov (.t 14), none⟩,
  ⟨some 96, .idxA 4 (.t 94) (.t 95), none⟩,
  ⟨some 97, .loadN 4 (.t 96), none⟩,
  ⟨some 98, .call (.t 93) [(.t 97)], none⟩,
  ⟨some 99, .fieldN 0 2 (.t 98), none⟩,
  ⟨some 100, .call (.c (.func (.func 103) #[] #[])) [(.t 92), (.t 99)], none⟩,
  ⟨some 101, .bin .gtr (.t 100) (.c (.int .i64 0)), none⟩]
def f77r22 : List AIns := [⟨some 102, .mov (.t 10), none⟩,
  ⟨some 103, .mov (.t 14), none⟩,
  ⟨some 104, .idxA 1 (.t 102) (.t 103), none⟩,
  ⟨some 105, .load1 (.t 104), none⟩,
  ⟨some 6, .mov (.c (.slice none 0 0)), none⟩,
  ⟨some 7, .mov (.t 105), none⟩,
  ⟨some 8, .mov (.c (.int .i64 180)), none⟩]
def f77r23 : List AIns := [⟨some 83, .mov (.t 14), none⟩,
  ⟨some 84, .bin .add (.t 83) (.c (.int .i64 1)), none⟩,
  ⟨some 14, .mov (.t 84), none⟩]
def f77l24 : ACode := (.seq (.seq (.reg f77r20) (.cond (.t 82) .skip (.exit 2))) (.seq (.block 3 (.seq (.regD f77r21 [(0, []), (1, []), (2, []), (3, []), (4, []), (5, []), (8, []), (9, []), (10, []), (11, []), (12, []), (6, [12]), (7, []), (13, []), (14, []), (15, []), (16, [])]) (.cond (.t 101) (.seq (.regD f77r22 [(0, []), (1, []), (2, []), (3, []), (4, []), (5, []), (6, [])]) .ret) .skip))) (.reg f77r23)))
def f77r25 : List AIns := [⟨some 106, .mov (.t 9), none⟩,
  ⟨some 107, .mov (.t 0), none⟩,
  ⟨some 108, .nilCheck (.t 107), none⟩,
  ⟨some 109, .addOff 1 (.t 108), none⟩,
  ⟨some 110, .load1 (.t 109), none⟩,
  ⟨some 6, .mov (.t 106), none⟩,
  ⟨some 7, .mov (.t 110), none⟩,
  ⟨some 8, .mov (.c (.int .i64 0)), none⟩]
def f77b : ACode := (.seq (.reg f77r0) (.seq (.reg f77r1) (.seq (.reg f77r2) (.seq (.seq (.reg f77r3) (.cond (.t 20) (.seq (.reg f77r4) .ret) .skip)) (.seq (.reg f77r5) (.seq (.block 0 (.loop f77l18)) (.seq (.seq (.reg f77r19) (.block 2 (.loop f77l24))) (.seq (.regD f77r25 [(0, []), (1, []), (2, []), (3, []), (4, []), (5, []), (6, []), (7, [])]) .ret))))))))
def f77 : AFn := ⟨111, f77b, [.tmp 6, .tmp 7, .tmp 8], .plain⟩
theorem f77_is : cFn Try.prog .plain 77 = some f77 := by kernel_rfl
def f78r0 : List AIns := [⟨some 2, .alloc 46 [(.int .i64 0), (.int .i64 0), (.int .i64 0), (.int .i64 0)], none⟩,
  ⟨some 3, .mov (.c (.int .i64 0)), none⟩]
def f78r1 : List AIns := [⟨some 4, .mov (.c (.func (.func 111) #[] #[])), none⟩]
def f78r2 : List AIns := [⟨some 8, .mov (.t 0), none⟩,
  ⟨some 9, .nilCheck (.t 8), none⟩,
  ⟨some 10, .addOff 2 (.t 9), none⟩,
  ⟨some 11, .load1 (.t 10), none⟩]
def f78r3 : List AIns := [⟨some 4, .mov (.c (.func (.func 112) #[] #[])), none⟩]
def f78r4 : List AIns := [⟨some 13, .mov (.t 4), none⟩,
  ⟨some 14, .mov (.t 0), none⟩,
  ⟨some 15, .nilCheck (.t 14), none⟩,
  ⟨some 16, .addOff 0 (.t 15), none⟩,
  ⟨some 17, .load1 (.t 16), none⟩,
  ⟨some 18, .mov (.t 0), none⟩,
  ⟨some 19, .nilCheck (.t 18), none⟩,
  ⟨some 20, .addOff 1 (.t 19), none⟩,
  ⟨some 21, .load1 (.t 20), none⟩,
  ⟨some 22, .sliceStr (.t 17) (some (.t 21)) none, none⟩,
  ⟨some 23, .call (.t 13) [(.t 22)], none⟩,
  ⟨some 12, .mov (.t 23), none⟩,
  ⟨some 24, .extract (.t 12) 0, none⟩,
  ⟨some 25, .extract (.t 12) 1, none⟩,
  ⟨some 26, .extract (.t 12) 2, none⟩,
  ⟨some 5, .alloc 46 [(.int .i64 0), (.int .i64 0), (.int .i64 0), (.int .i64 0)], none⟩,
  ⟨none, .store 4 (.t 5) (.t 24), none⟩,
  ⟨some 6, .mov (.t 25), none⟩,
  ⟨some 7, .mov (.t 26), none⟩]
def f78r5 : List AIns := [⟨some 27, .mov (.t 0), none⟩,
  ⟨some 28, .nilCheck (.t 27), none⟩,
  ⟨some 29, .addOff 1 (.t 28), none⟩,
  ⟨some 30, .load1 (.t 29), none⟩,
  ⟨some 31, .mov (.t 6), none⟩,
  ⟨some 32, .bin .add (.t 30) (.t 31), none⟩,
  ⟨some 33, .nilCheck (.t 27), none⟩,
  ⟨some 34, .addOff 1 (.t 33), none⟩,
  ⟨none, .store 1 (.t 34) (.t 32), none⟩]
def f78r6 : List AIns := [⟨some 35, .loadN 4 (.t 5), none⟩,
  ⟨some 36, .mov (.t 7), none⟩,
  ⟨none, .store 4 (.t 2) (.t 35), none⟩,
  ⟨some 3, .mov (.t 36), none⟩]
def f78b : ACode := (.seq (.reg f78r0) (.seq (.reg f78r1) (.seq (.seq (.reg f78r2) (.cond (.t 11) (.reg f78r3) .skip)) (.seq (.regD f78r4 [(0, []), (1, []), (2, []), (3, []), (4, []), (5, []), (6, []), (7, []), (8, []), (9, []), (15, []), (10, []), (11, []), (12, []), (13, []), (14, []), (16, []), (17, []), (18, [])]) (.seq (.reg f78r5) (.seq (.reg f78r6) .ret))))))
def f78 : AFn := ⟨37, f78b, [.cellN 2 4, .tmp 3], .plain⟩
theorem f78_is : cFn Try.prog .plain 78 = some f78 := by kernel_rfl
def f79r0 : List AIns := [⟨some 1, .box 46 (.t 0), none⟩,
  ⟨some 2, .alloc 46 [(.int .i64 0), (.int .i64 0), (.int .i64 0), (.int .i64 0)], none⟩]
def f79r1 : List AIns := [⟨some 3, .loadN 4 (.t 1), none⟩,
  ⟨none, .store 4 (.t 2) (.t 3), none⟩]
def f79b : ACode := (.seq (.reg f79r0) (.seq (.reg f79r1) .ret))
def f79 : AFn := ⟨4, f79b, [.cellN 2 4], .pure⟩
theorem f79_is : cFn Try.prog .pure 79 = some f79 := by kernel_rfl
def f84r0 : List AIns := [⟨some 6, .mov (.c (.slice none 0 0)), none⟩,
  ⟨some 7, .mov (.c (.int .i64 0)), none⟩,
  ⟨some 8, .mov (.c (.int .i64 0)), none⟩]
def f84r1 : List AIns := [⟨some 9, .mov (.c (.slice none 0 0)), none⟩]
def f84r2 : List AIns := [⟨some 10, .mov (.c (.slice none 0 0)), none⟩]
def f84r3 : List AIns := [⟨some 15, .mov (.t 0), none⟩,
  ⟨some 16, .nilCheck (.t 15), none⟩,
  ⟨some 17, .addOff 0 (.t 16), none⟩,
  ⟨some 18, .load1 (.t 17), none⟩,
  ⟨some 19, .lenStr (.t 18), none⟩,
  ⟨some 20, .bin .gtr (.t 19) (.c (.int .i64 65536)), none⟩]
def f84r4 : List AIns := [⟨some 6, .mov (.c (.slice none 0 0)), none⟩,
  ⟨some 7, .mov (.c (.int .i64 0)), none⟩,
  ⟨some 8, .mov (.c (.int .i64 180)), none⟩]
def f84r5 : List AIns := [⟨some 21, .mov (.t 0), none⟩,
  ⟨some 22, .call (.c (.func (.func 109) #[] #[])) [(.t 21)], none⟩]
def f84r6 : List AIns := [⟨some 23, .mov (.t 0), none⟩,
  ⟨some 24, .nilCheck (.t 23), none⟩,
  ⟨some 25, .addOff 1 (.t 24), none⟩,
  ⟨some 26, .load1 (.t 25), none⟩,
  ⟨some 27, .mov (.t 0), none⟩,
  ⟨some 28, .nilCheck (.t 27), none⟩,
  ⟨some 29, .addOff 0 (.t 28), none⟩,
  ⟨some 30, .load1 (.t 29), none⟩,
  ⟨some 31, .lenStr (.t 30), none⟩,
  ⟨some 32, .bin .lss (.t 26) (.t 31), none⟩]
def f84r7 : List AIns := [⟨some 33, .mov (.t 9), none⟩,
  ⟨some 34, .len (.t 33), none⟩,
  ⟨some 35, .bin .gtr (.t 34) (.c (.int .i64 0)), none⟩]
def f84r8 : List AIns := [⟨some 36, .mov (.t 0), none⟩,
  ⟨some 37, .call (.c (.func (.func 110) #[] #[])) [(.t 36), (.c (.string ⟨#[59]⟩))], none⟩,
  ⟨some 11, .mov (.t 37), none⟩]
def f84r9 : List AIns := [⟨some 38, .mov (.t 11), none⟩,
  ⟨some 39, .bin .neq (.t 38) (.c (.int .i64 0)), none⟩]
def f84r10 : List AIns := [⟨some 40, .mov (.t 0), none⟩,
  ⟨some 41, .nilCheck (.t 40), none⟩,
  ⟨some 42, .addOff 1 (.t 41), none⟩,
  ⟨some 43, .load1 (.t 42), none⟩,
  ⟨some 44, .mov (.t 11), none⟩,
  ⟨some 6, .mov (.c (.slice none 0 0)), none⟩,
  ⟨some 7, .mov (.t 43), none⟩,
  ⟨some 8, .mov (.t 44), none⟩]
def f84r11 : List AIns := [⟨some 45, .mov (.t 0), none⟩,
  ⟨some 46, .call (.c (.func (.func 109) #[] #[])) [(.t 45)], none⟩]
def f84r12 : List AIns := [⟨some 47, .mov (.t 10), none⟩,
  ⟨some 48, .mov (.t 0), none⟩,
  ⟨some 49, .nilCheck (.t 48), none⟩,
  ⟨some 50, .addOff 1 (.t 49), none⟩,
  ⟨some 51, .load1 (.t 50), none⟩,
  ⟨some 52, .buildSlice 3 1 [(.int .i64 0)] [(0, 1, (.t 51))], none⟩,
  ⟨some 53, .append 3 1 8 (.t 47) (.t 52), none⟩,
  ⟨some 10, .mov (.t 53), none⟩]
def f84r13 : List AIns := [⟨some 55, .mov (.t 1), none⟩,
  ⟨some 56, .call (.t 55) [], none⟩,
  ⟨some 54, .mov (.t 56), none⟩,
  ⟨some 57, .extract (.t 54) 0, none⟩,
  ⟨some 58, .extract (.t 54) 1, none⟩,
  ⟨some 12, .alloc 57 [(.int .i64 0), (.int .i64 0), (.int .i64 0), (.int .i64 0), (.int .i64 0)], none⟩,
  ⟨none, .store 5 (.t 12) (.t 57), none⟩,
  ⟨some 13, .mov (.t 58), none⟩]
def f84r14 : List AIns := [⟨some 59, .mov (.t 13), none⟩,
  ⟨some 60, .bin .neq (.t 59) (.c (.int .i64 0)), none⟩]
def f84r15 : List AIns := [⟨some 61, .mov (.t 0), none⟩,
  ⟨some 62, .nilCheck (.t 61), none⟩,
  ⟨some 63, .addOff 1 (.t 62), none⟩,
  ⟨some 64, .load1 (.t 63), none⟩,
  ⟨some 65, .mov (.t 13), none⟩,
  ⟨some 6, .mov (.c (.slice none 0 0)), none⟩,
  ⟨some 7, .mov (.t 64), none⟩,
  ⟨some 8, .mov (.t 65), none⟩]
def f84r16 : List AIns := [⟨some 66, .mov (.t 9), none⟩,
  ⟨some 67, .loadN 5 (.t 12), none⟩,
  ⟨some 68, .buildSlice 57 1 [(.int .i64 0), (.int .i64 0), (.int .i64 0), (.int .i64 0), (.int .i64 0)] [(0, 5, (.t 67))], none⟩,
  ⟨some 69, .append 57 5 40 (.t 66) (.t 68), none⟩,
  ⟨some 9, .mov (.t 69), none⟩]
def f84r17 : List AIns := [⟨some 70, .mov (.t 0), none⟩,
  ⟨some 71, .call (.c (.func (.func 109) #[] #[])) [(.t 70)], none⟩]
def f84l18 : ACode := (.seq (.seq (.regD f84r6 [(0, []), (1, []), (2, []), (3, []), (4, []), (5, []), (6, []), (7, []), (8, []), (9, [])]) (.cond (.t 32) .skip (.exit 0))) (.block 1 (.seq (.seq (.reg f84r7) (.cond (.t 35) (.seq (.reg f84r8) (.seq (.seq (.reg f84r9) (.cond (.t 39) (.seq (.regD f84r10 [(0, []), (1, []), (2, []), (3, []), (4, []), (5, []), (6, []), (7, [])]) .ret) .skip)) (.reg f84r11))) .skip)) (.seq (.reg f84r12) (.seq (.reg f84r13) (.seq (.seq (.reg f84r14) (.cond (.t 60) (.seq (.regD f84r15 [(0, []), (1, []), (2, []), (3, []), (4, []), (5, []), (6, []), (7, [])]) .ret) .skip)) (.seq (.reg f84r16) (.reg f84r17))))))))
def f84r19 : List AIns := [⟨some 14, .mov (.c (.int .i64 1)), none⟩]
def f84r20 : List AIns := [⟨some 72, .mov (.t 14), none⟩,
  ⟨some 73, .mov (.t 9), none⟩,
  ⟨some 74, .len (.t 73), none⟩,
  ⟨some 75, .bin .lss (.t 72) (.t 74), none⟩,
  ⟨some 76, .mov (.t 75), none⟩,
  ⟨some 77, .mov (.t 0), some (76, true)⟩,
  ⟨some 78, .nilCheck (.t 77), some (76, true)⟩,
  ⟨some 79, .addOff 2 (.t 78), some (76, true)⟩,
  ⟨some 80, .load1 (.t 79), some (76, true)⟩,
  ⟨some 81, .un .not (.t 80), some (76, true)⟩,
  ⟨some 82, .pick (.t 76) (.t 81) (.c (.bool false)), none⟩]
def f84r21 : List AIns := [⟨some 85, .mov (.t 2), none⟩,
  ⟨some 86, .mov (.t 9), none⟩,
  ⟨some 87, .mov (.t 14), none⟩,
  ⟨some 88, .bin .sub (.t 87) (.c (.int .i64 1)), none⟩,
  ⟨some 89, .idxA 5 (.t 86) (.t 88), none⟩,
  ⟨some 90, .loadN 5 (.t 89), none⟩,
  ⟨some 91, .call (.t 85) [(.t 90)], none⟩,
  ⟨some 92, .fieldN 2 2 (.t 91), none⟩,
  ⟨some 93, .mov (.t 2), none⟩,
  ⟨some 94, .mov (.t 9), none⟩,
  ⟨some 95, .mov (.t 14), none⟩,
  ⟨some 96, .idxA 5 (.t 94) (.t 95), none⟩,
  ⟨some 97, .loadN 5 (.t 96), none⟩,
  ⟨some 98, .call (.t 93) [(.t 97)], none⟩,
  ⟨some 99, .fieldN 0 2 (.t 98), none⟩,
  ⟨some 100, .call (.c (.func (.func 103) #[] #[])) [(.t 92), (.t 99)], none⟩,
  ⟨some 101, .bin .gtr (.t 100) (.c (.int .i64 0)), none⟩]
def f84r22 : List AIns := [⟨some 102, .mov (.t 10), none⟩,
  ⟨some 103, .mov (.t 14), none⟩,
  ⟨some 104, .idxA 1 (.t 102) (.t 103), none⟩,
  ⟨some 105, .load1 (.t 104), none⟩,
  ⟨some 6, .mov (.c (.slice none 0 0)), none⟩,
  ⟨some 7, .mov (.t 105), none⟩,
  ⟨some 8, .mov (.c (.int .i64 180)), none⟩]
def f84r23 : List AIns := [⟨some 83, .mov (.t 14), none⟩,
  ⟨some 84, .bin .add (.t 83) (.c (.int .i64 1)), none⟩,
  ⟨some 14, .mov (.t 84), none⟩]
def f84l24 : ACode := (.seq (.seq (.reg f84r20) (.cond (.t 82) .skip (.exit 2))) (.seq (.block 3 (.seq (.regD f84r21 [(0, []), (1, []), (2, []), (3, []), (4, []), (5, []), (8, []), (9, []), (10, []), (11, []), (12, []), (6, [12]), (7, []), (13, []), (14, []), (15, []), (16, [])]) (.cond (.t 101) (.seq (.regD f84r22 [(0, []), (1, []), (2, []), (3, []), (4, []), (5, []), (6, [])]) .ret) .skip))) (.reg f84r23)))
def f84r25 : List AIns := [⟨some 106, .mov (.t 9), none⟩,
  ⟨some 107, .mov (.t 0), none⟩,
  ⟨some 108, .nilCheck (.t 107), none⟩,
  ⟨some 109, .addOff 1 (.t 108), none⟩,
  ⟨some 110, .load1 (.t 109), none⟩,
  ⟨some 6, .mov (.t 106), none⟩,
  ⟨some 7, .mov (.t 110), none⟩,
  ⟨some 8, .mov (.c (.int .i64 0)), none⟩]
def f84b : ACode := (.seq (.reg f84r0) (.seq (.reg f84r1) (.seq (.reg f84r2) (.seq (.seq (.reg f84r3) (.cond (.t 20) (.seq (.reg f84r4) .ret) .skip)) (.seq (.reg f84r5) (.seq (.block 0 (.loop f84l18)) (.seq (.seq (.reg f84r19) (.block 2 (.loop f84l24))) (.seq (.regD f84r25 [(0, []), (1, []), (2, []), (3, []), (4, []), (5, []), (6, []), (7, [])]) .ret))))))))
def f84 : AFn := ⟨111, f84b, [.tmp 6, .tmp 7, .tmp 8], .plain⟩
theorem f84_is : cFn Try.prog .plain 84 = some f84 := by kernel_rfl
def f85r0 : List AIns := [⟨some 2, .alloc 57 [(.int .i64 0), (.int .i64 0), (.int .i64 0), (.int .i64 0), (.int .i64 0)], none⟩,
  ⟨some 3, .mov (.c (.int .i64 0)), none⟩]
def f85r1 : List AIns := [⟨some 9, .mov (.t 0), none⟩,
  ⟨some 10, .call (.c (.func (.func 78) #[] #[])) [(.t 9)], none⟩,
  ⟨some 8, .mov (.t 10), none⟩,
  ⟨some 11, .extract (.t 8) 0, none⟩,
  ⟨some 12, .extract (.t 8) 1, none⟩,
  ⟨some 4, .alloc 46 [(.int .i64 0), (.int .i64 0), (.int .i64 0), (.int .i64 0)], none⟩,
  ⟨none, .store 4 (.t 4) (.t 11), none⟩,
  ⟨some 5, .mov (.t 12), none⟩]
def f85r2 : List AIns := [⟨some 13, .mov (.t 5), none⟩,
  ⟨some 14, .bin .eql (.t 13) (.c (.int .i64 0)), none⟩]
def f85r3 : List AIns := [⟨some 15, .mov (.t 0), none⟩,
  ⟨some 16, .call (.c (.func (.func 110) #[] #[])) [(.t 15), (.c (.string ⟨#[61, 62]⟩))], none⟩,
  ⟨some 5, .mov (.t 16), none⟩]
def f85r4 : List AIns := [⟨some 17, .mov (.t 5), none⟩,
  ⟨some 18, .bin .neq (.t 17) (.c (.int .i64 0)), none⟩]
def f85r5 : List AIns := [⟨some 19, .build [(.int .i64 0), (.int .i64 0), (.int .i64 0), (.int .i64 0), (.int .i64 0)] [], none⟩,
  ⟨some 20, .mov (.t 5), none⟩,
  ⟨none, .store 5 (.t 2) (.t 19), none⟩,
  ⟨some 3, .mov (.t 20), none⟩]
def f85r6 : List AIns := [⟨some 21, .mov (.t 0), none⟩,
  ⟨some 22, .call (.c (.func (.func 109) #[] #[])) [(.t 21)], none⟩]
def f85r7 : List AIns := [⟨some 24, .mov (.t 0), none⟩,
  ⟨some 25, .nilCheck (.t 24), none⟩,
  ⟨some 26, .addOff 0 (.t 25), none⟩,
  ⟨some 27, .load1 (.t 26), none⟩,
  ⟨some 28, .mov (.t 0), none⟩,
  ⟨some 29, .nilCheck (.t 28), none⟩,
  ⟨some 30, .addOff 1 (.t 29), none⟩,
  ⟨some 31, .load1 (.t 30), none⟩,
  ⟨some 32, .sliceStr (.t 27) (some (.t 31)) none, none⟩,
  ⟨some 33, .call (.c (.func (.func 115) #[] #[])) [(.t 32)], none⟩,
  ⟨some 23, .mov (.t 33), none⟩,
  ⟨some 34, .extract (.t 23) 0, none⟩,
  ⟨some 35, .extract (.t 23) 1, none⟩,
  ⟨some 6, .mov (.t 34), none⟩,
  ⟨some 7, .mov (.t 35), none⟩]
def f85r8 : List AIns := [⟨some 36, .mov (.t 0), none⟩,
  ⟨some 37, .nilCheck (.t 36), none⟩,
  ⟨some 38, .addOff 1 (.t 37), none⟩,
  ⟨some 39, .load1 (.t 38), none⟩,
  ⟨some 40, .mov (.t 7), none⟩,
  ⟨some 41, .bin .add (.t 39) (.t 40), none⟩,
  ⟨some 42, .nilCheck (.t 36), none⟩,
  ⟨some 43, .addOff 1 (.t 42), none⟩,
  ⟨none, .store 1 (.t 43) (.t 41), none⟩]
def f85r9 : List AIns := [⟨some 44, .mov (.t 7), none⟩,
  ⟨some 45, .bin .eql (.t 44) (.c (.int .i64 0)), none⟩]
def f85r10 : List AIns := [⟨some 46, .build [(.int .i64 0), (.int .i64 0), (.int .i64 0), (.int .i64 0), (.int .i64 0)] [], none⟩,
  ⟨none, .store 5 (.t 2) (.t 46), none⟩,
  ⟨some 3, .mov (.c (.int .i64 180)), none⟩]
def f85r11 : List AIns := [⟨some 47, .loadN 4 (.t 4), none⟩,
  ⟨some 48, .mov (.t 6), none⟩,
  ⟨some 49, .build [(.int .i64 0), (.int .i64 0), (.int .i64 0), (.int .i64 0), (.int .i64 0)] [(0, 4, (.t 47)), (4, 1, (.t 48))], none⟩,
  ⟨none, .store 5 (.t 2) (.t 49), none⟩,
  ⟨some 3, .mov (.c (.int .i64 0)), none⟩]
def f85b : ACode := (.seq (.reg f85r0) (.seq (.reg f85r1) (.seq (.seq (.reg f85r2) (.cond (.t 14) (.reg f85r3) .skip)) (.seq (.seq (.reg f85r4) (.cond (.t 18) (.seq (.reg f85r5) .ret) .skip)) (.seq (.reg f85r6) (.seq (.regD f85r7 [(0, []), (1, []), (2, []), (3, []), (4, []), (5, []), (6, []), (7, []), (8, []), (9, []), (10, []), (11, []), (12, []), (13, []), (14, [])]) (.seq (.reg f85r8) (.seq (.seq (.reg f85r9) (.cond (.t 45) (.seq (.reg f85r10) .ret) .skip)) (.seq (.reg f85r11) .ret)))))))))
def f85 : AFn := ⟨50, f85b, [.cellN 2 5, .tmp 3], .plain⟩
theorem f85_is : cFn Try.prog .plain 85 = some f85 := by kernel_rfl
def f86r0 : List AIns := [⟨some 1, .box 57 (.t 0), none⟩,
  ⟨some 2, .alloc 46 [(.int .i64 0), (.int .i64 0), (.int .i64 0), (.int .i64 0)], none⟩]
def f86r1 : List AIns := [⟨some 3, .addOff 0 (.t 1), none⟩,
  ⟨some 4, .loadN 4 (.t 3), none⟩,
  ⟨none, .store 4 (.t 2) (.t 4), none⟩]
def f86b : ACode := (.seq (.reg f86r0) (.seq (.reg f86r1) .ret))
def f86 : AFn := ⟨5, f86b, [.cellN 2 4], .pure⟩
theorem f86_is : cFn Try.prog .pure 86 = some f86 := by kernel_rfl
def f87r0 : List AIns := [⟨some 4, .mov (.c .nilIface), none⟩]
def f87r1 : List AIns := [⟨some 5, .mov (.t 0), none⟩,
  ⟨some 6, .call (.c (.func (.func 116) #[] #[])) [(.t 5)], none⟩]
def f87r2 : List AIns := [⟨some 7, .mov (.t 0), none⟩,
  ⟨some 8, .mov (.t 0), none⟩,
  ⟨some 9, .nilCheck (.t 8), none⟩,
  ⟨some 10, .addOff 1 (.t 9), none⟩,
  ⟨some 11, .load1 (.t 10), none⟩,
  ⟨some 12, .mov (.t 1), none⟩,
  ⟨some 13, .buildSlice 5 1 [(.int .u8 0)] [(0, 1, (.t 12))], none⟩,
  ⟨some 14, .append 5 1 1 (.t 11) (.t 13), none⟩,
  ⟨some 15, .nilCheck (.t 7), none⟩,
  ⟨some 16, .addOff 1 (.t 15), none⟩,
  ⟨none, .store 1 (.t 16) (.t 14), none⟩]
def f87r3 : List AIns := [⟨some 4, .mov (.c .nilIface), none⟩]
def f87b : ACode := (.seq (.reg f87r0) (.seq (.reg f87r1) (.seq (.reg f87r2) (.seq (.reg f87r3) .ret))))
def f87 : AFn := ⟨17, f87b, [.tmp 4], .plain⟩
theorem f87_is : cFn Try.prog .plain 87 = some f87 := by kernel_rfl
def f88r0 : List AIns := [⟨some 4, .mov (.c (.int .i64 0)), none⟩,
  ⟨some 5, .mov (.c .nilIface), none⟩]
def f88r1 : List AIns := [⟨some 6, .mov (.t 0), none⟩,
  ⟨some 7, .call (.c (.func (.func 116) #[] #[])) [(.t 6)], none⟩]
def f88r2 : List AIns := [⟨some 8, .mov (.t 0), none⟩,
  ⟨some 9, .mov (.t 0), none⟩,
  ⟨some 10, .nilCheck (.t 9), none⟩,
  ⟨some 11, .addOff 1 (.t 10), none⟩,
  ⟨some 12, .load1 (.t 11), none⟩,
  ⟨some 13, .mov (.t 1), none⟩,
  ⟨some 14, .append 5 1 1 (.t 12) (.t 13), none⟩,
  ⟨some 15, .nilCheck (.t 8), none⟩,
  ⟨some 16, .addOff 1 (.t 15), none⟩,
  ⟨none, .store 1 (.t 16) (.t 14), none⟩]
def f88r3 : List AIns := [⟨some 17, .mov (.t 1), none⟩,
  ⟨some 18, .lenStr (.t 17), none⟩,
  ⟨some 4, .mov (.t 18), none⟩,
  ⟨some 5, .mov (.c .nilIface), none⟩]
def f88b : ACode := (.seq (.reg f88r0) (.seq (.reg f88r1) (.seq (.reg f88r2) (.seq (.reg f88r3) .ret))))
def f88 : AFn := ⟨19, f88b, [.tmp 4, .tmp 5], .plain⟩
theorem f88_is : cFn Try.prog .plain 88 = some f88 := by kernel_rfl
def f90r0 : List AIns := [⟨some 0, .alloc 44 [(.int .i64 0), (.int .i64 0)], none⟩]
def f90r1 : List AIns := [⟨some 1, .build [(.int .i64 0), (.int .i64 0)] [(0, 1, (.c (.int .i64 (-1))))], none⟩,
  ⟨none, .store 2 (.t 0) (.t 1), none⟩]
def f90b : ACode := (.seq (.reg f90r0) (.seq (.reg f90r1) .ret))
def f90 : AFn := ⟨2, f90b, [.cellN 0 2], .pure⟩
theorem f90_is : cFn Try.prog .pure 90 = some f90 := by kernel_rfl
def f91r0 : List AIns := [⟨some 1, .box 44 (.t 0), none⟩,
  ⟨some 2, .mov (.c (.string ⟨#[]⟩)), none⟩]
def f91r1 : List AIns := [⟨some 3, .loadN 2 (.t 1), none⟩,
  ⟨some 4, .call (.c (.func (.func 104) #[] #[])) [(.t 3)], none⟩,
  ⟨none, .store 2 (.t 1) (.t 4), none⟩]
def f91r2 : List AIns := [⟨some 5, .loadN 2 (.t 1), none⟩]
def f91r3 : List AIns := [⟨some 7, .call (.c (.func (.func 90) #[] #[])) [], none⟩,
  ⟨some 8, .eqv false [.i, .i] true (.t 5) (.t 7), none⟩,
  ⟨some 6, .mov (.t 8), none⟩]
def f91r4 : List AIns := [⟨some 2, .mov (.c (.string ⟨#[45, 105, 110, 102]⟩)), none⟩]
def f91r5 : List AIns := [⟨some 10, .call (.c (.func (.func 117) #[] #[])) [], none⟩,
  ⟨some 11, .eqv false [.i, .i] true (.t 5) (.t 10), none⟩,
  ⟨some 9, .mov (.t 11), none⟩]
def f91r6 : List AIns := [⟨some 2, .mov (.c (.string ⟨#[43, 105, 110, 102]⟩)), none⟩]
def f91r7 : List AIns := [⟨some 12, .addOff 1 (.t 1), none⟩,
  ⟨some 13, .load1 (.t 12), none⟩,
  ⟨some 14, .call (.c (.func (.func 55) #[] #[])) [(.t 13)], none⟩,
  ⟨some 2, .mov (.t 14), none⟩]
def f91b : ACode := (.seq (.reg f91r0) (.seq (.seq (.reg f91r1) (.seq (.reg f91r2) (.block 0 (.seq (.reg f91r3) (.cond (.t 6) (.seq (.reg f91r4) .ret) (.seq (.reg f91r5) (.cond (.t 9) (.seq (.reg f91r6) .ret) .skip))))))) (.seq (.reg f91r7) .ret)))
def f91 : AFn := ⟨15, f91b, [.tmp 2], .pure⟩
theorem f91_is : cFn Try.prog .pure 91 = some f91 := by kernel_rfl
def f92r0 : List AIns := [⟨some 2, .mov (.c (.int .u64 0)), none⟩]
def f92r1 : List AIns := [⟨some 3, .mov (.t 0), none⟩,
  ⟨some 4, .bin .lss (.t 3) (.c (.int .i64 0)), none⟩]
def f92r2 : List AIns := [⟨some 5, .mov (.t 0), none⟩,
  ⟨some 6, .convInt .u64 (.t 5), none⟩,
  ⟨some 7, .un .neg (.t 6), none⟩,
  ⟨some 2, .mov (.t 7), none⟩]
def f92r3 : List AIns := [⟨some 8, .mov (.t 0), none⟩,
  ⟨some 9, .convInt .u64 (.t 8), none⟩,
  ⟨some 2, .mov (.t 9), none⟩]
def f92b : ACode := (.seq (.reg f92r0) (.seq (.seq (.reg f92r1) (.cond (.t 4) (.seq (.reg f92r2) .ret) .skip)) (.seq (.reg f92r3) .ret)))
def f92 : AFn := ⟨10, f92b, [.tmp 2], .pure⟩
theorem f92_is : cFn Try.prog .pure 92 = some f92 := by kernel_rfl
def f93r0 : List AIns := [⟨some 2, .mov (.c (.bool false)), none⟩]
def f93r1 : List AIns := [⟨some 3, .load1 (.t 0), none⟩,
  ⟨some 4, .load1 (.t 1), none⟩,
  ⟨some 5, .bin .rem (.t 4) (.c (.int .u64 10)), none⟩,
  ⟨some 6, .bin .add (.c (.int .u64 48)) (.t 5), none⟩,
  ⟨some 7, .convInt .u8 (.t 6), none⟩,
  ⟨some 8, .buildSlice 5 1 [(.int .u8 0)] [(0, 1, (.t 7))], none⟩,
  ⟨some 9, .append 5 1 1 (.t 3) (.t 8), none⟩,
  ⟨none, .store 1 (.t 0) (.t 9), none⟩]
def f93r2 : List AIns := [⟨some 10, .load1 (.t 1), none⟩,
  ⟨some 11, .bin .quo (.t 10) (.c (.int .u64 10)), none⟩,
  ⟨none, .store 1 (.t 1) (.t 11), none⟩]
def f93r3 : List AIns := [⟨some 12, .load1 (.t 1), none⟩,
  ⟨some 13, .bin .gtr (.t 12) (.c (.int .u64 0)), none⟩,
  ⟨some 2, .mov (.t 13), none⟩]
def f93b : ACode := (.seq (.reg f93r0) (.seq (.reg f93r1) (.seq (.reg f93r2) (.seq (.reg f93r3) .ret))))
def f93 : AFn := ⟨14, f93b, [.tmp 2], .plain⟩
theorem f93_is : cFn Try.prog .plain 93 = some f93 := by kernel_rfl
def f102r0 : List AIns := [⟨some 1, .box 44 (.t 0), none⟩,
  ⟨some 2, .mov (.c (.bool false)), none⟩]
def f102r1 : List AIns := [⟨some 3, .loadN 2 (.t 1), none⟩,
  ⟨some 4, .call (.c (.func (.func 104) #[] #[])) [(.t 3)], none⟩,
  ⟨some 5, .loadN 2 (.t 1), none⟩,
  ⟨some 6, .eqv false [.i, .i] true (.t 4) (.t 5), none⟩,
  ⟨some 2, .mov (.t 6), none⟩]
def f102b : ACode := (.seq (.reg f102r0) (.seq (.regD f102r1 [(0, []), (2, []), (1, [2]), (3, []), (4, [])]) .ret))
def f102 : AFn := ⟨7, f102b, [.tmp 2], .pure⟩
theorem f102_is : cFn Try.prog .pure 102 = some f102 := by kernel_rfl
def f103r0 : List AIns := [⟨some 2, .box 44 (.t 0), none⟩,
  ⟨some 3, .box 44 (.t 1), none⟩,
  ⟨some 4, .mov (.c (.int .i64 0)), none⟩]
def f103r1 : List AIns := [⟨some 5, .loadN 2 (.t 2), none⟩,
  ⟨some 6, .call (.c (.func (.func 104) #[] #[])) [(.t 5)], none⟩,
  ⟨some 7, .loadN 2 (.t 3), none⟩,
  ⟨some 8, .call (.c (.func (.func 104) #[] #[])) [(.t 7)], none⟩,
  ⟨none, .store 2 (.t 2) (.t 6), none⟩,
  ⟨none, .store 2 (.t 3) (.t 8), none⟩]
def f103r2 : List AIns := [⟨some 9, .addOff 0 (.t 2), none⟩,
  ⟨some 10, .load1 (.t 9), none⟩,
  ⟨some 11, .addOff 0 (.t 3), none⟩,
  ⟨some 12, .load1 (.t 11), none⟩,
  ⟨some 13, .call (.c (.func (.func 128) #[] #[])) [(.t 10), (.t 12)], none⟩,
  ⟨some 14, .addOff 1 (.t 2), none⟩,
  ⟨some 15, .load1 (.t 14), none⟩,
  ⟨some 16, .addOff 1 (.t 3), none⟩,
  ⟨some 17, .load1 (.t 16), none⟩,
  ⟨some 18, .call (.c (.func (.func 129) #[] #[])) [(.t 15), (.t 17)], none⟩,
  ⟨some 19, .buildSlice 3 2 [(.int .i64 0), (.int .i64 0)] [(0, 1, (.t 13)), (1, 1, (.t 18))], none⟩,
  ⟨some 20, .call (.c (.func (.func 120) #[] #[])) [(.t 19)], none⟩,
  ⟨some 4, .mov (.t 20), none⟩]
def f103b : ACode := (.seq (.reg f103r0) (.seq (.regD f103r1 [(0, []), (2, []), (1, [2]), (3, []), (4, []), (5, [])]) (.seq (.regD f103r2 [(0, []), (1, []), (2, []), (3, []), (5, []), (6, []), (7, []), (8, []), (4, [8, 6]), (9, []), (10, []), (11, []), (12, [])]) .ret)))
def f103 : AFn := ⟨21, f103b, [.tmp 4], .pure⟩
theorem f103_is : cFn Try.prog .pure 103 = some f103 := by kernel_rfl
def f104r0 : List AIns := [⟨some 1, .box 44 (.t 0), none⟩,
  ⟨some 2, .alloc 44 [(.int .i64 0), (.int .i64 0)], none⟩]
def f104r1 : List AIns := [⟨some 4, .addOff 0 (.t 1), none⟩,
  ⟨some 5, .load1 (.t 4), none⟩,
  ⟨some 6, .bin .lss (.t 5) (.c (.int .i64 0)), none⟩,
  ⟨some 7, .mov (.t 6), none⟩,
  ⟨some 8, .addOff 0 (.t 1), some (7, false)⟩,
  ⟨some 9, .load1 (.t 8), some (7, false)⟩,
  ⟨some 10, .bin .eql (.t 9) (.c (.int .i64 0)), some (7, false)⟩,
  ⟨some 11, .mov (.t 10), some (7, false)⟩,
  ⟨some 12, .addOff 1 (.t 1), some (11, true)⟩,
  ⟨some 13, .load1 (.t 12), some (11, true)⟩,
  ⟨some 14, .bin .eql (.t 13) (.c (.int .i64 (-9223372036854775808))), some (11, true)⟩,
  ⟨some 15, .pick (.t 11) (.t 14) (.c (.bool false)), some (7, false)⟩,
  ⟨some 16, .pick (.t 7) (.c (.bool true)) (.t 15), none⟩,
  ⟨some 3, .mov (.t 16), none⟩]
def f104r2 : List AIns := [⟨some 17, .call (.c (.func (.func 90) #[] #[])) [], none⟩,
  ⟨none, .store 2 (.t 2) (.t 17), none⟩]
def f104r3 : List AIns := [⟨some 19, .addOff 0 (.t 1), none⟩,
  ⟨some 20, .load1 (.t 19), none⟩,
  ⟨some 21, .bin .gtr (.t 20) (.c (.int .i64 0)), none⟩,
  ⟨some 18, .mov (.t 21), none⟩]
def f104r4 : List AIns := [⟨some 22, .call (.c (.func (.func 117) #[] #[])) [], none⟩,
  ⟨none, .store 2 (.t 2) (.t 22), none⟩]
def f104r5 : List AIns := [⟨some 23, .loadN 2 (.t 1), none⟩,
  ⟨none, .store 2 (.t 2) (.t 23), none⟩]
def f104b : ACode := (.seq (.reg f104r0) (.seq (.block 0 (.seq (.reg f104r1) (.cond (.t 3) (.seq (.reg f104r2) .ret) (.seq (.reg f104r3) (.cond (.t 18) (.seq (.reg f104r4) .ret) .skip))))) (.seq (.reg f104r5) .ret)))
def f104 : AFn := ⟨24, f104b, [.cellN 2 2], .pure⟩
theorem f104_is : cFn Try.prog .pure 104 = some f104 := by kernel_rfl
def f107r0 : List AIns := [⟨some 0, .mov (.c (.int .i64 0)), none⟩]
def f107r1 : List AIns := [⟨some 0, .mov (.c (.int .i64 (-9223372036854775808))), none⟩]
def f107b : ACode := (.seq (.reg f107r0) (.seq (.reg f107r1) .ret))
def f107 : AFn := ⟨1, f107b, [.tmp 0], .pure⟩
theorem f107_is : cFn Try.prog .pure 107 = some f107 := by kernel_rfl
def f109r0 : List AIns := [⟨some 4, .mov (.t 0), none⟩,
  ⟨some 5, .nilCheck (.t 4), none⟩,
  ⟨some 6, .addOff 0 (.t 5), none⟩,
  ⟨some 7, .load1 (.t 6), none⟩,
  ⟨some 8, .mov (.t 0), none⟩,
  ⟨some 9, .nilCheck (.t 8), none⟩,
  ⟨some 10, .addOff 1 (.t 9), none⟩,
  ⟨some 11, .load1 (.t 10), none⟩,
  ⟨some 12, .sliceStr (.t 7) (some (.t 11)) none, none⟩,
  ⟨some 13, .rangeS (.t 12), none⟩]
def f109r1 : List AIns := [⟨some 14, .nextS (.t 13), none⟩,
  ⟨some 15, .extract (.t 14) 0, none⟩]
def f109r2 : List AIns := [⟨some 16, .extract (.t 14) 2, none⟩,
  ⟨some 3, .mov (.t 16), none⟩]
def f109r3 : List AIns := [⟨some 17, .mov (.t 0), none⟩,
  ⟨some 18, .nilCheck (.t 17), none⟩,
  ⟨some 19, .addOff 2 (.t 18), none⟩,
  ⟨some 20, .load1 (.t 19), none⟩,
  ⟨some 21, .un .not (.t 20), none⟩,
  ⟨some 22, .mov (.t 21), none⟩,
  ⟨some 23, .mov (.t 3), some (22, false)⟩,
  ⟨some 24, .bin .neq (.t 23) (.c (.int .i32 32)), some (22, false)⟩,
  ⟨some 25, .pick (.t 22) (.c (.bool true)) (.t 24), none⟩]
def f109r4 : List AIns := [⟨some 26, .mov (.t 0), none⟩,
  ⟨some 27, .nilCheck (.t 26), none⟩,
  ⟨some 28, .addOff 1 (.t 27), none⟩,
  ⟨some 29, .load1 (.t 28), none⟩,
  ⟨some 30, .bin .add (.t 29) (.c (.int .i64 1)), none⟩,
  ⟨some 31, .nilCheck (.t 26), none⟩,
  ⟨some 32, .addOff 1 (.t 31), none⟩,
  ⟨none, .store 1 (.t 32) (.t 30), none⟩]
def f109l5 : ACode := (.seq (.reg f109r1) (.seq (.cond (.t 15) .skip (.exit 0)) (.block 1 (.seq (.reg f109r2) (.seq (.seq (.reg f109r3) (.cond (.t 25) .ret .skip)) (.reg f109r4))))))
def f109b : ACode := (.seq (.regD f109r0 [(0, []), (1, []), (2, []), (3, []), (4, []), (5, []), (6, []), (7, []), (8, []), (9, [])]) (.block 0 (.loop f109l5)))
def f109 : AFn := ⟨33, f109b, [], .plain⟩
theorem f109_is : cFn Try.prog .plain 109 = some f109 := by kernel_rfl
def f110r0 : List AIns := [⟨some 4, .mov (.c (.int .i64 0)), none⟩]
def f110r1 : List AIns := [⟨some 5, .mov (.t 0), none⟩,
  ⟨some 6, .call (.c (.func (.func 109) #[] #[])) [(.t 5)], none⟩]
def f110r2 : List AIns := [⟨some 7, .mov (.t 0), none⟩,
  ⟨some 8, .nilCheck (.t 7), none⟩,
  ⟨some 9, .addOff 0 (.t 8), none⟩,
  ⟨some 10, .load1 (.t 9), none⟩,
  ⟨some 11, .mov (.t 0), none⟩,
  ⟨some 12, .nilCheck (.t 11), none⟩,
  ⟨some 13, .addOff 1 (.t 12), none⟩,
  ⟨some 14, .load1 (.t 13), none⟩,
  ⟨some 15, .sliceStr (.t 10) (some (.t 14)) none, none⟩,
  ⟨some 16, .mov (.t 1), none⟩,
  ⟨some 17, .call (.c (.func (.func 131) #[] #[])) [(.t 15), (.t 16)], none⟩,
  ⟨some 18, .un .not (.t 17), none⟩]
def f110r3 : List AIns := [⟨some 4, .mov (.c (.int .i64 180)), none⟩]
def f110r4 : List AIns := [⟨some 19, .mov (.t 0), none⟩,
  ⟨some 20, .nilCheck (.t 19), none⟩,
  ⟨some 21, .addOff 1 (.t 20), none⟩,
  ⟨some 22, .load1 (.t 21), none⟩,
  ⟨some 23, .mov (.t 1), none⟩,
  ⟨some 24, .lenStr (.t 23), none⟩,
  ⟨some 25, .bin .add (.t 22) (.t 24), none⟩,
  ⟨some 26, .nilCheck (.t 19), none⟩,
  ⟨some 27, .addOff 1 (.t 26), none⟩,
  ⟨none, .store 1 (.t 27) (.t 25), none⟩]
def f110r5 : List AIns := [⟨some 4, .mov (.c (.int .i64 0)), none⟩]
def f110b : ACode := (.seq (.reg f110r0) (.seq (.reg f110r1) (.seq (.seq (.regD f110r2 [(0, []), (1, []), (2, []), (3, []), (4, []), (5, []), (6, []), (7, []), (8, []), (9, []), (10, []), (11, [])]) (.cond (.t 18) (.seq (.reg f110r3) .ret) .skip)) (.seq (.reg f110r4) (.seq (.reg f110r5) .ret)))))
def f110 : AFn := ⟨28, f110b, [.tmp 4], .plain⟩
theorem f110_is : cFn Try.prog .plain 110 = some f110 := by kernel_rfl
def f111r0 : List AIns := [⟨some 2, .alloc 46 [(.int .i64 0), (.int .i64 0), (.int .i64 0), (.int .i64 0)], none⟩,
  ⟨some 3, .mov (.c (.int .i64 0)), none⟩,
  ⟨some 4, .mov (.c (.int .i64 0)), none⟩]
def f111r1 : List AIns := [⟨some 11, .mov (.t 0), none⟩,
  ⟨some 12, .build [(.string ⟨#[]⟩), (.int .i64 0), (.bool false), (.bool false)] [(0, 1, (.t 11))], none⟩,
  ⟨some 13, .box 146 (.t 12), none⟩,
  ⟨some 5, .mov (.t 13), none⟩]
def f111r2 : List AIns := [⟨some 6, .alloc 148 [(.int .i64 0), (.int .i64 0)], none⟩,
  ⟨some 7, .alloc 148 [(.int .i64 0), (.int .i64 0)], none⟩]
def f111r3 : List AIns := [⟨some 14, .mov (.t 5), none⟩,
  ⟨some 15, .mkFunc (.func 132) [(.t 14)] [], none⟩,
  ⟨some 16, .mov (.t 5), none⟩,
  ⟨some 17, .mkFunc (.func 133) [(.t 16)] [], none⟩,
  ⟨some 8, .mov (.t 15), none⟩,
  ⟨some 9, .mov (.t 17), none⟩]
def f111r4 : List AIns := [⟨some 18, .mov (.t 8), none⟩,
  ⟨some 19, .call (.t 18) [(.c (.string ⟨#[40, 91]⟩))], none⟩,
  ⟨some 20, .bin .eql (.t 19) (.c (.int .u8 40)), none⟩]
def f111r5 : List AIns := [⟨some 21, .mov (.t 5), none⟩,
  ⟨some 22, .mov (.t 9), none⟩,
  ⟨some 23, .call (.t 22) [(.c (.string ⟨#[45, 105, 110, 102]⟩))], none⟩,
  ⟨some 24, .un .not (.t 23), none⟩,
  ⟨some 25, .nilCheck (.t 21), none⟩,
  ⟨some 26, .addOff 2 (.t 25), none⟩,
  ⟨none, .store 1 (.t 26) (.t 24), none⟩]
def f111r6 : List AIns := [⟨some 27, .mov (.t 5), none⟩,
  ⟨some 28, .call (.c (.func (.func 134) #[] #[])) [(.t 27), (.c (.func (.func 135) #[] #[]))], none⟩,
  ⟨some 29, .build [(.int .i64 0), (.int .i64 0)] [(0, 1, (.c (.int .i64 2))), (1, 1, (.t 28))], none⟩,
  ⟨none, .store 2 (.t 6) (.t 29), none⟩]
def f111r7 : List AIns := [⟨some 30, .mov (.t 8), none⟩,
  ⟨some 31, .call (.t 30) [(.c (.string ⟨#[44]⟩))], none⟩]
def f111r8 : List AIns := [⟨some 32, .mov (.t 5), none⟩,
  ⟨some 33, .nilCheck (.t 32), none⟩,
  ⟨some 34, .addOff 1 (.t 33), none⟩,
  ⟨some 35, .load1 (.t 34), none⟩,
  ⟨some 10, .mov (.t 35), none⟩]
def f111r9 : List AIns := [⟨some 36, .mov (.t 9), none⟩,
  ⟨some 37, .call (.t 36) [(.c (.string ⟨#[43, 105, 110, 102]⟩))], none⟩,
  ⟨some 38, .un .not (.t 37), none⟩]
def f111r10 : List AIns := [⟨some 39, .mov (.t 5), none⟩,
  ⟨some 40, .call (.c (.func (.func 134) #[] #[])) [(.t 39), (.c (.func (.func 135) #[] #[]))], none⟩,
  ⟨some 41, .build [(.int .i64 0), (.int .i64 0)] [(0, 1, (.c (.int .i64 1))), (1, 1, (.t 40))], none⟩,
  ⟨none, .store 2 (.t 7) (.t 41), none⟩]
def f111r11 : List AIns := [⟨some 42, .mov (.t 8), none⟩,
  ⟨some 43, .call (.t 42) [(.c (.string ⟨#[41]⟩))], none⟩]
def f111r12 : List AIns := [⟨some 44, .mov (.t 5), none⟩,
  ⟨some 45, .loadN 2 (.t 6), none⟩,
  ⟨some 46, .loadN 2 (.t 7), none⟩,
  ⟨some 47, .mov (.t 10), none⟩,
  ⟨some 48, .call (.c (.func (.func 136) #[] #[])) [(.t 44), (.t 45), (.t 46), (.t 47)], none⟩,
  ⟨some 49, .extract (.t 48) 0, none⟩,
  ⟨some 50, .extract (.t 48) 1, none⟩,
  ⟨some 51, .extract (.t 48) 2, none⟩,
  ⟨none, .store 4 (.t 2) (.t 49), none⟩,
  ⟨some 3, .mov (.t 50), none⟩,
  ⟨some 4, .mov (.t 51), none⟩]
def f111b : ACode := (.seq (.reg f111r0) (.seq (.reg f111r1) (.seq (.reg f111r2) (.seq (.reg f111r3) (.seq (.seq (.reg f111r4) (.cond (.t 20) (.reg f111r5) (.reg f111r6))) (.seq (.reg f111r7) (.seq (.reg f111r8) (.seq (.seq (.reg f111r9) (.cond (.t 38) (.reg f111r10) .skip)) (.seq (.reg f111r11) (.seq (.reg f111r12) .ret))))))))))
def f111 : AFn := ⟨52, f111b, [.cellN 2 4, .tmp 3, .tmp 4], .pure⟩
theorem f111_is : cFn Try.prog .pure 111 = some f111 := by kernel_rfl
def f112r0 : List AIns := [⟨some 2, .alloc 46 [(.int .i64 0), (.int .i64 0), (.int .i64 0), (.int .i64 0)], none⟩,
  ⟨some 3, .mov (.c (.int .i64 0)), none⟩,
  ⟨some 4, .mov (.c (.int .i64 0)), none⟩]
def f112r1 : List AIns := [⟨some 11, .mov (.t 0), none⟩,
  ⟨some 12, .build [(.string ⟨#[]⟩), (.int .i64 0), (.bool false), (.bool false)] [(0, 1, (.t 11)), (3, 1, (.c (.bool true)))], none⟩,
  ⟨some 13, .box 146 (.t 12), none⟩,
  ⟨some 5, .alloc 144 [(.pointer none)], none⟩,
  ⟨none, .store 1 (.t 5) (.t 13), none⟩]
def f112r2 : List AIns := [⟨some 14, .mkFunc (.func 137) [] [(.t 5)], none⟩,
  ⟨some 6, .mov (.t 14), none⟩]
def f112r3 : List AIns := [⟨some 15, .load1 (.t 5), none⟩,
  ⟨some 16, .call (.c (.func (.func 132) #[] #[])) [(.t 15), (.c (.string ⟨#[40, 91]⟩))], none⟩,
  ⟨some 17, .bin .eql (.t 16) (.c (.int .u8 91)), none⟩,
  ⟨some 7, .mov (.t 17), none⟩]
def f112r4 : List AIns := [⟨some 18, .load1 (.t 5), none⟩,
  ⟨some 19, .call (.c (.func (.func 138) #[] #[])) [(.t 18)], none⟩]
def f112r5 : List AIns := [⟨some 20, .mov (.t 6), none⟩,
  ⟨some 21, .mov (.t 7), none⟩,
  ⟨some 22, .call (.t 20) [(.c (.string ⟨#[45, 105, 110, 102]⟩)), (.t 21)], none⟩,
  ⟨some 8, .alloc 148 [(.int .i64 0), (.int .i64 0)], none⟩,
  ⟨none, .store 2 (.t 8) (.t 22), none⟩]
def f112r6 : List AIns := [⟨some 23, .load1 (.t 5), none⟩,
  ⟨some 24, .call (.c (.func (.func 138) #[] #[])) [(.t 23)], none⟩]
def f112r7 : List AIns := [⟨some 25, .load1 (.t 5), none⟩,
  ⟨some 26, .call (.c (.func (.func 132) #[] #[])) [(.t 25), (.c (.string ⟨#[44]⟩))], none⟩]
def f112r8 : List AIns := [⟨some 27, .load1 (.t 5), none⟩,
  ⟨some 28, .call (.c (.func (.func 138) #[] #[])) [(.t 27)], none⟩]
def f112r9 : List AIns := [⟨some 29, .load1 (.t 5), none⟩,
  ⟨some 30, .nilCheck (.t 29), none⟩,
  ⟨some 31, .addOff 1 (.t 30), none⟩,
  ⟨some 32, .load1 (.t 31), none⟩,
  ⟨some 9, .mov (.t 32), none⟩]
def f112r10 : List AIns := [⟨some 33, .mov (.t 6), none⟩,
  ⟨some 34, .call (.t 33) [(.c (.string ⟨#[43, 105, 110, 102]⟩)), (.c (.bool false))], none⟩,
  ⟨some 10, .alloc 148 [(.int .i64 0), (.int .i64 0)], none⟩,
  ⟨none, .store 2 (.t 10) (.t 34), none⟩]
def f112r11 : List AIns := [⟨some 35, .load1 (.t 5), none⟩,
  ⟨some 36, .call (.c (.func (.func 138) #[] #[])) [(.t 35)], none⟩]
def f112r12 : List AIns := [⟨some 37, .load1 (.t 5), none⟩,
  ⟨some 38, .call (.c (.func (.func 132) #[] #[])) [(.t 37), (.c (.string ⟨#[41, 93]⟩))], none⟩,
  ⟨some 39, .bin .eql (.t 38) (.c (.int .u8 93)), none⟩,
  ⟨some 40, .mov (.t 39), none⟩,
  ⟨some 41, .addOff 0 (.t 10), some (40, true)⟩,
  ⟨some 42, .load1 (.t 41), some (40, true)⟩,
  ⟨some 43, .bin .eql (.t 42) (.c (.int .i64 1)), some (40, true)⟩,
  ⟨some 44, .pick (.t 40) (.t 43) (.c (.bool false)), none⟩]
def f112r13 : List AIns := [⟨some 45, .addOff 0 (.t 10), none⟩,
  ⟨none, .store 1 (.t 45) (.c (.int .i64 2)), none⟩]
def f112r14 : List AIns := [⟨some 46, .load1 (.t 5), none⟩,
  ⟨some 47, .loadN 2 (.t 8), none⟩,
  ⟨some 48, .loadN 2 (.t 10), none⟩,
  ⟨some 49, .mov (.t 9), none⟩,
  ⟨some 50, .call (.c (.func (.func 136) #[] #[])) [(.t 46), (.t 47), (.t 48), (.t 49)], none⟩,
  ⟨some 51, .extract (.t 50) 0, none⟩,
  ⟨some 52, .extract (.t 50) 1, none⟩,
  ⟨some 53, .extract (.t 50) 2, none⟩,
  ⟨none, .store 4 (.t 2) (.t 51), none⟩,
  ⟨some 3, .mov (.t 52), none⟩,
  ⟨some 4, .mov (.t 53), none⟩]
def f112b : ACode := (.seq (.reg f112r0) (.seq (.reg f112r1) (.seq (.reg f112r2) (.seq (.reg f112r3) (.seq (.reg f112r4) (.seq (.reg f112r5) (.seq (.reg f112r6) (.seq (.reg f112r7) (.seq (.reg f112r8) (.seq (.reg f112r9) (.seq (.reg f112r10) (.seq (.reg f112r11) (.seq (.seq (.reg f112r12) (.cond (.t 44) (.reg f112r13) .skip)) (.seq (.reg f112r14) .ret))))))))))))))
def f112 : AFn := ⟨54, f112b, [.cellN 2 4, .tmp 3, .tmp 4], .pure⟩
theorem f112_is : cFn Try.prog .pure 112 = some f112 := by kernel_rfl
def f115r0 : List AIns := [⟨some 2, .mov (.c (.int .i64 0)), none⟩,
  ⟨some 3, .mov (.c (.int .i64 0)), none⟩]
def f115r1 : List AIns := [⟨some 4, .mov (.c (.int .i64 0)), none⟩]
def f115r2 : List AIns := [⟨some 9, .mov (.t 0), none⟩,
  ⟨some 10, .lenStr (.t 9), none⟩,
  ⟨some 11, .bin .gtr (.t 10) (.c (.int .i64 0)), none⟩,
  ⟨some 12, .mov (.t 11), none⟩,
  ⟨some 13, .mov (.t 0), some (12, true)⟩,
  ⟨some 14, .ixStr (.t 13) (.c (.int .i64 0)), some (12, true)⟩,
  ⟨some 15, .bin .eql (.t 14) (.c (.int .u8 45)), some (12, true)⟩,
  ⟨some 16, .pick (.t 12) (.t 15) (.c (.bool false)), none⟩]
def f115r3 : List AIns := [⟨some 4, .mov (.c (.int .i64 1)), none⟩]
def f115r4 : List AIns := [⟨some 17, .call (.c (.func (.func 92) #[] #[])) [(.c (.int .i64 9223372036854775807))], none⟩,
  ⟨some 5, .mov (.t 17), none⟩]
def f115r5 : List AIns := [⟨some 18, .mov (.t 4), none⟩,
  ⟨some 19, .bin .gtr (.t 18) (.c (.int .i64 0)), none⟩]
def f115r6 : List AIns := [⟨some 20, .call (.c (.func (.func 92) #[] #[])) [(.c (.int .i64 (-9223372036854775808)))], none⟩,
  ⟨some 5, .mov (.t 20), none⟩]
def f115r7 : List AIns := [⟨some 6, .mov (.c (.int .u64 0)), none⟩]
def f115r8 : List AIns := [⟨some 21, .mov (.t 4), none⟩,
  ⟨some 7, .mov (.t 21), none⟩]
def f115r9 : List AIns := [⟨some 22, .mov (.t 7), none⟩,
  ⟨some 23, .mov (.t 0), none⟩,
  ⟨some 24, .lenStr (.t 23), none⟩,
  ⟨some 25, .bin .lss (.t 22) (.t 24), none⟩,
  ⟨some 26, .mov (.t 25), none⟩,
  ⟨some 27, .mov (.t 0), some (26, true)⟩,
  ⟨some 28, .mov (.t 7), some (26, true)⟩,
  ⟨some 29, .ixStr (.t 27) (.t 28), some (26, true)⟩,
  ⟨some 30, .bin .geq (.t 29) (.c (.int .u8 48)), some (26, true)⟩,
  ⟨some 31, .pick (.t 26) (.t 30) (.c (.bool false)), none⟩,
  ⟨some 32, .mov (.t 31), none⟩,
  ⟨some 33, .mov (.t 0), some (32, true)⟩,
  ⟨some 34, .mov (.t 7), some (32, true)⟩,
  ⟨some 35, .ixStr (.t 33) (.t 34), some (32, true)⟩,
  ⟨some 36, .bin .leq (.t 35) (.c (.int .u8 57)), some (32, true)⟩,
  ⟨some 37, .pick (.t 32) (.t 36) (.c (.bool false)), none⟩]
def f115r10 : List AIns := [⟨some 38, .mov (.t 0), none⟩,
  ⟨some 39, .mov (.t 7), none⟩,
  ⟨some 40, .ixStr (.t 38) (.t 39), none⟩,
  ⟨some 41, .bin .sub (.t 40) (.c (.int .u8 48)), none⟩,
  ⟨some 42, .convInt .u64 (.t 41), none⟩,
  ⟨some 8, .mov (.t 42), none⟩]
def f115r11 : List AIns := [⟨some 43, .mov (.t 7), none⟩,
  ⟨some 44, .mov (.t 4), none⟩,
  ⟨some 45, .bin .gtr (.t 43) (.t 44), none⟩,
  ⟨some 46, .mov (.t 45), none⟩,
  ⟨some 47, .mov (.t 6), some (46, true)⟩,
  ⟨some 48, .bin .eql (.t 47) (.c (.int .u64 0)), some (46, true)⟩,
  ⟨some 49, .pick (.t 46) (.t 48) (.c (.bool false)), none⟩,
  ⟨some 50, .mov (.t 49), none⟩,
  ⟨some 51, .mov (.t 6), some (50, false)⟩,
  ⟨some 52, .mov (.t 5), some (50, false)⟩,
  ⟨some 53, .mov (.t 8), some (50, false)⟩,
  ⟨some 54, .bin .sub (.t 52) (.t 53), some (50, false)⟩,
  ⟨some 55, .bin .quo (.t 54) (.c (.int .u64 10)), some (50, false)⟩,
  ⟨some 56, .bin .gtr (.t 51) (.t 55), some (50, false)⟩,
  ⟨some 57, .pick (.t 50) (.c (.bool true)) (.t 56), none⟩]
def f115r12 : List AIns := [⟨some 58, .mov (.t 6), none⟩,
  ⟨some 59, .bin .mul (.c (.int .u64 10)) (.t 58), none⟩,
  ⟨some 60, .mov (.t 8), none⟩,
  ⟨some 61, .bin .add (.t 59) (.t 60), none⟩,
  ⟨some 6, .mov (.t 61), none⟩]
def f115r13 : List AIns := [⟨some 62, .mov (.t 7), none⟩,
  ⟨some 63, .bin .add (.t 62) (.c (.int .i64 1)), none⟩,
  ⟨some 7, .mov (.t 63), none⟩]
def f115l14 : ACode := (.seq (.seq (.reg f115r9) (.cond (.t 37) .skip (.exit 0))) (.block 1 (.seq (.reg f115r10) (.seq (.seq (.reg f115r11) (.cond (.t 57) (.exit 0) .skip)) (.seq (.reg f115r12) (.reg f115r13))))))
def f115r15 : List AIns := [⟨some 65, .mov (.t 7), none⟩,
  ⟨some 66, .mov (.t 4), none⟩,
  ⟨some 67, .bin .eql (.t 65) (.t 66), none⟩,
  ⟨some 68, .mov (.t 67), none⟩,
  ⟨some 69, .mov (.t 4), some (68, false)⟩,
  ⟨some 70, .bin .gtr (.t 69) (.c (.int .i64 0)), some (68, false)⟩,
  ⟨some 71, .mov (.t 70), some (68, false)⟩,
  ⟨some 72, .mov (.t 6), some (71, true)⟩,
  ⟨some 73, .bin .eql (.t 72) (.c (.int .u64 0)), some (71, true)⟩,
  ⟨some 74, .pick (.t 71) (.t 73) (.c (.bool false)), some (68, false)⟩,
  ⟨some 75, .pick (.t 68) (.c (.bool true)) (.t 74), none⟩,
  ⟨some 64, .mov (.t 75), none⟩]
def f115r16 : List AIns := [⟨some 2, .mov (.c (.int .i64 0)), none⟩,
  ⟨some 3, .mov (.c (.int .i64 0)), none⟩]
def f115r17 : List AIns := [⟨some 77, .mov (.t 4), none⟩,
  ⟨some 78, .bin .gtr (.t 77) (.c (.int .i64 0)), none⟩,
  ⟨some 76, .mov (.t 78), none⟩]
def f115r18 : List AIns := [⟨some 79, .mov (.t 6), none⟩,
  ⟨some 80, .un .neg (.t 79), none⟩,
  ⟨some 81, .convInt .i64 (.t 80), none⟩,
  ⟨some 82, .mov (.t 7), none⟩,
  ⟨some 2, .mov (.t 81), none⟩,
  ⟨some 3, .mov (.t 82), none⟩]
def f115r19 : List AIns := [⟨some 83, .mov (.t 6), none⟩,
  ⟨some 84, .convInt .i64 (.t 83), none⟩,
  ⟨some 85, .mov (.t 7), none⟩,
  ⟨some 2, .mov (.t 84), none⟩,
  ⟨some 3, .mov (.t 85), none⟩]
def f115b : ACode := (.seq (.reg f115r0) (.seq (.reg f115r1) (.seq (.seq (.reg f115r2) (.cond (.t 16) (.reg f115r3) .skip)) (.seq (.reg f115r4) (.seq (.seq (.reg f115r5) (.cond (.t 19) (.reg f115r6) .skip)) (.seq (.reg f115r7) (.seq (.reg f115r8) (.seq (.block 0 (.loop f115l14)) (.seq (.block 2 (.seq (.reg f115r15) (.cond (.t 64) (.seq (.reg f115r16) .ret) (.seq (.reg f115r17) (.cond (.t 76) (.seq (.reg f115r18) .ret) .skip))))) (.seq (.reg f115r19) .ret))))))))))
def f115 : AFn := ⟨86, f115b, [.tmp 2, .tmp 3], .pure⟩
theorem f115_is : cFn Try.prog .pure 115 = some f115 := by kernel_rfl
def f117r0 : List AIns := [⟨some 0, .alloc 44 [(.int .i64 0), (.int .i64 0)], none⟩]
def f117r1 : List AIns := [⟨some 1, .build [(.int .i64 0), (.int .i64 0)] [(0, 1, (.c (.int .i64 1)))], none⟩,
  ⟨none, .store 2 (.t 0) (.t 1), none⟩]
def f117b : ACode := (.seq (.reg f117r0) (.seq (.reg f117r1) .ret))
def f117 : AFn := ⟨2, f117b, [.cellN 0 2], .pure⟩
theorem f117_is : cFn Try.prog .pure 117 = some f117 := by kernel_rfl
def f120r0 : List AIns := [⟨some 2, .mov (.c (.int .i64 0)), none⟩]
def f120r1 : List AIns := [⟨some 3, .mov (.c (.int .i64 0)), none⟩]
def f120r2 : List AIns := [⟨some 6, .mov (.t 0), none⟩,
  ⟨some 7, .len (.t 6), none⟩,
  ⟨some 8, .mov (.c (.int .i64 0)), none⟩]
def f120r3 : List AIns := [⟨some 9, .bin .lss (.t 8) (.t 7), none⟩]
def f120r4 : List AIns := [⟨some 10, .idxA 1 (.t 6) (.t 8), none⟩,
  ⟨some 11, .load1 (.t 10), none⟩,
  ⟨some 5, .mov (.t 11), none⟩]
def f120r5 : List AIns := [⟨some 12, .mov (.t 5), none⟩,
  ⟨some 13, .mov (.t 3), none⟩,
  ⟨some 14, .bin .neq (.t 12) (.t 13), none⟩]
def f120r6 : List AIns := [⟨some 15, .mov (.t 5), none⟩,
  ⟨some 2, .mov (.t 15), none⟩]
def f120r7 : List AIns := [⟨some 16, .bin .add (.t 8) (.c (.int .i64 1)), none⟩,
  ⟨some 8, .mov (.t 16), none⟩]
def f120l8 : ACode := (.seq (.reg f120r3) (.seq (.cond (.t 9) .skip (.exit 0)) (.seq (.block 1 (.seq (.reg f120r4) (.seq (.reg f120r5) (.cond (.t 14) (.seq (.reg f120r6) .ret) .skip)))) (.reg f120r7))))
def f120r9 : List AIns := [⟨some 17, .mov (.t 3), none⟩,
  ⟨some 2, .mov (.t 17), none⟩]
def f120b : ACode := (.seq (.reg f120r0) (.seq (.reg f120r1) (.seq (.seq (.reg f120r2) (.block 0 (.loop f120l8))) (.seq (.reg f120r9) .ret))))
def f120 : AFn := ⟨18, f120b, [.tmp 2], .pure⟩
theorem f120_is : cFn Try.prog .pure 120 = some f120 := by kernel_rfl
def f128r0 : List AIns := [⟨some 4, .mov (.c (.int .i64 0)), none⟩]
def f128r1 : List AIns := [⟨some 7, .mov (.t 0), none⟩,
  ⟨some 8, .call (.c (.func (.func 158) #[] #[])) [(.t 7)], none⟩,
  ⟨some 5, .mov (.t 8), none⟩]
def f128r2 : List AIns := [⟨some 9, .mov (.t 1), none⟩,
  ⟨some 10, .call (.c (.func (.func 158) #[] #[])) [(.t 9)], none⟩,
  ⟨some 6, .mov (.t 10), none⟩]
def f128r3 : List AIns := [⟨some 11, .mov (.t 5), none⟩]
def f128r4 : List AIns := [⟨some 12, .mov (.t 6), none⟩]
def f128r5 : List AIns := [⟨some 4, .mov (.c (.int .i64 0)), none⟩]
def f128r6 : List AIns := [⟨some 4, .mov (.c (.int .i64 (-1))), none⟩]
def f128r7 : List AIns := [⟨some 13, .mov (.t 6), none⟩]
def f128r8 : List AIns := [⟨some 4, .mov (.c (.int .i64 1)), none⟩]
def f128r9 : List AIns := [⟨some 14, .mov (.t 0), none⟩,
  ⟨some 15, .mov (.t 1), none⟩,
  ⟨some 16, .bin .lss (.t 14) (.t 15), none⟩]
def f128r10 : List AIns := [⟨some 4, .mov (.c (.int .i64 (-1))), none⟩]
def f128r11 : List AIns := [⟨some 17, .mov (.t 0), none⟩,
  ⟨some 18, .mov (.t 1), none⟩,
  ⟨some 19, .bin .gtr (.t 17) (.t 18), none⟩]
def f128r12 : List AIns := [⟨some 4, .mov (.c (.int .i64 1)), none⟩]
def f128r13 : List AIns := [⟨some 4, .mov (.c (.int .i64 0)), none⟩]
def f128b : ACode := (.seq (.reg f128r0) (.seq (.reg f128r1) (.seq (.reg f128r2) (.seq (.seq (.reg f128r3) (.cond (.t 11) (.seq (.seq (.reg f128r4) (.cond (.t 12) (.seq (.reg f128r5) .ret) .skip)) (.seq (.reg f128r6) .ret)) .skip)) (.seq (.seq (.reg f128r7) (.cond (.t 13) (.seq (.reg f128r8) .ret) .skip)) (.seq (.seq (.reg f128r9) (.cond (.t 16) (.seq (.reg f128r10) .ret) .skip)) (.seq (.seq (.reg f128r11) (.cond (.t 19) (.seq (.reg f128r12) .ret) .skip)) (.seq (.reg f128r13) .ret))))))))
def f128 : AFn := ⟨20, f128b, [.tmp 4], .pure⟩
theorem f128_is : cFn Try.prog .pure 128 = some f128 := by kernel_rfl
def f129r0 : List AIns := [⟨some 4, .mov (.c (.int .i64 0)), none⟩]
def f129r1 : List AIns := [⟨some 7, .mov (.t 0), none⟩,
  ⟨some 8, .call (.c (.func (.func 159) #[] #[])) [(.t 7)], none⟩,
  ⟨some 5, .mov (.t 8), none⟩]
def f129r2 : List AIns := [⟨some 9, .mov (.t 1), none⟩,
  ⟨some 10, .call (.c (.func (.func 159) #[] #[])) [(.t 9)], none⟩,
  ⟨some 6, .mov (.t 10), none⟩]
def f129r3 : List AIns := [⟨some 11, .mov (.t 5), none⟩]
def f129r4 : List AIns := [⟨some 12, .mov (.t 6), none⟩]
def f129r5 : List AIns := [⟨some 4, .mov (.c (.int .i64 0)), none⟩]
def f129r6 : List AIns := [⟨some 4, .mov (.c (.int .i64 (-1))), none⟩]
def f129r7 : List AIns := [⟨some 13, .mov (.t 6), none⟩]
def f129r8 : List AIns := [⟨some 4, .mov (.c (.int .i64 1)), none⟩]
def f129r9 : List AIns := [⟨some 14, .mov (.t 0), none⟩,
  ⟨some 15, .mov (.t 1), none⟩,
  ⟨some 16, .bin .lss (.t 14) (.t 15), none⟩]
def f129r10 : List AIns := [⟨some 4, .mov (.c (.int .i64 (-1))), none⟩]
def f129r11 : List AIns := [⟨some 17, .mov (.t 0), none⟩,
  ⟨some 18, .mov (.t 1), none⟩,
  ⟨some 19, .bin .gtr (.t 17) (.t 18), none⟩]
def f129r12 : List AIns := [⟨some 4, .mov (.c (.int .i64 1)), none⟩]
def f129r13 : List AIns := [⟨some 4, .mov (.c (.int .i64 0)), none⟩]
def f129b : ACode := (.seq (.reg f129r0) (.seq (.reg f129r1) (.seq (.reg f129r2) (.seq (.seq (.reg f129r3) (.cond (.t 11) (.seq (.seq (.reg f129r4) (.cond (.t 12) (.seq (.reg f129r5) .ret) .skip)) (.seq (.reg f129r6) .ret)) .skip)) (.seq (.seq (.reg f129r7) (.cond (.t 13) (.seq (.reg f129r8) .ret) .skip)) (.seq (.seq (.reg f129r9) (.cond (.t 16) (.seq (.reg f129r10) .ret) .skip)) (.seq (.seq (.reg f129r11) (.cond (.t 19) (.seq (.reg f129r12) .ret) .skip)) (.seq (.reg f129r13) .ret))))))))
def f129 : AFn := ⟨20, f129b, [.tmp 4], .pure⟩
theorem f129_is : cFn Try.prog .pure 129 = some f129 := by kernel_rfl
def f131r0 : List AIns := [⟨some 4, .mov (.c (.bool false)), none⟩]
def f131r1 : List AIns := [⟨some 5, .mov (.t 0), none⟩,
  ⟨some 6, .mov (.t 1), none⟩,
  ⟨some 7, .call (.c (.func (.func 168) #[] #[])) [(.t 5), (.t 6)], none⟩,
  ⟨some 4, .mov (.t 7), none⟩]
def f131b : ACode := (.seq (.reg f131r0) (.seq (.reg f131r1) .ret))
def f131 : AFn := ⟨8, f131b, [.tmp 4], .pure⟩
theorem f131_is : cFn Try.prog .pure 131 = some f131 := by kernel_rfl
def f132r0 : List AIns := [⟨some 4, .mov (.c (.int .u8 0)), none⟩]
def f132r1 : List AIns := [⟨some 6, .mov (.t 0), none⟩,
  ⟨some 7, .nilCheck (.t 6), none⟩,
  ⟨some 8, .addOff 2 (.t 7), none⟩,
  ⟨some 9, .load1 (.t 8), none⟩]
def f132r2 : List AIns := [⟨some 4, .mov (.c (.int .u8 0)), none⟩]
def f132r3 : List AIns := [⟨some 10, .mov (.t 1), none⟩,
  ⟨some 11, .lenStr (.t 10), none⟩,
  ⟨some 12, .mov (.c (.int .i64 0)), none⟩]
def f132r4 : List AIns := [⟨some 13, .bin .lss (.t 12) (.t 11), none⟩]
def f132r5 : List AIns := [⟨some 14, .mov (.t 12), none⟩,
  ⟨some 5, .mov (.t 14), none⟩]
def f132r6 : List AIns := [⟨some 15, .mov (.t 0), none⟩,
  ⟨some 16, .nilCheck (.t 15), none⟩,
  ⟨some 17, .addOff 1 (.t 16), none⟩,
  ⟨some 18, .load1 (.t 17), none⟩,
  ⟨some 19, .mov (.t 0), none⟩,
  ⟨some 20, .nilCheck (.t 19), none⟩,
  ⟨some 21, .addOff 0 (.t 20), none⟩,
  ⟨some 22, .load1 (.t 21), none⟩,
  ⟨some 23, .lenStr (.t 22), none⟩,
  ⟨some 24, .bin .lss (.t 18) (.t 23), none⟩,
  ⟨some 25, .mov (.t 24), none⟩,
  ⟨some 26, .mov (.t 0), some (25, true)⟩,
  ⟨some 27, .nilCheck (.t 26), some (25, true)⟩,
  ⟨some 28, .addOff 0 (.t 27), some (25, true)⟩,
  ⟨some 29, .load1 (.t 28), some (25, true)⟩,
  ⟨some 30, .mov (.t 0), some (25, true)⟩,
  ⟨some 31, .nilCheck (.t 30), some (25, true)⟩,
  ⟨some 32, .addOff 1 (.t 31), some (25, true)⟩,
  ⟨some 33, .load1 (.t 32), some (25, true)⟩,
  ⟨some 34, .ixStr (.t 29) (.t 33), some (25, true)⟩,
  ⟨some 35, .mov (.t 1), some (25, true)⟩,
  ⟨some 36, .mov (.t 5), some (25, true)⟩,
  ⟨some 37, .ixStr (.t 35) (.t 36), some (25, true)⟩,
  ⟨some 38, .bin .eql (.t 34) (.t 37), some (25, true)⟩,
  ⟨some 39, .pick (.t 25) (.t 38) (.c (.bool false)), none⟩]
def f132r7 : List AIns := [⟨some 40, .mov (.t 0), none⟩,
  ⟨some 41, .nilCheck (.t 40), none⟩,
  ⟨some 42, .addOff 1 (.t 41), none⟩,
  ⟨some 43, .load1 (.t 42), none⟩,
  ⟨some 44, .bin .add (.t 43) (.c (.int .i64 1)), none⟩,
  ⟨some 45, .nilCheck (.t 40), none⟩,
  ⟨some 46, .addOff 1 (.t 45), none⟩,
  ⟨none, .store 1 (.t 46) (.t 44), none⟩]
def f132r8 : List AIns := [⟨some 47, .mov (.t 1), none⟩,
  ⟨some 48, .mov (.t 5), none⟩,
  ⟨some 49, .ixStr (.t 47) (.t 48), none⟩,
  ⟨some 4, .mov (.t 49), none⟩]
def f132r9 : List AIns := [⟨some 50, .bin .add (.t 12) (.c (.int .i64 1)), none⟩,
  ⟨some 12, .mov (.t 50), none⟩]
def f132l10 : ACode := (.seq (.reg f132r4) (.seq (.cond (.t 13) .skip (.exit 0)) (.seq (.block 1 (.seq (.reg f132r5) (.seq (.regD f132r6 [(0, []), (1, []), (2, []), (3, []), (4, []), (5, []), (6, []), (7, []), (8, []), (9, []), (10, []), (11, []), (12, []), (13, []), (14, []), (15, []), (16, []), (17, []), (18, []), (19, []), (20, []), (21, []), (22, []), (23, []), (24, [])]) (.cond (.t 39) (.seq (.reg f132r7) (.seq (.reg f132r8) .ret)) .skip)))) (.reg f132r9))))
def f132r11 : List AIns := [⟨some 51, .mov (.t 0), none⟩,
  ⟨some 52, .nilCheck (.t 51), none⟩,
  ⟨some 53, .addOff 2 (.t 52), none⟩,
  ⟨none, .store 1 (.t 53) (.c (.bool true)), none⟩]
def f132r12 : List AIns := [⟨some 4, .mov (.c (.int .u8 0)), none⟩]
def f132b : ACode := (.seq (.reg f132r0) (.seq (.seq (.reg f132r1) (.cond (.t 9) (.seq (.reg f132r2) .ret) .skip)) (.seq (.seq (.reg f132r3) (.block 0 (.loop f132l10))) (.seq (.reg f132r11) (.seq (.reg f132r12) .ret)))))
def f132 : AFn := ⟨54, f132b, [.tmp 4], .plain⟩
theorem f132_is : cFn Try.prog .plain 132 = some f132 := by kernel_rfl
def f133r0 : List AIns := [⟨some 4, .mov (.c (.bool false)), none⟩]
def f133r1 : List AIns := [⟨some 6, .mov (.t 0), none⟩,
  ⟨some 7, .nilCheck (.t 6), none⟩,
  ⟨some 8, .addOff 2 (.t 7), none⟩,
  ⟨some 9, .load1 (.t 8), none⟩,
  ⟨some 10, .un .not (.t 9), none⟩,
  ⟨some 11, .mov (.t 10), none⟩,
  ⟨some 12, .mov (.t 0), some (11, true)⟩,
  ⟨some 13, .nilCheck (.t 12), some (11, true)⟩,
  ⟨some 14, .addOff 0 (.t 13), some (11, true)⟩,
  ⟨some 15, .load1 (.t 14), some (11, true)⟩,
  ⟨some 16, .lenStr (.t 15), some (11, true)⟩,
  ⟨some 17, .mov (.t 0), some (11, true)⟩,
  ⟨some 18, .nilCheck (.t 17), some (11, true)⟩,
  ⟨some 19, .addOff 1 (.t 18), some (11, true)⟩,
  ⟨some 20, .load1 (.t 19), some (11, true)⟩,
  ⟨some 21, .bin .sub (.t 16) (.t 20), some (11, true)⟩,
  ⟨some 22, .mov (.t 1), some (11, true)⟩,
  ⟨some 23, .lenStr (.t 22), some (11, true)⟩,
  ⟨some 24, .bin .geq (.t 21) (.t 23), some (11, true)⟩,
  ⟨some 25, .pick (.t 11) (.t 24) (.c (.bool false)), none⟩,
  ⟨some 26, .mov (.t 25), none⟩,
  ⟨some 27, .mov (.t 0), some (26, true)⟩,
  ⟨some 28, .nilCheck (.t 27), some (26, true)⟩,
  ⟨some 29, .addOff 0 (.t 28), some (26, true)⟩,
  ⟨some 30, .load1 (.t 29), some (26, true)⟩,
  ⟨some 31, .mov (.t 0), some (26, true)⟩,
  ⟨some 32, .nilCheck (.t 31), some (26, true)⟩,
  ⟨some 33, .addOff 1 (.t 32), some (26, true)⟩,
  ⟨some 34, .load1 (.t 33), some (26, true)⟩,
  ⟨some 35, .mov (.t 0), some (26, true)⟩,
  ⟨some 36, .nilCheck (.t 35), some (26, true)⟩,
  ⟨some 37, .addOff 1 (.t 36), some (26, true)⟩,
  ⟨some 38, .load1 (.t 37), some (26, true)⟩,
  ⟨some 39, .mov (.t 1), some (26, true)⟩,
  ⟨some 40, .lenStr (.t 39), some (26, true)⟩,
  ⟨some 41, .bin .add (.t 38) (.t 40), some (26, true)⟩,
  ⟨some 42, .sliceStr (.t 30) (some (.t 34)) (some (.t 41)), some (26, true)⟩,
  ⟨some 43, .mov (.t 1), some (26, true)⟩,
  ⟨some 44, .bin .eql (.t 42) (.t 43), some (26, true)⟩,
  ⟨some 45, .pick (.t 26) (.t 44) (.c (.bool false)), none⟩,
  ⟨some 5, .mov (.t 45), none⟩]
def f133r2 : List AIns := [⟨some 46, .mov (.t 5), none⟩]
def f133r3 : List AIns := [⟨some 47, .mov (.t 0), none⟩,
  ⟨some 48, .nilCheck (.t 47), none⟩,
  ⟨some 49, .addOff 1 (.t 48), none⟩,
  ⟨some 50, .load1 (.t 49), none⟩,
  ⟨some 51, .mov (.t 1), none⟩,
  ⟨some 52, .lenStr (.t 51), none⟩,
  ⟨some 53, .bin .add (.t 50) (.t 52), none⟩,
  ⟨some 54, .nilCheck (.t 47), none⟩,
  ⟨some 55, .addOff 1 (.t 54), none⟩,
  ⟨none, .store 1 (.t 55) (.t 53), none⟩]
def f133r4 : List AIns := [⟨some 56, .mov (.t 5), none⟩,
  ⟨some 4, .mov (.t 56), none⟩]
def f133b : ACode := (.seq (.reg f133r0) (.seq (.regD f133r1 [(0, []), (1, []), (2, []), (3, []), (4, []), (5, []), (6, []), (7, []), (8, []), (9, []), (10, []), (11, []), (12, []), (13, []), (14, []), (15, []), (16, []), (17, []), (18, []), (19, []), (20, []), (21, []), (22, []), (23, []), (24, []), (25, []), (26, []), (27, []), (28, []), (29, []), (30, []), (31, []), (32, []), (33, []), (34, []), (35, []), (36, []), (37, []), (38, []), (39, []), (40, [])]) (.seq (.seq (.reg f133r2) (.cond (.t 46) (.reg f133r3) .skip)) (.seq (.reg f133r4) .ret))))
def f133 : AFn := ⟨57, f133b, [.tmp 4], .plain⟩
theorem f133_is : cFn Try.prog .plain 133 = some f133 := by kernel_rfl
def f134r0 : List AIns := [⟨some 4, .mov (.c (.int .i64 0)), none⟩]
def f134r1 : List AIns := [⟨some 7, .mov (.t 0), none⟩,
  ⟨some 8, .nilCheck (.t 7), none⟩,
  ⟨some 9, .addOff 2 (.t 8), none⟩,
  ⟨some 10, .load1 (.t 9), none⟩]
def f134r2 : List AIns := [⟨some 4, .mov (.c (.int .i64 0)), none⟩]
def f134r3 : List AIns := [⟨some 12, .mov (.t 1), none⟩,
  ⟨some 13, .mov (.t 0), none⟩,
  ⟨some 14, .nilCheck (.t 13), none⟩,
  ⟨some 15, .addOff 0 (.t 14), none⟩,
  ⟨some 16, .load1 (.t 15), none⟩,
  ⟨some 17, .mov (.t 0), none⟩,
  ⟨some 18, .nilCheck (.t 17), none⟩,
  ⟨some 19, .addOff 1 (.t 18), none⟩,
  ⟨some 20, .load1 (.t 19), none⟩,
  ⟨some 21, .sliceStr (.t 16) (some (.t 20)) none, none⟩,
  ⟨some 22, .call (.t 12) [(.t 21)], none⟩,
  ⟨some 11, .mov (.t 22), none⟩,
  ⟨some 23, .extract (.t 11) 0, none⟩,
  ⟨some 24, .extract (.t 11) 1, none⟩,
  ⟨some 5, .mov (.t 23), none⟩,
  ⟨some 6, .mov (.t 24), none⟩]
def f134r4 : List AIns := [⟨some 25, .mov (.t 0), none⟩,
  ⟨some 26, .mov (.t 6), none⟩,
  ⟨some 27, .bin .eql (.t 26) (.c (.int .i64 0)), none⟩,
  ⟨some 28, .nilCheck (.t 25), none⟩,
  ⟨some 29, .addOff 2 (.t 28), none⟩,
  ⟨none, .store 1 (.t 29) (.t 27), none⟩]
def f134r5 : List AIns := [⟨some 30, .mov (.t 0), none⟩,
  ⟨some 31, .nilCheck (.t 30), none⟩,
  ⟨some 32, .addOff 1 (.t 31), none⟩,
  ⟨some 33, .load1 (.t 32), none⟩,
  ⟨some 34, .mov (.t 6), none⟩,
  ⟨some 35, .bin .add (.t 33) (.t 34), none⟩,
  ⟨some 36, .nilCheck (.t 30), none⟩,
  ⟨some 37, .addOff 1 (.t 36), none⟩,
  ⟨none, .store 1 (.t 37) (.t 35), none⟩]
def f134r6 : List AIns := [⟨some 38, .mov (.t 5), none⟩,
  ⟨some 4, .mov (.t 38), none⟩]
def f134b : ACode := (.seq (.reg f134r0) (.seq (.seq (.reg f134r1) (.cond (.t 10) (.seq (.reg f134r2) .ret) .skip)) (.seq (.regD f134r3 [(0, []), (1, []), (2, []), (3, []), (4, []), (5, []), (6, []), (7, []), (8, []), (9, []), (10, []), (11, []), (12, []), (13, []), (14, []), (15, [])]) (.seq (.reg f134r4) (.seq (.reg f134r5) (.seq (.reg f134r6) .ret))))))
def f134 : AFn := ⟨39, f134b, [.tmp 4], .plain⟩
theorem f134_is : cFn Try.prog .plain 134 = some f134 := by kernel_rfl
def f135r0 : List AIns := [⟨some 2, .mov (.c (.int .i64 0)), none⟩,
  ⟨some 3, .mov (.c (.int .i64 0)), none⟩]
def f135r1 : List AIns := [⟨some 7, .mov (.t 0), none⟩,
  ⟨some 8, .call (.c (.func (.func 169) #[] #[])) [(.t 7)], none⟩,
  ⟨some 6, .mov (.t 8), none⟩,
  ⟨some 9, .extract (.t 6) 0, none⟩,
  ⟨some 10, .extract (.t 6) 1, none⟩,
  ⟨some 4, .alloc 44 [(.int .i64 0), (.int .i64 0)], none⟩,
  ⟨none, .store 2 (.t 4) (.t 9), none⟩,
  ⟨some 5, .mov (.t 10), none⟩]
def f135r2 : List AIns := [⟨some 11, .addOff 0 (.t 4), none⟩,
  ⟨some 12, .load1 (.t 11), none⟩,
  ⟨some 13, .bin .neq (.t 12) (.c (.int .i64 0)), none⟩]
def f135r3 : List AIns := [⟨some 2, .mov (.c (.int .i64 0)), none⟩,
  ⟨some 3, .mov (.c (.int .i64 0)), none⟩]
def f135r4 : List AIns := [⟨some 14, .addOff 1 (.t 4), none⟩,
  ⟨some 15, .load1 (.t 14), none⟩,
  ⟨some 16, .mov (.t 5), none⟩,
  ⟨some 2, .mov (.t 15), none⟩,
  ⟨some 3, .mov (.t 16), none⟩]
def f135b : ACode := (.seq (.reg f135r0) (.seq (.reg f135r1) (.seq (.seq (.reg f135r2) (.cond (.t 13) (.seq (.reg f135r3) .ret) .skip)) (.seq (.reg f135r4) .ret))))
def f135 : AFn := ⟨17, f135b, [.tmp 2, .tmp 3], .pure⟩
theorem f135_is : cFn Try.prog .pure 135 = some f135 := by kernel_rfl
def f136r0 : List AIns := [⟨some 5, .box 148 (.t 1), none⟩,
  ⟨some 6, .box 148 (.t 2), none⟩,
  ⟨some 8, .alloc 46 [(.int .i64 0), (.int .i64 0), (.int .i64 0), (.int .i64 0)], none⟩,
  ⟨some 9, .mov (.c (.int .i64 0)), none⟩,
  ⟨some 10, .mov (.c (.int .i64 0)), none⟩]
def f136r1 : List AIns := [⟨some 13, .mov (.t 0), none⟩,
  ⟨some 14, .nilCheck (.t 13), none⟩,
  ⟨some 15, .addOff 2 (.t 14), none⟩,
  ⟨some 16, .load1 (.t 15), none⟩]
def f136r2 : List AIns := [⟨some 17, .build [(.int .i64 0), (.int .i64 0), (.int .i64 0), (.int .i64 0)] [], none⟩,
  ⟨some 18, .mov (.t 0), none⟩,
  ⟨some 19, .nilCheck (.t 18), none⟩,
  ⟨some 20, .addOff 1 (.t 19), none⟩,
  ⟨some 21, .load1 (.t 20), none⟩,
  ⟨none, .store 4 (.t 8) (.t 17), none⟩,
  ⟨some 9, .mov (.t 21), none⟩,
  ⟨some 10, .mov (.c (.int .i64 40)), none⟩]
def f136r3 : List AIns := [⟨some 23, .loadN 2 (.t 5), none⟩,
  ⟨some 24, .loadN 2 (.t 6), none⟩,
  ⟨some 25, .call (.c (.func (.func 170) #[] #[])) [(.t 23), (.t 24)], none⟩,
  ⟨some 22, .mov (.t 25), none⟩,
  ⟨some 26, .extract (.t 22) 0, none⟩,
  ⟨some 27, .extract (.t 22) 1, none⟩,
  ⟨some 11, .alloc 46 [(.int .i64 0), (.int .i64 0), (.int .i64 0), (.int .i64 0)], none⟩,
  ⟨none, .store 4 (.t 11) (.t 26), none⟩,
  ⟨some 12, .mov (.t 27), none⟩]
def f136r4 : List AIns := [⟨some 28, .mov (.t 12), none⟩,
  ⟨some 29, .bin .neq (.t 28) (.c (.int .i64 0)), none⟩]
def f136r5 : List AIns := [⟨some 30, .build [(.int .i64 0), (.int .i64 0), (.int .i64 0), (.int .i64 0)] [], none⟩,
  ⟨some 31, .mov (.t 3), none⟩,
  ⟨some 32, .mov (.t 12), none⟩,
  ⟨none, .store 4 (.t 8) (.t 30), none⟩,
  ⟨some 9, .mov (.t 31), none⟩,
  ⟨some 10, .mov (.t 32), none⟩]
def f136r6 : List AIns := [⟨some 33, .loadN 4 (.t 11), none⟩,
  ⟨some 34, .mov (.t 0), none⟩,
  ⟨some 35, .nilCheck (.t 34), none⟩,
  ⟨some 36, .addOff 1 (.t 35), none⟩,
  ⟨some 37, .load1 (.t 36), none⟩,
  ⟨none, .store 4 (.t 8) (.t 33), none⟩,
  ⟨some 9, .mov (.t 37), none⟩,
  ⟨some 10, .mov (.c (.int .i64 0)), none⟩]
def f136b : ACode := (.seq (.reg f136r0) (.seq (.seq (.reg f136r1) (.cond (.t 16) (.seq (.regD f136r2 [(0, []), (1, []), (2, []), (3, []), (4, []), (5, [4]), (6, []), (7, [])]) .ret) .skip)) (.seq (.reg f136r3) (.seq (.seq (.reg f136r4) (.cond (.t 29) (.seq (.reg f136r5) .ret) .skip)) (.seq (.regD f136r6 [(0, []), (1, []), (2, []), (3, []), (4, []), (5, [4]), (6, []), (7, [])]) .ret)))))
def f136 : AFn := ⟨38, f136b, [.cellN 8 4, .tmp 9, .tmp 10], .pure⟩
theorem f136_is : cFn Try.prog .pure 136 = some f136 := by kernel_rfl
def f137r0 : List AIns := [⟨some 5, .alloc 148 [(.int .i64 0), (.int .i64 0)], none⟩]
def f137r1 : List AIns := [⟨some 7, .load1 (.t 2), none⟩,
  ⟨some 8, .mov (.t 0), none⟩,
  ⟨some 9, .call (.c (.func (.func 133) #[] #[])) [(.t 7), (.t 8)], none⟩]
def f137r2 : List AIns := [⟨some 10, .build [(.int .i64 0), (.int .i64 0)] [], none⟩,
  ⟨none, .store 2 (.t 5) (.t 10), none⟩]
def f137r3 : List AIns := [⟨some 11, .load1 (.t 2), none⟩,
  ⟨some 12, .call (.c (.func (.func 134) #[] #[])) [(.t 11), (.c (.func (.func 115) #[] #[]))], none⟩,
  ⟨some 13, .build [(.int .i64 0), (.int .i64 0)] [(0, 1, (.c (.int .i64 1))), (1, 1, (.t 12))], none⟩,
  ⟨some 6, .alloc 148 [(.int .i64 0), (.int .i64 0)], none⟩,
  ⟨none, .store 2 (.t 6) (.t 13), none⟩]
def f137r4 : List AIns := [⟨some 14, .mov (.t 1), none⟩]
def f137r5 : List AIns := [⟨some 15, .addOff 0 (.t 6), none⟩,
  ⟨none, .store 1 (.t 15) (.c (.int .i64 2)), none⟩]
def f137r6 : List AIns := [⟨some 16, .loadN 2 (.t 6), none⟩,
  ⟨none, .store 2 (.t 5) (.t 16), none⟩]
def f137b : ACode := (.seq (.reg f137r0) (.seq (.seq (.reg f137r1) (.cond (.t 9) (.seq (.reg f137r2) .ret) .skip)) (.seq (.reg f137r3) (.seq (.seq (.reg f137r4) (.cond (.t 14) (.reg f137r5) .skip)) (.seq (.reg f137r6) .ret)))))
def f137 : AFn := ⟨17, f137b, [.cellN 5 2], .plain⟩
theorem f137_is : cFn Try.prog .plain 137 = some f137 := by kernel_rfl
def f138r0 : List AIns := [⟨some 2, .mov (.t 0), none⟩,
  ⟨some 3, .nilCheck (.t 2), none⟩,
  ⟨some 4, .addOff 3 (.t 3), none⟩,
  ⟨some 5, .load1 (.t 4), none⟩,
  ⟨some 6, .mov (.t 5), none⟩,
  ⟨some 7, .mov (.t 0), some (6, true)⟩,
  ⟨some 8, .nilCheck (.t 7), some (6, true)⟩,
  ⟨some 9, .addOff 2 (.t 8), some (6, true)⟩,
  ⟨some 10, .load1 (.t 9), some (6, true)⟩,
  ⟨some 11, .un .not (.t 10), some (6, true)⟩,
  ⟨some 12, .pick (.t 6) (.t 11) (.c (.bool false)), none⟩,
  ⟨some 13, .mov (.t 12), none⟩,
  ⟨some 14, .mov (.t 0), some (13, true)⟩,
  ⟨some 15, .nilCheck (.t 14), some (13, true)⟩,
  ⟨some 16, .addOff 1 (.t 15), some (13, true)⟩,
  ⟨some 17, .load1 (.t 16), some (13, true)⟩,
  ⟨some 18, .mov (.t 0), some (13, true)⟩,
  ⟨some 19, .nilCheck (.t 18), some (13, true)⟩,
  ⟨some 20, .addOff 0 (.t 19), some (13, true)⟩,
  ⟨some 21, .load1 (.t 20), some (13, true)⟩,
  ⟨some 22, .lenStr (.t 21), some (13, true)⟩,
  ⟨some 23, .bin .lss (.t 17) (.t 22), some (13, true)⟩,
  ⟨some 24, .pick (.t 13) (.t 23) (.c (.bool false)), none⟩,
  ⟨some 25, .mov (.t 24), none⟩,
  ⟨some 26, .mov (.t 0), some (25, true)⟩,
  ⟨some 27, .nilCheck (.t 26), some (25, true)⟩,
  ⟨some 28, .addOff 0 (.t 27), some (25, true)⟩,
  ⟨some 29, .load1 (.t 28), some (25, true)⟩,
  ⟨some 30, .mov (.t 0), some (25, true)⟩,
  ⟨some 31, .nilCheck (.t 30), some (25, true)⟩,
  ⟨some 32, .addOff 1 (.t 31), some (25, true)⟩,
  ⟨some 33, .load1 (.t 32), some (25, true)⟩,
  ⟨some 34, .ixStr (.t 29) (.t 33), some (25, true)⟩,
  ⟨some 35, .bin .eql (.t 34) (.c (.int .u8 32)), some (25, true)⟩,
  ⟨some 36, .pick (.t 25) (.t 35) (.c (.bool false)), none⟩]
def f138r1 : List AIns := [⟨some 37, .mov (.t 0), none⟩,
  ⟨some 38, .nilCheck (.t 37), none⟩,
  ⟨some 39, .addOff 1 (.t 38), none⟩,
  ⟨some 40, .load1 (.t 39), none⟩,
  ⟨some 41, .bin .add (.t 40) (.c (.int .i64 1)), none⟩,
  ⟨some 42, .nilCheck (.t 37), none⟩,
  ⟨some 43, .addOff 1 (.t 42), none⟩,
  ⟨none, .store 1 (.t 43) (.t 41), none⟩]
def f138l2 : ACode := (.seq (.seq (.regD f138r0 [(0, []), (1, []), (2, []), (3, []), (4, []), (5, []), (6, []), (7, []), (8, []), (9, []), (10, []), (11, []), (12, []), (13, []), (14, []), (15, []), (16, []), (17, []), (18, []), (19, []), (20, []), (21, []), (22, []), (23, []), (24, []), (25, []), (26, []), (27, []), (28, []), (29, []), (30, []), (31, []), (32, []), (33, []), (34, [])]) (.cond (.t 36) .skip (.exit 0))) (.block 1 (.reg f138r1)))
def f138b : ACode := (.block 0 (.loop f138l2))
def f138 : AFn := ⟨44, f138b, [], .plain⟩
theorem f138_is : cFn Try.prog .plain 138 = some f138 := by kernel_rfl
def f157r0 : List AIns := [⟨some 2, .box 44 (.t 0), none⟩,
  ⟨some 3, .box 44 (.t 1), none⟩,
  ⟨some 4, .alloc 46 [(.int .i64 0), (.int .i64 0), (.int .i64 0), (.int .i64 0)], none⟩,
  ⟨some 5, .mov (.c (.int .i64 0)), none⟩]
def f157r1 : List AIns := [⟨some 7, .loadN 2 (.t 2), none⟩,
  ⟨some 8, .call (.c (.func (.func 104) #[] #[])) [(.t 7)], none⟩,
  ⟨some 9, .loadN 2 (.t 3), none⟩,
  ⟨some 10, .call (.c (.func (.func 104) #[] #[])) [(.t 9)], none⟩,
  ⟨some 11, .build [(.int .i64 0), (.int .i64 0), (.int .i64 0), (.int .i64 0)] [(0, 2, (.t 8)), (2, 2, (.t 10))], none⟩,
  ⟨some 6, .alloc 46 [(.int .i64 0), (.int .i64 0), (.int .i64 0), (.int .i64 0)], none⟩,
  ⟨none, .store 4 (.t 6) (.t 11), none⟩]
def f157r2 : List AIns := [⟨some 12, .loadN 4 (.t 6), none⟩,
  ⟨some 13, .call (.c (.func (.func 71) #[] #[])) [(.t 12)], none⟩,
  ⟨some 14, .un .not (.t 13), none⟩]
def f157r3 : List AIns := [⟨some 15, .build [(.int .i64 0), (.int .i64 0), (.int .i64 0), (.int .i64 0)] [], none⟩,
  ⟨none, .store 4 (.t 4) (.t 15), none⟩,
  ⟨some 5, .mov (.c (.int .i64 30)), none⟩]
def f157r4 : List AIns := [⟨some 16, .loadN 4 (.t 6), none⟩,
  ⟨none, .store 4 (.t 4) (.t 16), none⟩,
  ⟨some 5, .mov (.c (.int .i64 0)), none⟩]
def f157b : ACode := (.seq (.reg f157r0) (.seq (.regD f157r1 [(0, []), (2, []), (5, []), (1, [2]), (3, []), (4, []), (6, [])]) (.seq (.seq (.reg f157r2) (.cond (.t 14) (.seq (.reg f157r3) .ret) .skip)) (.seq (.reg f157r4) .ret))))
def f157 : AFn := ⟨17, f157b, [.cellN 4 4, .tmp 5], .pure⟩
theorem f157_is : cFn Try.prog .pure 157 = some f157 := by kernel_rfl
def f158r0 : List AIns := [⟨some 2, .mov (.c (.bool false)), none⟩]
def f158r1 : List AIns := [⟨some 3, .mov (.t 0), none⟩,
  ⟨some 4, .mov (.t 0), none⟩,
  ⟨some 5, .bin .neq (.t 3) (.t 4), none⟩,
  ⟨some 2, .mov (.t 5), none⟩]
def f158b : ACode := (.seq (.reg f158r0) (.seq (.reg f158r1) .ret))
def f158 : AFn := ⟨6, f158b, [.tmp 2], .pure⟩
theorem f158_is : cFn Try.prog .pure 158 = some f158 := by kernel_rfl
def f159r0 : List AIns := [⟨some 2, .mov (.c (.bool false)), none⟩]
def f159r1 : List AIns := [⟨some 3, .mov (.t 0), none⟩,
  ⟨some 4, .mov (.t 0), none⟩,
  ⟨some 5, .bin .neq (.t 3) (.t 4), none⟩,
  ⟨some 2, .mov (.t 5), none⟩]
def f159b : ACode := (.seq (.reg f159r0) (.seq (.reg f159r1) .ret))
def f159 : AFn := ⟨6, f159b, [.tmp 2], .pure⟩
theorem f159_is : cFn Try.prog .pure 159 = some f159 := by kernel_rfl
def f168r0 : List AIns := [⟨some 4, .mov (.c (.bool false)), none⟩]
def f168r1 : List AIns := [⟨some 5, .mov (.t 0), none⟩,
  ⟨some 6, .lenStr (.t 5), none⟩,
  ⟨some 7, .mov (.t 1), none⟩,
  ⟨some 8, .lenStr (.t 7), none⟩,
  ⟨some 9, .bin .geq (.t 6) (.t 8), none⟩,
  ⟨some 10, .mov (.t 9), none⟩,
  ⟨some 11, .mov (.t 0), some (10, true)⟩,
  ⟨some 12, .mov (.t 1), some (10, true)⟩,
  ⟨some 13, .lenStr (.t 12), some (10, true)⟩,
  ⟨some 14, .sliceStr (.t 11) none (some (.t 13)), some (10, true)⟩,
  ⟨some 15, .mov (.t 1), some (10, true)⟩,
  ⟨some 16, .bin .eql (.t 14) (.t 15), some (10, true)⟩,
  ⟨some 17, .pick (.t 10) (.t 16) (.c (.bool false)), none⟩,
  ⟨some 4, .mov (.t 17), none⟩]
def f168b : ACode := (.seq (.reg f168r0) (.seq (.reg f168r1) .ret))
def f168 : AFn := ⟨18, f168b, [.tmp 4], .pure⟩
theorem f168_is : cFn Try.prog .pure 168 = some f168 := by kernel_rfl
def f169r0 : List AIns := [⟨some 2, .alloc 44 [(.int .i64 0), (.int .i64 0)], none⟩,
  ⟨some 3, .mov (.c (.int .i64 0)), none⟩]
def f169r1 : List AIns := [⟨some 7, .mov (.t 0), none⟩,
  ⟨some 8, .call (.c (.func (.func 184) #[] #[])) [(.t 7), (.c (.string ⟨#[45, 105, 110, 102]⟩))], none⟩,
  ⟨some 6, .mov (.t 8), none⟩]
def f169r2 : List AIns := [⟨some 9, .call (.c (.func (.func 90) #[] #[])) [], none⟩,
  ⟨none, .store 2 (.t 2) (.t 9), none⟩,
  ⟨some 3, .mov (.c (.int .i64 4)), none⟩]
def f169r3 : List AIns := [⟨some 11, .mov (.t 0), none⟩,
  ⟨some 12, .call (.c (.func (.func 184) #[] #[])) [(.t 11), (.c (.string ⟨#[43, 105, 110, 102]⟩))], none⟩,
  ⟨some 10, .mov (.t 12), none⟩]
def f169r4 : List AIns := [⟨some 13, .call (.c (.func (.func 117) #[] #[])) [], none⟩,
  ⟨none, .store 2 (.t 2) (.t 13), none⟩,
  ⟨some 3, .mov (.c (.int .i64 4)), none⟩]
def f169r5 : List AIns := [⟨some 15, .mov (.t 0), none⟩,
  ⟨some 16, .call (.c (.func (.func 115) #[] #[])) [(.t 15)], none⟩,
  ⟨some 14, .mov (.t 16), none⟩,
  ⟨some 17, .extract (.t 14) 0, none⟩,
  ⟨some 18, .extract (.t 14) 1, none⟩,
  ⟨some 4, .mov (.t 17), none⟩,
  ⟨some 5, .mov (.t 18), none⟩]
def f169r6 : List AIns := [⟨some 19, .mov (.t 5), none⟩,
  ⟨some 20, .bin .gtr (.t 19) (.c (.int .i64 0)), none⟩,
  ⟨some 21, .mov (.t 20), none⟩,
  ⟨some 22, .mov (.t 4), some (21, true)⟩,
  ⟨some 23, .bin .eql (.t 22) (.c (.int .i64 (-9223372036854775808))), some (21, true)⟩,
  ⟨some 24, .pick (.t 21) (.t 23) (.c (.bool false)), none⟩]
def f169r7 : List AIns := [⟨some 26, .mov (.t 0), none⟩,
  ⟨some 27, .mov (.t 5), none⟩,
  ⟨some 28, .bin .sub (.t 27) (.c (.int .i64 1)), none⟩,
  ⟨some 29, .sliceStr (.t 26) none (some (.t 28)), none⟩,
  ⟨some 30, .call (.c (.func (.func 115) #[] #[])) [(.t 29)], none⟩,
  ⟨some 25, .mov (.t 30), none⟩,
  ⟨some 31, .extract (.t 25) 0, none⟩,
  ⟨some 32, .extract (.t 25) 1, none⟩,
  ⟨some 4, .mov (.t 31), none⟩,
  ⟨some 5, .mov (.t 32), none⟩]
def f169l8 : ACode := (.seq (.seq (.reg f169r6) (.cond (.t 24) .skip (.exit 1))) (.block 2 (.reg f169r7)))
def f169r9 : List AIns := [⟨some 33, .mov (.t 5), none⟩,
  ⟨some 34, .bin .eql (.t 33) (.c (.int .i64 0)), none⟩]
def f169r10 : List AIns := [⟨some 35, .build [(.int .i64 0), (.int .i64 0)] [], none⟩,
  ⟨none, .store 2 (.t 2) (.t 35), none⟩,
  ⟨some 3, .mov (.c (.int .i64 0)), none⟩]
def f169r11 : List AIns := [⟨some 36, .mov (.t 4), none⟩,
  ⟨some 37, .build [(.int .i64 0), (.int .i64 0)] [(1, 1, (.t 36))], none⟩,
  ⟨some 38, .mov (.t 5), none⟩,
  ⟨none, .store 2 (.t 2) (.t 37), none⟩,
  ⟨some 3, .mov (.t 38), none⟩]
def f169b : ACode := (.seq (.reg f169r0) (.seq (.block 0 (.seq (.reg f169r1) (.cond (.t 6) (.seq (.reg f169r2) .ret) (.seq (.reg f169r3) (.cond (.t 10) (.seq (.reg f169r4) .ret) .skip))))) (.seq (.reg f169r5) (.seq (.block 1 (.loop f169l8)) (.seq (.seq (.reg f169r9) (.cond (.t 34) (.seq (.reg f169r10) .ret) .skip)) (.seq (.reg f169r11) .ret))))))
def f169 : AFn := ⟨39, f169b, [.cellN 2 2, .tmp 3], .pure⟩
theorem f169_is : cFn Try.prog .pure 169 = some f169 := by kernel_rfl
def f170r0 : List AIns := [⟨some 2, .box 148 (.t 0), none⟩,
  ⟨some 3, .box 148 (.t 1), none⟩,
  ⟨some 4, .alloc 46 [(.int .i64 0), (.int .i64 0), (.int .i64 0), (.int .i64 0)], none⟩,
  ⟨some 5, .mov (.c (.int .i64 0)), none⟩]
def f170r1 : List AIns := [⟨some 8, .loadN 2 (.t 2), none⟩,
  ⟨some 9, .call (.c (.func (.func 185) #[] #[])) [(.t 8)], none⟩,
  ⟨some 10, .un .not (.t 9), none⟩,
  ⟨some 11, .mov (.t 10), none⟩,
  ⟨some 12, .loadN 2 (.t 3), some (11, false)⟩,
  ⟨some 13, .call (.c (.func (.func 185) #[] #[])) [(.t 12)], some (11, false)⟩,
  ⟨some 14, .un .not (.t 13), some (11, false)⟩,
  ⟨some 15, .pick (.t 11) (.c (.bool true)) (.t 14), none⟩]
def f170r2 : List AIns := [⟨some 16, .build [(.int .i64 0), (.int .i64 0), (.int .i64 0), (.int .i64 0)] [], none⟩,
  ⟨none, .store 4 (.t 4) (.t 16), none⟩,
  ⟨some 5, .mov (.c (.int .i64 40)), none⟩]
def f170r3 : List AIns := [⟨some 17, .call (.c (.func (.func 90) #[] #[])) [], none⟩,
  ⟨some 18, .call (.c (.func (.func 117) #[] #[])) [], none⟩,
  ⟨some 6, .alloc 44 [(.int .i64 0), (.int .i64 0)], none⟩,
  ⟨some 7, .alloc 44 [(.int .i64 0), (.int .i64 0)], none⟩,
  ⟨none, .store 2 (.t 6) (.t 17), none⟩,
  ⟨none, .store 2 (.t 7) (.t 18), none⟩]
def f170r4 : List AIns := [⟨some 19, .addOff 0 (.t 2), none⟩,
  ⟨some 20, .load1 (.t 19), none⟩]
def f170r5 : List AIns := [⟨some 22, .bin .eql (.t 20) (.c (.int .i64 1)), none⟩,
  ⟨some 21, .mov (.t 22), none⟩]
def f170r6 : List AIns := [⟨some 23, .addOff 1 (.t 2), none⟩,
  ⟨some 24, .load1 (.t 23), none⟩,
  ⟨some 25, .call (.c (.func (.func 186) #[] #[])) [(.t 24)], none⟩,
  ⟨none, .store 2 (.t 6) (.t 25), none⟩]
def f170r7 : List AIns := [⟨some 27, .bin .eql (.t 20) (.c (.int .i64 2)), none⟩,
  ⟨some 26, .mov (.t 27), none⟩]
def f170r8 : List AIns := [⟨some 28, .addOff 1 (.t 2), none⟩,
  ⟨some 29, .load1 (.t 28), none⟩,
  ⟨some 30, .call (.c (.func (.func 187) #[] #[])) [(.t 29)], none⟩,
  ⟨none, .store 2 (.t 6) (.t 30), none⟩]
def f170r9 : List AIns := [⟨some 31, .addOff 0 (.t 3), none⟩,
  ⟨some 32, .load1 (.t 31), none⟩]
def f170r10 : List AIns := [⟨some 34, .bin .eql (.t 32) (.c (.int .i64 1)), none⟩,
  ⟨some 33, .mov (.t 34), none⟩]
def f170r11 : List AIns := [⟨some 35, .addOff 1 (.t 3), none⟩,
  ⟨some 36, .load1 (.t 35), none⟩,
  ⟨some 37, .call (.c (.func (.func 187) #[] #[])) [(.t 36)], none⟩,
  ⟨none, .store 2 (.t 7) (.t 37), none⟩]
def f170r12 : List AIns := [⟨some 39, .bin .eql (.t 32) (.c (.int .i64 2)), none⟩,
  ⟨some 38, .mov (.t 39), none⟩]
def f170r13 : List AIns := [⟨some 40, .addOff 1 (.t 3), none⟩,
  ⟨some 41, .load1 (.t 40), none⟩,
  ⟨some 42, .call (.c (.func (.func 186) #[] #[])) [(.t 41)], none⟩,
  ⟨none, .store 2 (.t 7) (.t 42), none⟩]
def f170r14 : List AIns := [⟨some 43, .loadN 2 (.t 6), none⟩,
  ⟨some 44, .loadN 2 (.t 7), none⟩,
  ⟨some 45, .call (.c (.func (.func 157) #[] #[])) [(.t 43), (.t 44)], none⟩,
  ⟨some 46, .extract (.t 45) 0, none⟩,
  ⟨some 47, .extract (.t 45) 1, none⟩,
  ⟨none, .store 4 (.t 4) (.t 46), none⟩,
  ⟨some 5, .mov (.t 47), none⟩]
def f170b : ACode := (.seq (.reg f170r0) (.seq (.seq (.reg f170r1) (.cond (.t 15) (.seq (.reg f170r2) .ret) .skip)) (.seq (.reg f170r3) (.seq (.seq (.reg f170r4) (.block 0 (.seq (.reg f170r5) (.cond (.t 21) (.reg f170r6) (.seq (.reg f170r7) (.cond (.t 26) (.reg f170r8) .skip)))))) (.seq (.seq (.reg f170r9) (.block 1 (.seq (.reg f170r10) (.cond (.t 33) (.reg f170r11) (.seq (.reg f170r12) (.cond (.t 38) (.reg f170r13) .skip)))))) (.seq (.reg f170r14) .ret))))))
def f170 : AFn := ⟨48, f170b, [.cellN 4 4, .tmp 5], .pure⟩
theorem f170_is : cFn Try.prog .pure 170 = some f170 := by kernel_rfl
def f184r0 : List AIns := [⟨some 4, .mov (.c (.bool false)), none⟩]
def f184r1 : List AIns := [⟨some 5, .mov (.t 0), none⟩,
  ⟨some 6, .lenStr (.t 5), none⟩,
  ⟨some 7, .mov (.t 1), none⟩,
  ⟨some 8, .lenStr (.t 7), none⟩,
  ⟨some 9, .bin .geq (.t 6) (.t 8), none⟩,
  ⟨some 10, .mov (.t 9), none⟩,
  ⟨some 11, .mov (.t 0), some (10, true)⟩,
  ⟨some 12, .mov (.t 1), some (10, true)⟩,
  ⟨some 13, .lenStr (.t 12), some (10, true)⟩,
  ⟨some 14, .sliceStr (.t 11) none (some (.t 13)), some (10, true)⟩,
  ⟨some 15, .mov (.t 1), some (10, true)⟩,
  ⟨some 16, .bin .eql (.t 14) (.t 15), some (10, true)⟩,
  ⟨some 17, .pick (.t 10) (.t 16) (.c (.bool false)), none⟩,
  ⟨some 4, .mov (.t 17), none⟩]
def f184b : ACode := (.seq (.reg f184r0) (.seq (.reg f184r1) .ret))
def f184 : AFn := ⟨18, f184b, [.tmp 4], .pure⟩
theorem f184_is : cFn Try.prog .pure 184 = some f184 := by kernel_rfl
def f185r0 : List AIns := [⟨some 1, .box 148 (.t 0), none⟩,
  ⟨some 2, .mov (.c (.bool false)), none⟩]
def f185r1 : List AIns := [⟨some 3, .addOff 0 (.t 1), none⟩,
  ⟨some 4, .load1 (.t 3), none⟩,
  ⟨some 5, .bin .geq (.t 4) (.c (.int .i64 0)), none⟩,
  ⟨some 6, .mov (.t 5), none⟩,
  ⟨some 7, .addOff 0 (.t 1), some (6, true)⟩,
  ⟨some 8, .load1 (.t 7), some (6, true)⟩,
  ⟨some 9, .bin .leq (.t 8) (.c (.int .i64 2)), some (6, true)⟩,
  ⟨some 10, .pick (.t 6) (.t 9) (.c (.bool false)), none⟩,
  ⟨some 2, .mov (.t 10), none⟩]
def f185b : ACode := (.seq (.reg f185r0) (.seq (.reg f185r1) .ret))
def f185 : AFn := ⟨11, f185b, [.tmp 2], .pure⟩
theorem f185_is : cFn Try.prog .pure 185 = some f185 := by kernel_rfl
def f186r0 : List AIns := [⟨some 2, .alloc 44 [(.int .i64 0), (.int .i64 0)], none⟩]
def f186r1 : List AIns := [⟨some 3, .mov (.t 0), none⟩,
  ⟨some 4, .bin .eql (.t 3) (.c (.int .i64 9223372036854775807)), none⟩]
def f186r2 : List AIns := [⟨some 5, .call (.c (.func (.func 117) #[] #[])) [], none⟩,
  ⟨none, .store 2 (.t 2) (.t 5), none⟩]
def f186r3 : List AIns := [⟨some 6, .mov (.t 0), none⟩,
  ⟨some 7, .bin .add (.t 6) (.c (.int .i64 1)), none⟩,
  ⟨some 8, .build [(.int .i64 0), (.int .i64 0)] [(1, 1, (.t 7))], none⟩,
  ⟨none, .store 2 (.t 2) (.t 8), none⟩]
def f186b : ACode := (.seq (.reg f186r0) (.seq (.seq (.reg f186r1) (.cond (.t 4) (.seq (.reg f186r2) .ret) .skip)) (.seq (.reg f186r3) .ret)))
def f186 : AFn := ⟨9, f186b, [.cellN 2 2], .pure⟩
theorem f186_is : cFn Try.prog .pure 186 = some f186 := by kernel_rfl
def f187r0 : List AIns := [⟨some 2, .alloc 44 [(.int .i64 0), (.int .i64 0)], none⟩]
def f187r1 : List AIns := [⟨some 3, .mov (.t 0), none⟩,
  ⟨some 4, .build [(.int .i64 0), (.int .i64 0)] [(1, 1, (.t 3))], none⟩,
  ⟨some 5, .call (.c (.func (.func 104) #[] #[])) [(.t 4)], none⟩,
  ⟨none, .store 2 (.t 2) (.t 5), none⟩]
def f187b : ACode := (.seq (.reg f187r0) (.seq (.reg f187r1) .ret))
def f187 : AFn := ⟨6, f187b, [.cellN 2 2], .pure⟩
theorem f187_is : cFn Try.prog .pure 187 = some f187 := by kernel_rfl
def flS (g : FuncId) : Flag := if [47, 50, 77, 78, 84, 85, 87, 88, 93, 96, 101, 105, 106, 109, 110, 118, 125, 127, 130, 132, 133, 134, 137, 138, 147, 148, 149, 150, 151, 152, 153, 154, 160, 161, 162, 163, 164, 165, 166, 167, 176, 178, 179, 180, 181, 182, 183, 190, 191].contains g then .plain else if [].contains g then .state else .pure
end Go.Proofs.Ytlgbeekhaoiggaa
end
