import Derived.Test.YtlgbeekhaoiggaaAmI
import Derived.Test.YtlgbeekhaoiggaaAmA
import Derived.Test.YtlgbeekhaoiggaaRows
set_option linter.all false
section
namespace Go.Proofs.Ytlgbeekhaoiggaa
open Go.AM
@[simp] def f7r0 : List AIns := [⟨some 4, .mov (.c (.bool false)), none⟩]
@[simp] def f7r1 : List AIns := [⟨some 5, .mov (.t 0), none⟩,
  ⟨some 6, .len (.t 5), none⟩,
  ⟨some 7, .mov (.t 1), none⟩,
  ⟨some 8, .len (.t 7), none⟩,
  ⟨some 9, .bin .add (.t 6) (.t 8), none⟩,
  ⟨some 10, .bin .gtr (.t 9) (.c (.int .i64 40)), none⟩]
@[simp] def f7r2 : List AIns := [⟨some 11, .call (.c (.func (.func 25) #[] #[])) [], none⟩,
  ⟨some 4, .mov (.t 11), none⟩]
@[simp] def f7r3 : List AIns := [⟨some 12, .mov (.t 0), none⟩,
  ⟨some 13, .mov (.t 1), none⟩,
  ⟨some 14, .call (.c (.func (.func 26) #[] #[])) [(.t 12), (.t 13)], none⟩,
  ⟨some 15, .mov (.t 0), none⟩,
  ⟨some 16, .mov (.t 1), none⟩,
  ⟨some 17, .call (.c (.func (.func 27) #[] #[])) [(.t 15), (.t 16)], none⟩,
  ⟨some 18, .call (.c (.func (.func 16) #[] #[])) [(.t 14), (.t 17)], none⟩,
  ⟨some 19, .un .not (.t 18), none⟩,
  ⟨some 20, .mov (.t 19), none⟩,
  ⟨some 21, .mov (.t 0), some (20, false)⟩,
  ⟨some 22, .mov (.t 1), some (20, false)⟩,
  ⟨some 23, .call (.c (.func (.func 28) #[] #[])) [(.t 21), (.t 22)], some (20, false)⟩,
  ⟨some 24, .mov (.t 0), some (20, false)⟩,
  ⟨some 25, .mov (.t 1), some (20, false)⟩,
  ⟨some 26, .call (.c (.func (.func 29) #[] #[])) [(.t 24), (.t 25)], some (20, false)⟩,
  ⟨some 27, .call (.c (.func (.func 16) #[] #[])) [(.t 23), (.t 26)], some (20, false)⟩,
  ⟨some 28, .un .not (.t 27), some (20, false)⟩,
  ⟨some 29, .pick (.t 20) (.c (.bool true)) (.t 28), none⟩,
  ⟨some 30, .mov (.t 29), none⟩,
  ⟨some 31, .mov (.t 0), some (30, false)⟩,
  ⟨some 32, .mov (.t 1), some (30, false)⟩,
  ⟨some 33, .call (.c (.func (.func 30) #[] #[])) [(.t 31), (.t 32)], some (30, false)⟩,
  ⟨some 34, .mov (.t 0), some (30, false)⟩,
  ⟨some 35, .mov (.t 1), some (30, false)⟩,
  ⟨some 36, .call (.c (.func (.func 31) #[] #[])) [(.t 34), (.t 35)], some (30, false)⟩,
  ⟨some 37, .call (.c (.func (.func 16) #[] #[])) [(.t 33), (.t 36)], some (30, false)⟩,
  ⟨some 38, .un .not (.t 37), some (30, false)⟩,
  ⟨some 39, .pick (.t 30) (.c (.bool true)) (.t 38), none⟩,
  ⟨some 40, .mov (.t 39), none⟩,
  ⟨some 41, .mov (.t 0), some (40, false)⟩,
  ⟨some 42, .mov (.t 1), some (40, false)⟩,
  ⟨some 43, .call (.c (.func (.func 32) #[] #[])) [(.t 41), (.t 42)], some (40, false)⟩,
  ⟨some 44, .mov (.t 0), some (40, false)⟩,
  ⟨some 45, .mov (.t 1), some (40, false)⟩,
  ⟨some 46, .call (.c (.func (.func 33) #[] #[])) [(.t 44), (.t 45)], some (40, false)⟩,
  ⟨some 47, .call (.c (.func (.func 16) #[] #[])) [(.t 43), (.t 46)], some (40, false)⟩,
  ⟨some 48, .un .not (.t 47), some (40, false)⟩,
  ⟨some 49, .pick (.t 40) (.c (.bool true)) (.t 48), none⟩]
@[simp] def f7r4 : List AIns := [⟨some 4, .mov (.c (.bool false)), none⟩]
@[simp] def f7r5 : List AIns := [⟨some 50, .call (.c (.func (.func 25) #[] #[])) [], none⟩,
  ⟨some 51, .mov (.t 50), none⟩,
  ⟨some 52, .mov (.t 0), some (51, true)⟩,
  ⟨some 53, .mov (.t 1), some (51, true)⟩,
  ⟨some 54, .call (.c (.func (.func 34) #[] #[])) [(.t 52), (.t 53)], some (51, true)⟩,
  ⟨some 55, .mov (.t 0), some (51, true)⟩,
  ⟨some 56, .mov (.t 1), some (51, true)⟩,
  ⟨some 57, .call (.c (.func (.func 31) #[] #[])) [(.t 55), (.t 56)], some (51, true)⟩,
  ⟨some 58, .len (.t 57), some (51, true)⟩,
  ⟨some 59, .bin .eql (.t 58) (.c (.int .i64 0)), some (51, true)⟩,
  ⟨some 60, .eqv false [.b] false (.t 54) (.t 59), some (51, true)⟩,
  ⟨some 61, .pick (.t 51) (.t 60) (.c (.bool false)), none⟩,
  ⟨some 62, .mov (.t 61), none⟩,
  ⟨some 63, .mov (.t 0), some (62, true)⟩,
  ⟨some 64, .mov (.t 1), some (62, true)⟩,
  ⟨some 65, .call (.c (.func (.func 35) #[] #[])) [(.t 63), (.t 64)], some (62, true)⟩,
  ⟨some 66, .mov (.t 0), some (62, true)⟩,
  ⟨some 67, .mov (.t 1), some (62, true)⟩,
  ⟨some 68, .call (.c (.func (.func 33) #[] #[])) [(.t 66), (.t 67)], some (62, true)⟩,
  ⟨some 69, .len (.t 68), some (62, true)⟩,
  ⟨some 70, .bin .eql (.t 69) (.c (.int .i64 0)), some (62, true)⟩,
  ⟨some 71, .eqv false [.b] false (.t 65) (.t 70), some (62, true)⟩,
  ⟨some 72, .pick (.t 62) (.t 71) (.c (.bool false)), none⟩,
  ⟨some 4, .mov (.t 72), none⟩]
@[simp] def f7b : ACode := (.seq (.reg f7r0) (.seq (.seq (.reg f7r1) (.cond (.t 10) (.seq (.reg f7r2) .ret) .skip)) (.seq (.seq (.reg f7r3) (.cond (.t 49) (.seq (.reg f7r4) .ret) .skip)) (.seq (.reg f7r5) .ret))))
def f7 : AFn := ⟨73, f7b, [.tmp 4], .pure⟩
theorem f7_is : cFn Try.prog .pure 7 = some f7 := by kernel_rfl
@[simp] def f8r0 : List AIns := [⟨some 4, .mov (.c (.bool false)), none⟩]
@[simp] def f8r1 : List AIns := [⟨some 11, .mov (.t 0), none⟩,
  ⟨some 12, .len (.t 11), none⟩,
  ⟨some 13, .mov (.t 1), none⟩,
  ⟨some 14, .len (.t 13), none⟩,
  ⟨some 15, .bin .add (.t 12) (.t 14), none⟩,
  ⟨some 16, .bin .gtr (.t 15) (.c (.int .i64 40)), none⟩]
@[simp] def f8r2 : List AIns := [⟨some 17, .call (.c (.func (.func 25) #[] #[])) [], none⟩,
  ⟨some 4, .mov (.t 17), none⟩]
@[simp] def f8r3 : List AIns := [⟨some 18, .mov (.t 0), none⟩,
  ⟨some 19, .mov (.t 1), none⟩,
  ⟨some 20, .call (.c (.func (.func 36) #[] #[])) [(.t 18), (.t 19)], none⟩,
  ⟨some 5, .mov (.t 20), none⟩]
@[simp] def f8r4 : List AIns := [⟨some 21, .buildSlice 46 0 [] [], none⟩,
  ⟨some 22, .mov (.t 0), none⟩,
  ⟨some 23, .append 46 4 32 (.t 21) (.t 22), none⟩,
  ⟨some 24, .mov (.t 1), none⟩,
  ⟨some 25, .append 46 4 32 (.t 23) (.t 24), none⟩,
  ⟨some 26, .call (.c (.func (.func 37) #[] #[])) [(.t 25)], none⟩,
  ⟨some 6, .mov (.t 26), none⟩]
@[simp] def f8r5 : List AIns := [⟨some 27, .mov (.t 5), none⟩,
  ⟨some 28, .len (.t 27), none⟩,
  ⟨some 29, .mov (.c (.int .i64 0)), none⟩]
@[simp] def f8r6 : List AIns := [⟨some 30, .bin .lss (.t 29) (.t 28), none⟩]
@[simp] def f8r7 : List AIns := [⟨some 31, .idxA 4 (.t 27) (.t 29), none⟩,
  ⟨some 32, .loadN 4 (.t 31), none⟩,
  ⟨some 8, .alloc 46 [(.int .i64 0), (.int .i64 0), (.int .i64 0), (.int .i64 0)], none⟩,
  ⟨none, .store 4 (.t 8) (.t 32), none⟩]
@[simp] def f8r8 : List AIns := [⟨some 33, .mov (.t 6), none⟩,
  ⟨some 34, .len (.t 33), none⟩,
  ⟨some 35, .mov (.c (.int .i64 0)), none⟩]
@[simp] def f8r9 : List AIns := [⟨some 36, .bin .lss (.t 35) (.t 34), none⟩]
@[simp] def f8r10 : List AIns := [⟨some 37, .idxA 2 (.t 33) (.t 35), none⟩,
  ⟨some 38, .loadN 2 (.t 37), none⟩,
  ⟨some 10, .alloc 44 [(.int .i64 0), (.int .i64 0)], none⟩,
  ⟨none, .store 2 (.t 10) (.t 38), none⟩]
@[simp] def f8r11 : List AIns := [⟨some 39, .addOff 0 (.t 8), none⟩,
  ⟨some 40, .loadN 2 (.t 39), none⟩,
  ⟨some 41, .loadN 2 (.t 10), none⟩,
  ⟨some 42, .call (.c (.func (.func 38) #[] #[])) [(.t 40), (.t 41)], none⟩,
  ⟨some 43, .mov (.t 42), none⟩,
  ⟨some 44, .loadN 2 (.t 10), some (43, true)⟩,
  ⟨some 45, .addOff 2 (.t 8), some (43, true)⟩,
  ⟨some 46, .loadN 2 (.t 45), some (43, true)⟩,
  ⟨some 47, .call (.c (.func (.func 38) #[] #[])) [(.t 44), (.t 46)], some (43, true)⟩,
  ⟨some 48, .pick (.t 43) (.t 47) (.c (.bool false)), none⟩]
@[simp] def f8r12 : List AIns := [⟨some 4, .mov (.c (.bool false)), none⟩]
@[simp] def f8r13 : List AIns := [⟨some 49, .bin .add (.t 35) (.c (.int .i64 1)), none⟩,
  ⟨some 35, .mov (.t 49), none⟩]
@[simp] def f8l14 : ACode := (.seq (.reg f8r9) (.seq (.cond (.t 36) .skip (.exit 2)) (.seq (.block 3 (.seq (.reg f8r10) (.seq (.reg f8r11) (.cond (.t 48) (.seq (.reg f8r12) .ret) .skip)))) (.reg f8r13))))
@[simp] def f8r15 : List AIns := [⟨some 50, .bin .add (.t 29) (.c (.int .i64 1)), none⟩,
  ⟨some 29, .mov (.t 50), none⟩]
@[simp] def f8l16 : ACode := (.seq (.reg f8r6) (.seq (.cond (.t 30) .skip (.exit 0)) (.seq (.block 1 (.seq (.reg f8r7) (.seq (.reg f8r8) (.block 2 (.loop f8l14))))) (.reg f8r15))))
@[simp] def f8r17 : List AIns := [⟨some 51, .call (.c (.func (.func 25) #[] #[])) [], none⟩,
  ⟨some 52, .mov (.t 51), none⟩,
  ⟨some 53, .mov (.t 5), some (52, true)⟩,
  ⟨some 54, .mov (.t 0), some (52, true)⟩,
  ⟨some 55, .mov (.t 1), some (52, true)⟩,
  ⟨some 56, .call (.c (.func (.func 39) #[] #[])) [(.t 54), (.t 55)], some (52, true)⟩,
  ⟨some 57, .call (.c (.func (.func 16) #[] #[])) [(.t 53), (.t 56)], some (52, true)⟩,
  ⟨some 58, .pick (.t 52) (.t 57) (.c (.bool false)), none⟩,
  ⟨some 59, .mov (.t 58), none⟩,
  ⟨some 60, .mov (.t 0), some (59, true)⟩,
  ⟨some 61, .call (.c (.func (.func 37) #[] #[])) [(.t 60)], some (59, true)⟩,
  ⟨some 62, .mov (.t 0), some (59, true)⟩,
  ⟨some 63, .call (.c (.func (.func 41) #[] #[])) [(.t 62)], some (59, true)⟩,
  ⟨some 64, .call (.c (.func (.func 40) #[] #[])) [(.t 61), (.t 63)], some (59, true)⟩,
  ⟨some 65, .pick (.t 59) (.t 64) (.c (.bool false)), none⟩,
  ⟨some 66, .mov (.t 65), none⟩,
  ⟨some 67, .mov (.t 5), some (66, true)⟩,
  ⟨some 68, .call (.c (.func (.func 42) #[] #[])) [(.t 67)], some (66, true)⟩,
  ⟨some 69, .mov (.t 0), some (66, true)⟩,
  ⟨some 70, .call (.c (.func (.func 42) #[] #[])) [(.t 69)], some (66, true)⟩,
  ⟨some 71, .call (.c (.func (.func 16) #[] #[])) [(.t 68), (.t 70)], some (66, true)⟩,
  ⟨some 72, .pick (.t 66) (.t 71) (.c (.bool false)), none⟩,
  ⟨some 4, .mov (.t 72), none⟩]
@[simp] def f8b : ACode := (.seq (.reg f8r0) (.seq (.seq (.reg f8r1) (.cond (.t 16) (.seq (.reg f8r2) .ret) .skip)) (.seq (.reg f8r3) (.seq (.reg f8r4) (.seq (.seq (.reg f8r5) (.block 0 (.loop f8l16))) (.seq (.reg f8r17) .ret))))))
def f8 : AFn := ⟨73, f8b, [.tmp 4], .pure⟩
theorem f8_is : cFn Try.prog .pure 8 = some f8 := by kernel_rfl
@[simp] def f9r0 : List AIns := [⟨some 6, .mov (.c (.bool false)), none⟩]
@[simp] def f9r1 : List AIns := [⟨some 9, .mov (.t 0), none⟩,
  ⟨some 10, .len (.t 9), none⟩,
  ⟨some 11, .mov (.t 1), none⟩,
  ⟨some 12, .len (.t 11), none⟩,
  ⟨some 13, .bin .add (.t 10) (.t 12), none⟩,
  ⟨some 14, .mov (.t 2), none⟩,
  ⟨some 15, .len (.t 14), none⟩,
  ⟨some 16, .bin .add (.t 13) (.t 15), none⟩,
  ⟨some 17, .bin .gtr (.t 16) (.c (.int .i64 40)), none⟩]
@[simp] def f9r2 : List AIns := [⟨some 18, .call (.c (.func (.func 25) #[] #[])) [], none⟩,
  ⟨some 6, .mov (.t 18), none⟩]
@[simp] def f9r3 : List AIns := [⟨some 19, .mov (.t 0), none⟩,
  ⟨some 20, .mov (.t 1), none⟩,
  ⟨some 21, .call (.c (.func (.func 26) #[] #[])) [(.t 19), (.t 20)], none⟩,
  ⟨some 22, .mov (.t 1), none⟩,
  ⟨some 23, .mov (.t 0), none⟩,
  ⟨some 24, .call (.c (.func (.func 26) #[] #[])) [(.t 22), (.t 23)], none⟩,
  ⟨some 25, .call (.c (.func (.func 16) #[] #[])) [(.t 21), (.t 24)], none⟩,
  ⟨some 26, .un .not (.t 25), none⟩,
  ⟨some 27, .mov (.t 26), none⟩,
  ⟨some 28, .mov (.t 0), some (27, false)⟩,
  ⟨some 29, .mov (.t 1), some (27, false)⟩,
  ⟨some 30, .call (.c (.func (.func 28) #[] #[])) [(.t 28), (.t 29)], some (27, false)⟩,
  ⟨some 31, .mov (.t 1), some (27, false)⟩,
  ⟨some 32, .mov (.t 0), some (27, false)⟩,
  ⟨some 33, .call (.c (.func (.func 28) #[] #[])) [(.t 31), (.t 32)], some (27, false)⟩,
  ⟨some 34, .call (.c (.func (.func 16) #[] #[])) [(.t 30), (.t 33)], some (27, false)⟩,
  ⟨some 35, .un .not (.t 34), some (27, false)⟩,
  ⟨some 36, .pick (.t 27) (.c (.bool true)) (.t 35), none⟩,
  ⟨some 37, .mov (.t 36), none⟩,
  ⟨some 38, .mov (.t 0), some (37, false)⟩,
  ⟨some 39, .mov (.t 1), some (37, false)⟩,
  ⟨some 40, .call (.c (.func (.func 32) #[] #[])) [(.t 38), (.t 39)], some (37, false)⟩,
  ⟨some 41, .mov (.t 1), some (37, false)⟩,
  ⟨some 42, .mov (.t 0), some (37, false)⟩,
  ⟨some 43, .call (.c (.func (.func 32) #[] #[])) [(.t 41), (.t 42)], some (37, false)⟩,
  ⟨some 44, .call (.c (.func (.func 16) #[] #[])) [(.t 40), (.t 43)], some (37, false)⟩,
  ⟨some 45, .un .not (.t 44), some (37, false)⟩,
  ⟨some 46, .pick (.t 37) (.c (.bool true)) (.t 45), none⟩]
@[simp] def f9r4 : List AIns := [⟨some 6, .mov (.c (.bool false)), none⟩]
@[simp] def f9r5 : List AIns := [⟨some 47, .mov (.t 0), none⟩,
  ⟨some 48, .mov (.t 1), none⟩,
  ⟨some 49, .call (.c (.func (.func 30) #[] #[])) [(.t 47), (.t 48)], none⟩,
  ⟨some 50, .mov (.t 0), none⟩,
  ⟨some 51, .mov (.t 1), none⟩,
  ⟨some 52, .call (.c (.func (.func 28) #[] #[])) [(.t 50), (.t 51)], none⟩,
  ⟨some 7, .mov (.t 49), none⟩,
  ⟨some 8, .mov (.t 52), none⟩]
@[simp] def f9r6 : List AIns := [⟨some 53, .mov (.t 7), none⟩,
  ⟨some 54, .mov (.t 8), none⟩,
  ⟨some 55, .call (.c (.func (.func 28) #[] #[])) [(.t 53), (.t 54)], none⟩,
  ⟨some 56, .len (.t 55), none⟩,
  ⟨some 57, .bin .neq (.t 56) (.c (.int .i64 0)), none⟩,
  ⟨some 58, .mov (.t 57), none⟩,
  ⟨some 59, .mov (.t 7), some (58, false)⟩,
  ⟨some 60, .mov (.t 8), some (58, false)⟩,
  ⟨some 61, .call (.c (.func (.func 26) #[] #[])) [(.t 59), (.t 60)], some (58, false)⟩,
  ⟨some 62, .mov (.t 0), some (58, false)⟩,
  ⟨some 63, .call (.c (.func (.func 35) #[] #[])) [(.t 61), (.t 62)], some (58, false)⟩,
  ⟨some 64, .un .not (.t 63), some (58, false)⟩,
  ⟨some 65, .pick (.t 58) (.c (.bool true)) (.t 64), none⟩]
@[simp] def f9r7 : List AIns := [⟨some 6, .mov (.c (.bool false)), none⟩]
@[simp] def f9r8 : List AIns := [⟨some 66, .call (.c (.func (.func 25) #[] #[])) [], none⟩,
  ⟨some 67, .mov (.t 66), none⟩,
  ⟨some 68, .mov (.t 0), some (67, true)⟩,
  ⟨some 69, .mov (.t 1), some (67, true)⟩,
  ⟨some 70, .mov (.t 2), some (67, true)⟩,
  ⟨some 71, .call (.c (.func (.func 26) #[] #[])) [(.t 69), (.t 70)], some (67, true)⟩,
  ⟨some 72, .call (.c (.func (.func 28) #[] #[])) [(.t 68), (.t 71)], some (67, true)⟩,
  ⟨some 73, .mov (.t 0), some (67, true)⟩,
  ⟨some 74, .mov (.t 1), some (67, true)⟩,
  ⟨some 75, .call (.c (.func (.func 28) #[] #[])) [(.t 73), (.t 74)], some (67, true)⟩,
  ⟨some 76, .mov (.t 0), some (67, true)⟩,
  ⟨some 77, .mov (.t 2), some (67, true)⟩,
  ⟨some 78, .call (.c (.func (.func 28) #[] #[])) [(.t 76), (.t 77)], some (67, true)⟩,
  ⟨some 79, .call (.c (.func (.func 26) #[] #[])) [(.t 75), (.t 78)], some (67, true)⟩,
  ⟨some 80, .call (.c (.func (.func 16) #[] #[])) [(.t 72), (.t 79)], some (67, true)⟩,
  ⟨some 81, .pick (.t 67) (.t 80) (.c (.bool false)), none⟩,
  ⟨some 82, .mov (.t 81), none⟩,
  ⟨some 83, .mov (.t 0), some (82, true)⟩,
  ⟨some 84, .mov (.t 1), some (82, true)⟩,
  ⟨some 85, .mov (.t 2), some (82, true)⟩,
  ⟨some 86, .call (.c (.func (.func 26) #[] #[])) [(.t 84), (.t 85)], some (82, true)⟩,
  ⟨some 87, .call (.c (.func (.func 30) #[] #[])) [(.t 83), (.t 86)], some (82, true)⟩,
  ⟨some 88, .mov (.t 0), some (82, true)⟩,
  ⟨some 89, .mov (.t 1), some (82, true)⟩,
  ⟨some 90, .call (.c (.func (.func 30) #[] #[])) [(.t 88), (.t 89)], some (82, true)⟩,
  ⟨some 91, .mov (.t 2), some (82, true)⟩,
  ⟨some 92, .call (.c (.func (.func 30) #[] #[])) [(.t 90), (.t 91)], some (82, true)⟩,
  ⟨some 93, .call (.c (.func (.func 16) #[] #[])) [(.t 87), (.t 92)], some (82, true)⟩,
  ⟨some 94, .pick (.t 82) (.t 93) (.c (.bool false)), none⟩,
  ⟨some 6, .mov (.t 94), none⟩]
@[simp] def f9b : ACode := (.seq (.reg f9r0) (.seq (.seq (.reg f9r1) (.cond (.t 17) (.seq (.reg f9r2) .ret) .skip)) (.seq (.seq (.reg f9r3) (.cond (.t 46) (.seq (.reg f9r4) .ret) .skip)) (.seq (.reg f9r5) (.seq (.seq (.reg f9r6) (.cond (.t 65) (.seq (.reg f9r7) .ret) .skip)) (.seq (.reg f9r8) .ret))))))
def f9 : AFn := ⟨95, f9b, [.tmp 6], .pure⟩
theorem f9_is : cFn Try.prog .pure 9 = some f9 := by kernel_rfl
@[simp] def f10r0 : List AIns := [⟨some 6, .mov (.c (.bool false)), none⟩]
@[simp] def f10r1 : List AIns := [⟨some 9, .mov (.t 0), none⟩,
  ⟨some 10, .len (.t 9), none⟩,
  ⟨some 11, .mov (.t 1), none⟩,
  ⟨some 12, .len (.t 11), none⟩,
  ⟨some 13, .bin .add (.t 10) (.t 12), none⟩,
  ⟨some 14, .bin .gtr (.t 13) (.c (.int .i64 40)), none⟩]
@[simp] def f10r2 : List AIns := [⟨some 15, .call (.c (.func (.func 25) #[] #[])) [], none⟩,
  ⟨some 6, .mov (.t 15), none⟩]
@[simp] def f10r3 : List AIns := [⟨some 16, .mov (.t 0), none⟩,
  ⟨some 17, .mov (.t 2), none⟩,
  ⟨some 18, .call (.c (.func (.func 43) #[] #[])) [(.t 16), (.t 17)], none⟩,
  ⟨some 19, .mov (.t 1), none⟩,
  ⟨some 20, .mov (.t 2), none⟩,
  ⟨some 21, .call (.c (.func (.func 43) #[] #[])) [(.t 19), (.t 20)], none⟩,
  ⟨some 7, .mov (.t 18), none⟩,
  ⟨some 8, .mov (.t 21), none⟩]
@[simp] def f10r4 : List AIns := [⟨some 22, .call (.c (.func (.func 25) #[] #[])) [], none⟩,
  ⟨some 23, .mov (.t 22), none⟩,
  ⟨some 24, .mov (.t 0), some (23, true)⟩,
  ⟨some 25, .mov (.t 1), some (23, true)⟩,
  ⟨some 26, .call (.c (.func (.func 26) #[] #[])) [(.t 24), (.t 25)], some (23, true)⟩,
  ⟨some 27, .mov (.t 2), some (23, true)⟩,
  ⟨some 28, .call (.c (.func (.func 43) #[] #[])) [(.t 26), (.t 27)], some (23, true)⟩,
  ⟨some 29, .mov (.t 7), some (23, true)⟩,
  ⟨some 30, .mov (.t 29), some (23, true)⟩,
  ⟨some 31, .mov (.t 8), some (30, false)⟩,
  ⟨some 32, .pick (.t 30) (.c (.bool true)) (.t 31), some (23, true)⟩,
  ⟨some 33, .eqv false [.b] false (.t 28) (.t 32), some (23, true)⟩,
  ⟨some 34, .pick (.t 23) (.t 33) (.c (.bool false)), none⟩,
  ⟨some 35, .mov (.t 34), none⟩,
  ⟨some 36, .mov (.t 0), some (35, true)⟩,
  ⟨some 37, .mov (.t 1), some (35, true)⟩,
  ⟨some 38, .call (.c (.func (.func 28) #[] #[])) [(.t 36), (.t 37)], some (35, true)⟩,
  ⟨some 39, .mov (.t 2), some (35, true)⟩,
  ⟨some 40, .call (.c (.func (.func 43) #[] #[])) [(.t 38), (.t 39)], some (35, true)⟩,
  ⟨some 41, .mov (.t 7), some (35, true)⟩,
  ⟨some 42, .mov (.t 41), some (35, true)⟩,
  ⟨some 43, .mov (.t 8), some (42, true)⟩,
  ⟨some 44, .pick (.t 42) (.t 43) (.c (.bool false)), some (35, true)⟩,
  ⟨some 45, .eqv false [.b] false (.t 40) (.t 44), some (35, true)⟩,
  ⟨some 46, .pick (.t 35) (.t 45) (.c (.bool false)), none⟩,
  ⟨some 47, .mov (.t 46), none⟩,
  ⟨some 48, .mov (.t 0), some (47, true)⟩,
  ⟨some 49, .mov (.t 1), some (47, true)⟩,
  ⟨some 50, .call (.c (.func (.func 30) #[] #[])) [(.t 48), (.t 49)], some (47, true)⟩,
  ⟨some 51, .mov (.t 2), some (47, true)⟩,
  ⟨some 52, .call (.c (.func (.func 43) #[] #[])) [(.t 50), (.t 51)], some (47, true)⟩,
  ⟨some 53, .mov (.t 7), some (47, true)⟩,
  ⟨some 54, .mov (.t 53), some (47, true)⟩,
  ⟨some 55, .mov (.t 8), some (54, true)⟩,
  ⟨some 56, .un .not (.t 55), some (54, true)⟩,
  ⟨some 57, .pick (.t 54) (.t 56) (.c (.bool false)), some (47, true)⟩,
  ⟨some 58, .eqv false [.b] false (.t 52) (.t 57), some (47, true)⟩,
  ⟨some 59, .pick (.t 47) (.t 58) (.c (.bool false)), none⟩,
  ⟨some 60, .mov (.t 59), none⟩,
  ⟨some 61, .mov (.t 0), some (60, true)⟩,
  ⟨some 62, .mov (.t 1), some (60, true)⟩,
  ⟨some 63, .call (.c (.func (.func 32) #[] #[])) [(.t 61), (.t 62)], some (60, true)⟩,
  ⟨some 64, .mov (.t 2), some (60, true)⟩,
  ⟨some 65, .call (.c (.func (.func 43) #[] #[])) [(.t 63), (.t 64)], some (60, true)⟩,
  ⟨some 66, .mov (.t 7), some (60, true)⟩,
  ⟨some 67, .mov (.t 8), some (60, true)⟩,
  ⟨some 68, .eqv true [.b] false (.t 66) (.t 67), some (60, true)⟩,
  ⟨some 69, .eqv false [.b] false (.t 65) (.t 68), some (60, true)⟩,
  ⟨some 70, .pick (.t 60) (.t 69) (.c (.bool false)), none⟩,
  ⟨some 6, .mov (.t 70), none⟩]
@[simp] def f10b : ACode := (.seq (.reg f10r0) (.seq (.seq (.reg f10r1) (.cond (.t 14) (.seq (.reg f10r2) .ret) .skip)) (.seq (.reg f10r3) (.seq (.reg f10r4) .ret))))
def f10 : AFn := ⟨71, f10b, [.tmp 6], .pure⟩
theorem f10_is : cFn Try.prog .pure 10 = some f10 := by kernel_rfl
@[simp] def f11r0 : List AIns := [⟨some 3, .box 46 (.t 1), none⟩,
  ⟨some 4, .mov (.c (.bool false)), none⟩]
@[simp] def f11r1 : List AIns := [⟨some 6, .mov (.t 0), none⟩,
  ⟨some 7, .len (.t 6), none⟩,
  ⟨some 8, .bin .gtr (.t 7) (.c (.int .i64 40)), none⟩]
@[simp] def f11r2 : List AIns := [⟨some 9, .call (.c (.func (.func 25) #[] #[])) [], none⟩,
  ⟨some 4, .mov (.t 9), none⟩]
@[simp] def f11r3 : List AIns := [⟨some 10, .mov (.t 0), none⟩,
  ⟨some 11, .loadN 4 (.t 3), none⟩,
  ⟨some 12, .call (.c (.func (.func 44) #[] #[])) [(.t 10), (.t 11)], none⟩,
  ⟨some 5, .mov (.t 12), none⟩]
@[simp] def f11r4 : List AIns := [⟨some 13, .call (.c (.func (.func 25) #[] #[])) [], none⟩,
  ⟨some 14, .mov (.t 13), none⟩,
  ⟨some 15, .mov (.t 5), some (14, true)⟩,
  ⟨some 16, .loadN 4 (.t 3), some (14, true)⟩,
  ⟨some 17, .call (.c (.func (.func 45) #[] #[])) [(.t 16)], some (14, true)⟩,
  ⟨some 18, .mov (.t 0), some (14, true)⟩,
  ⟨some 19, .call (.c (.func (.func 31) #[] #[])) [(.t 17), (.t 18)], some (14, true)⟩,
  ⟨some 20, .call (.c (.func (.func 16) #[] #[])) [(.t 15), (.t 19)], some (14, true)⟩,
  ⟨some 21, .pick (.t 14) (.t 20) (.c (.bool false)), none⟩,
  ⟨some 22, .mov (.t 21), none⟩,
  ⟨some 23, .mov (.t 5), some (22, true)⟩,
  ⟨some 24, .loadN 4 (.t 3), some (22, true)⟩,
  ⟨some 25, .call (.c (.func (.func 44) #[] #[])) [(.t 23), (.t 24)], some (22, true)⟩,
  ⟨some 26, .mov (.t 0), some (22, true)⟩,
  ⟨some 27, .loadN 4 (.t 3), some (22, true)⟩,
  ⟨some 28, .call (.c (.func (.func 45) #[] #[])) [(.t 27)], some (22, true)⟩,
  ⟨some 29, .call (.c (.func (.func 29) #[] #[])) [(.t 26), (.t 28)], some (22, true)⟩,
  ⟨some 30, .call (.c (.func (.func 16) #[] #[])) [(.t 25), (.t 29)], some (22, true)⟩,
  ⟨some 31, .pick (.t 22) (.t 30) (.c (.bool false)), none⟩,
  ⟨some 4, .mov (.t 31), none⟩]
@[simp] def f11d4 : ACode := .regD f11r4 [(0, []), (1, []), (2, []), (3, []), (5, []), (4, []), (6, []), (7, []), (8, []), (9, []), (10, []), (11, []), (13, []), (14, []), (12, [14]), (15, []), (16, []), (17, []), (18, []), (19, [])]
@[simp] def f11b : ACode := (.seq (.reg f11r0) (.seq (.seq (.reg f11r1) (.cond (.t 8) (.seq (.reg f11r2) .ret) .skip)) (.seq (.reg f11r3) (.seq f11d4 .ret))))
def f11 : AFn := ⟨32, f11b, [.tmp 4], .pure⟩
theorem f11_is : cFn Try.prog .pure 11 = some f11 := by kernel_rfl
@[simp] def f14r14 : List AIns := [⟨some 51, .mov (.t 10), none⟩,
  ⟨some 52, .bin .lss (.t 51) (.c (.int .i64 0)), none⟩,
  ⟨some 53, .mov (.t 52), none⟩,
  ⟨some 54, .mov (.t 2), some (53, true)⟩,
  ⟨some 55, .un .not (.t 54), some (53, true)⟩,
  ⟨some 56, .pick (.t 53) (.t 55) (.c (.bool false)), none⟩,
  ⟨some 57, .mov (.t 56), none⟩,
  ⟨some 58, .mov (.t 9), some (57, true)⟩,
  ⟨some 59, .len (.t 58), some (57, true)⟩,
  ⟨some 60, .bin .gtr (.t 59) (.c (.int .i64 0)), some (57, true)⟩,
  ⟨some 61, .pick (.t 57) (.t 60) (.c (.bool false)), none⟩,
  ⟨some 62, .mov (.t 61), none⟩,
  ⟨some 63, .addOff 0 (.t 12), some (62, true)⟩,
  ⟨some 64, .addOff 0 (.t 63), some (62, true)⟩,
  ⟨some 65, .loadN 2 (.t 64), some (62, true)⟩,
  ⟨some 66, .mov (.t 9), some (62, true)⟩,
  ⟨some 67, .mov (.t 9), some (62, true)⟩,
  ⟨some 68, .len (.t 67), some (62, true)⟩,
  ⟨some 69, .bin .sub (.t 68) (.c (.int .i64 1)), some (62, true)⟩,
  ⟨some 70, .idxA 5 (.t 66) (.t 69), some (62, true)⟩,
  ⟨some 71, .addOff 0 (.t 70), some (62, true)⟩,
  ⟨some 72, .addOff 2 (.t 71), some (62, true)⟩,
  ⟨some 73, .loadN 2 (.t 72), some (62, true)⟩,
  ⟨some 74, .call (.c (.func (.func 38) #[] #[])) [(.t 65), (.t 73)], some (62, true)⟩,
  ⟨some 75, .pick (.t 62) (.t 74) (.c (.bool false)), none⟩]
def f14d14 : ACode := .regD f14r14 [(0, []), (1, []), (2, []), (3, []), (4, []), (5, []), (6, []), (7, []), (8, []), (9, []), (10, []), (11, []), (12, []), (13, []), (14, []), (15, []), (16, []), (17, []), (18, []), (19, []), (20, []), (21, []), (22, []), (23, []), (24, [])]
@[simp] theorem f14d14_u {X κ e h K p} : Run X κ f14d14 e h K p ↔ RIs X κ f14r14 e h K ⟨⟩ := Run_regD rfl
@[simp] def f16r0 : List AIns := [⟨some 4, .mov (.c (.bool false)), none⟩]
@[simp] def f16r1 : List AIns := [⟨some 6, .mov (.t 0), none⟩,
  ⟨some 7, .len (.t 6), none⟩,
  ⟨some 8, .mov (.t 1), none⟩,
  ⟨some 9, .len (.t 8), none⟩,
  ⟨some 10, .bin .neq (.t 7) (.t 9), none⟩]
@[simp] def f16r2 : List AIns := [⟨some 4, .mov (.c (.bool false)), none⟩]
@[simp] def f16r3 : List AIns := [⟨some 5, .mov (.c (.int .i64 0)), none⟩]
@[simp] def f16r4 : List AIns := [⟨some 11, .mov (.t 5), none⟩,
  ⟨some 12, .mov (.t 0), none⟩,
  ⟨some 13, .len (.t 12), none⟩,
  ⟨some 14, .bin .lss (.t 11) (.t 13), none⟩]
@[simp] def f16r5 : List AIns := [⟨some 17, .mov (.t 0), none⟩,
  ⟨some 18, .mov (.t 5), none⟩,
  ⟨some 19, .idxA 4 (.t 17) (.t 18), none⟩,
  ⟨some 20, .loadN 4 (.t 19), none⟩,
  ⟨some 21, .mov (.t 1), none⟩,
  ⟨some 22, .mov (.t 5), none⟩,
  ⟨some 23, .idxA 4 (.t 21) (.t 22), none⟩,
  ⟨some 24, .loadN 4 (.t 23), none⟩,
  ⟨some 25, .eqv true [.i, .i, .i, .i] true (.t 20) (.t 24), none⟩]
def f16d5 : ACode := .regD f16r5 [(0, []), (1, []), (2, []), (3, []), (4, []), (5, []), (6, []), (7, []), (8, [])]
@[simp] theorem f16d5_u {X κ e h K p} : Run X κ f16d5 e h K p ↔ RIs X κ f16r5 e h K ⟨⟩ := Run_regD rfl
@[simp] def f16r6 : List AIns := [⟨some 4, .mov (.c (.bool false)), none⟩]
@[simp] def f16r7 : List AIns := [⟨some 15, .mov (.t 5), none⟩,
  ⟨some 16, .bin .add (.t 15) (.c (.int .i64 1)), none⟩,
  ⟨some 5, .mov (.t 16), none⟩]
@[simp] def f16l8 : ACode := (.seq (.seq (.reg f16r4) (.cond (.t 14) .skip (.exit 0))) (.seq (.block 1 (.seq f16d5 (.cond (.t 25) (.seq (.reg f16r6) .ret) .skip))) (.reg f16r7)))
@[simp] def f16r9 : List AIns := [⟨some 4, .mov (.c (.bool true)), none⟩]
@[simp] def f16b : ACode := (.seq (.reg f16r0) (.seq (.seq (.reg f16r1) (.cond (.t 10) (.seq (.reg f16r2) .ret) .skip)) (.seq (.seq (.reg f16r3) (.block 0 (.loop f16l8))) (.seq (.reg f16r9) .ret))))
def f16 : AFn := ⟨26, f16b, [.tmp 4], .pure⟩
theorem f16_is : cFn Try.prog .pure 16 = some f16 := by kernel_rfl
@[simp] def f18r5 : List AIns := [⟨some 17, .mov (.t 0), none⟩,
  ⟨some 18, .mov (.t 5), none⟩,
  ⟨some 19, .idxA 5 (.t 17) (.t 18), none⟩,
  ⟨some 20, .loadN 5 (.t 19), none⟩,
  ⟨some 21, .mov (.t 1), none⟩,
  ⟨some 22, .mov (.t 5), none⟩,
  ⟨some 23, .idxA 5 (.t 21) (.t 22), none⟩,
  ⟨some 24, .loadN 5 (.t 23), none⟩,
  ⟨some 25, .eqv true [.i, .i, .i, .i, .i] true (.t 20) (.t 24), none⟩]
def f18d5 : ACode := .regD f18r5 [(0, []), (1, []), (2, []), (3, []), (4, []), (5, []), (6, []), (7, []), (8, [])]
@[simp] theorem f18d5_u {X κ e h K p} : Run X κ f18d5 e h K p ↔ RIs X κ f18r5 e h K ⟨⟩ := Run_regD rfl
@[simp] def f24r3 : List AIns := [⟨some 10, .mov (.t 0), none⟩,
  ⟨some 11, .mov (.t 3), none⟩,
  ⟨some 12, .idxA 4 (.t 10) (.t 11), none⟩,
  ⟨some 13, .loadN 4 (.t 12), none⟩,
  ⟨some 14, .call (.c (.func (.func 59) #[] #[])) [(.t 13)], none⟩,
  ⟨some 15, .un .not (.t 14), none⟩,
  ⟨some 16, .mov (.t 15), none⟩,
  ⟨some 17, .mov (.t 3), some (16, false)⟩,
  ⟨some 18, .bin .gtr (.t 17) (.c (.int .i64 0)), some (16, false)⟩,
  ⟨some 19, .mov (.t 18), some (16, false)⟩,
  ⟨some 20, .mov (.t 0), some (19, true)⟩,
  ⟨some 21, .mov (.t 3), some (19, true)⟩,
  ⟨some 22, .idxA 4 (.t 20) (.t 21), some (19, true)⟩,
  ⟨some 23, .addOff 0 (.t 22), some (19, true)⟩,
  ⟨some 24, .loadN 2 (.t 23), some (19, true)⟩,
  ⟨some 25, .mov (.t 0), some (19, true)⟩,
  ⟨some 26, .mov (.t 3), some (19, true)⟩,
  ⟨some 27, .bin .sub (.t 26) (.c (.int .i64 1)), some (19, true)⟩,
  ⟨some 28, .idxA 4 (.t 25) (.t 27), some (19, true)⟩,
  ⟨some 29, .addOff 2 (.t 28), some (19, true)⟩,
  ⟨some 30, .loadN 2 (.t 29), some (19, true)⟩,
  ⟨some 31, .call (.c (.func (.func 38) #[] #[])) [(.t 24), (.t 30)], some (19, true)⟩,
  ⟨some 32, .pick (.t 19) (.t 31) (.c (.bool false)), some (16, false)⟩,
  ⟨some 33, .pick (.t 16) (.c (.bool true)) (.t 32), none⟩]
def f24d3 : ACode := .regD f24r3 [(0, []), (1, []), (2, []), (3, []), (4, []), (5, []), (6, []), (7, []), (8, []), (9, []), (10, []), (11, []), (12, []), (13, []), (14, []), (15, []), (16, []), (17, []), (18, []), (19, []), (20, []), (21, []), (22, []), (23, [])]
@[simp] theorem f24d3_u {X κ e h K p} : Run X κ f24d3 e h K p ↔ RIs X κ f24r3 e h K ⟨⟩ := Run_regD rfl
@[simp] def f25r0 : List AIns := [⟨some 0, .mov (.c (.bool false)), none⟩]
@[simp] def f25r1 : List AIns := [⟨some 3, .call (.c (.func (.func 60) #[] #[])) [(.c (.int .i64 0)), (.c (.int .i64 4))], none⟩,
  ⟨some 4, .call (.c (.func (.func 60) #[] #[])) [(.c (.int .i64 6)), (.c (.int .i64 8))], none⟩,
  ⟨some 5, .buildSlice 46 2 [(.int .i64 0), (.int .i64 0), (.int .i64 0), (.int .i64 0), (.int .i64 0), (.int .i64 0), (.int .i64 0), (.int .i64 0)] [(0, 4, (.t 3)), (4, 4, (.t 4))], none⟩,
  ⟨some 6, .call (.c (.func (.func 60) #[] #[])) [(.c (.int .i64 2)), (.c (.int .i64 7))], none⟩,
  ⟨some 7, .buildSlice 46 1 [(.int .i64 0), (.int .i64 0), (.int .i64 0), (.int .i64 0)] [(0, 4, (.t 6))], none⟩,
  ⟨some 1, .mov (.t 5), none⟩,
  ⟨some 2, .mov (.t 7), none⟩]
@[simp] def f25r2 : List AIns := [⟨some 8, .mov (.t 1), none⟩,
  ⟨some 9, .mov (.t 2), none⟩,
  ⟨some 10, .call (.c (.func (.func 26) #[] #[])) [(.t 8), (.t 9)], none⟩,
  ⟨some 11, .call (.c (.func (.func 60) #[] #[])) [(.c (.int .i64 0)), (.c (.int .i64 8))], none⟩,
  ⟨some 12, .buildSlice 46 1 [(.int .i64 0), (.int .i64 0), (.int .i64 0), (.int .i64 0)] [(0, 4, (.t 11))], none⟩,
  ⟨some 13, .call (.c (.func (.func 16) #[] #[])) [(.t 10), (.t 12)], none⟩,
  ⟨some 14, .mov (.t 13), none⟩,
  ⟨some 15, .mov (.t 1), some (14, true)⟩,
  ⟨some 16, .mov (.t 2), some (14, true)⟩,
  ⟨some 17, .call (.c (.func (.func 28) #[] #[])) [(.t 15), (.t 16)], some (14, true)⟩,
  ⟨some 18, .call (.c (.func (.func 60) #[] #[])) [(.c (.int .i64 2)), (.c (.int .i64 4))], some (14, true)⟩,
  ⟨some 19, .call (.c (.func (.func 60) #[] #[])) [(.c (.int .i64 6)), (.c (.int .i64 7))], some (14, true)⟩,
  ⟨some 20, .buildSlice 46 2 [(.int .i64 0), (.int .i64 0), (.int .i64 0), (.int .i64 0), (.int .i64 0), (.int .i64 0), (.int .i64 0), (.int .i64 0)] [(0, 4, (.t 18)), (4, 4, (.t 19))], some (14, true)⟩,
  ⟨some 21, .call (.c (.func (.func 16) #[] #[])) [(.t 17), (.t 20)], some (14, true)⟩,
  ⟨some 22, .pick (.t 14) (.t 21) (.c (.bool false)), none⟩,
  ⟨some 23, .mov (.t 22), none⟩,
  ⟨some 24, .mov (.t 1), some (23, true)⟩,
  ⟨some 25, .mov (.t 2), some (23, true)⟩,
  ⟨some 26, .call (.c (.func (.func 30) #[] #[])) [(.t 24), (.t 25)], some (23, true)⟩,
  ⟨some 27, .call (.c (.func (.func 60) #[] #[])) [(.c (.int .i64 0)), (.c (.int .i64 2))], some (23, true)⟩,
  ⟨some 28, .call (.c (.func (.func 60) #[] #[])) [(.c (.int .i64 7)), (.c (.int .i64 8))], some (23, true)⟩,
  ⟨some 29, .buildSlice 46 2 [(.int .i64 0), (.int .i64 0), (.int .i64 0), (.int .i64 0), (.int .i64 0), (.int .i64 0), (.int .i64 0), (.int .i64 0)] [(0, 4, (.t 27)), (4, 4, (.t 28))], some (23, true)⟩,
  ⟨some 30, .call (.c (.func (.func 16) #[] #[])) [(.t 26), (.t 29)], some (23, true)⟩,
  ⟨some 31, .pick (.t 23) (.t 30) (.c (.bool false)), none⟩,
  ⟨some 32, .mov (.t 31), none⟩,
  ⟨some 33, .mov (.t 1), some (32, true)⟩,
  ⟨some 34, .mov (.t 2), some (32, true)⟩,
  ⟨some 35, .call (.c (.func (.func 32) #[] #[])) [(.t 33), (.t 34)], some (32, true)⟩,
  ⟨some 36, .call (.c (.func (.func 60) #[] #[])) [(.c (.int .i64 0)), (.c (.int .i64 2))], some (32, true)⟩,
  ⟨some 37, .call (.c (.func (.func 60) #[] #[])) [(.c (.int .i64 4)), (.c (.int .i64 6))], some (32, true)⟩,
  ⟨some 38, .call (.c (.func (.func 60) #[] #[])) [(.c (.int .i64 7)), (.c (.int .i64 8))], some (32, true)⟩,
  ⟨some 39, .buildSlice 46 3 [(.int .i64 0), (.int .i64 0), (.int .i64 0), (.int .i64 0), (.int .i64 0), (.int .i64 0), (.int .i64 0), (.int .i64 0), (.int .i64 0), (.int .i64 0), (.int .i64 0), (.int .i64 0)] [(0, 4, (.t 36)), (4, 4, (.t 37)), (8, 4, (.t 38))], some (32, true)⟩,
  ⟨some 40, .call (.c (.func (.func 16) #[] #[])) [(.t 35), (.t 39)], some (32, true)⟩,
  ⟨some 41, .pick (.t 32) (.t 40) (.c (.bool false)), none⟩,
  ⟨some 42, .mov (.t 41), none⟩,
  ⟨some 43, .mov (.t 1), some (42, true)⟩,
  ⟨some 44, .mov (.t 2), some (42, true)⟩,
  ⟨some 45, .call (.c (.func (.func 36) #[] #[])) [(.t 43), (.t 44)], some (42, true)⟩,
  ⟨some 46, .len (.t 45), some (42, true)⟩,
  ⟨some 47, .bin .eql (.t 46) (.c (.int .i64 4)), some (42, true)⟩,
  ⟨some 48, .pick (.t 42) (.t 47) (.c (.bool false)), none⟩,
  ⟨some 49, .mov (.t 48), none⟩,
  ⟨some 50, .mov (.t 1), some (49, true)⟩,
  ⟨some 51, .mov (.t 2), some (49, true)⟩,
  ⟨some 52, .call (.c (.func (.func 34) #[] #[])) [(.t 50), (.t 51)], some (49, true)⟩,
  ⟨some 53, .un .not (.t 52), some (49, true)⟩,
  ⟨some 54, .pick (.t 49) (.t 53) (.c (.bool false)), none⟩,
  ⟨some 55, .mov (.t 54), none⟩,
  ⟨some 56, .mov (.t 1), some (55, true)⟩,
  ⟨some 57, .mov (.t 1), some (55, true)⟩,
  ⟨some 58, .call (.c (.func (.func 35) #[] #[])) [(.t 56), (.t 57)], some (55, true)⟩,
  ⟨some 59, .pick (.t 55) (.t 58) (.c (.bool false)), none⟩,
  ⟨some 0, .mov (.t 59), none⟩]
@[simp] def f25b : ACode := (.seq (.reg f25r0) (.seq (.reg f25r1) (.seq (.reg f25r2) .ret)))
def f25 : AFn := ⟨60, f25b, [.tmp 0], .pure⟩
theorem f25_is : cFn Try.prog .pure 25 = some f25 := by kernel_rfl
@[simp] def f26r0 : List AIns := [⟨some 4, .mov (.c (.slice none 0 0)), none⟩]
@[simp] def f26r1 : List AIns := [⟨some 5, .mov (.t 0), none⟩,
  ⟨some 6, .mov (.t 1), none⟩,
  ⟨some 7, .call (.c (.func (.func 62) #[] #[])) [(.t 5), (.t 6), (.c (.func (.func 63) #[] #[]))], none⟩,
  ⟨some 8, .call (.c (.func (.func 61) #[] #[])) [(.t 7)], none⟩,
  ⟨some 4, .mov (.t 8), none⟩]
@[simp] def f26b : ACode := (.seq (.reg f26r0) (.seq (.reg f26r1) .ret))
def f26 : AFn := ⟨9, f26b, [.tmp 4], .pure⟩
theorem f26_is : cFn Try.prog .pure 26 = some f26 := by kernel_rfl
@[simp] def f27r0 : List AIns := [⟨some 4, .mov (.c (.slice none 0 0)), none⟩]
@[simp] def f27r1 : List AIns := [⟨some 5, .mov (.t 0), none⟩,
  ⟨some 6, .mov (.t 1), none⟩,
  ⟨some 7, .call (.c (.func (.func 64) #[] #[])) [(.t 5), (.t 6)], none⟩,
  ⟨some 8, .call (.c (.func (.func 42) #[] #[])) [(.t 7)], none⟩,
  ⟨some 4, .mov (.t 8), none⟩]
@[simp] def f27b : ACode := (.seq (.reg f27r0) (.seq (.reg f27r1) .ret))
def f27 : AFn := ⟨9, f27b, [.tmp 4], .pure⟩
theorem f27_is : cFn Try.prog .pure 27 = some f27 := by kernel_rfl
@[simp] def f28r0 : List AIns := [⟨some 4, .mov (.c (.slice none 0 0)), none⟩]
@[simp] def f28r1 : List AIns := [⟨some 5, .mov (.t 0), none⟩,
  ⟨some 6, .mov (.t 1), none⟩,
  ⟨some 7, .call (.c (.func (.func 62) #[] #[])) [(.t 5), (.t 6), (.c (.func (.func 65) #[] #[]))], none⟩,
  ⟨some 8, .call (.c (.func (.func 61) #[] #[])) [(.t 7)], none⟩,
  ⟨some 4, .mov (.t 8), none⟩]
@[simp] def f28b : ACode := (.seq (.reg f28r0) (.seq (.reg f28r1) .ret))
def f28 : AFn := ⟨9, f28b, [.tmp 4], .pure⟩
theorem f28_is : cFn Try.prog .pure 28 = some f28 := by kernel_rfl
@[simp] def f29r0 : List AIns := [⟨some 4, .mov (.c (.slice none 0 0)), none⟩]
@[simp] def f29r1 : List AIns := [⟨some 5, .mov (.t 0), none⟩,
  ⟨some 6, .mov (.t 1), none⟩,
  ⟨some 7, .call (.c (.func (.func 66) #[] #[])) [(.t 5), (.t 6)], none⟩,
  ⟨some 4, .mov (.t 7), none⟩]
@[simp] def f29b : ACode := (.seq (.reg f29r0) (.seq (.reg f29r1) .ret))
def f29 : AFn := ⟨8, f29b, [.tmp 4], .pure⟩
theorem f29_is : cFn Try.prog .pure 29 = some f29 := by kernel_rfl
@[simp] def f30r0 : List AIns := [⟨some 4, .mov (.c (.slice none 0 0)), none⟩]
@[simp] def f30r1 : List AIns := [⟨some 5, .mov (.t 0), none⟩,
  ⟨some 6, .mov (.t 1), none⟩,
  ⟨some 7, .call (.c (.func (.func 62) #[] #[])) [(.t 5), (.t 6), (.c (.func (.func 67) #[] #[]))], none⟩,
  ⟨some 8, .call (.c (.func (.func 61) #[] #[])) [(.t 7)], none⟩,
  ⟨some 4, .mov (.t 8), none⟩]
@[simp] def f30b : ACode := (.seq (.reg f30r0) (.seq (.reg f30r1) .ret))
def f30 : AFn := ⟨9, f30b, [.tmp 4], .pure⟩
theorem f30_is : cFn Try.prog .pure 30 = some f30 := by kernel_rfl
@[simp] def f31r0 : List AIns := [⟨some 4, .mov (.c (.slice none 0 0)), none⟩]
@[simp] def f31r1 : List AIns := [⟨some 5, .mov (.t 0), none⟩,
  ⟨some 6, .mov (.t 1), none⟩,
  ⟨some 7, .call (.c (.func (.func 68) #[] #[])) [(.t 5), (.t 6)], none⟩,
  ⟨some 4, .mov (.t 7), none⟩]
@[simp] def f31b : ACode := (.seq (.reg f31r0) (.seq (.reg f31r1) .ret))
def f31 : AFn := ⟨8, f31b, [.tmp 4], .pure⟩
theorem f31_is : cFn Try.prog .pure 31 = some f31 := by kernel_rfl
@[simp] def f32r0 : List AIns := [⟨some 4, .mov (.c (.slice none 0 0)), none⟩]
@[simp] def f32r1 : List AIns := [⟨some 5, .mov (.t 0), none⟩,
  ⟨some 6, .mov (.t 1), none⟩,
  ⟨some 7, .call (.c (.func (.func 62) #[] #[])) [(.t 5), (.t 6), (.c (.func (.func 69) #[] #[]))], none⟩,
  ⟨some 8, .call (.c (.func (.func 61) #[] #[])) [(.t 7)], none⟩,
  ⟨some 4, .mov (.t 8), none⟩]
@[simp] def f32b : ACode := (.seq (.reg f32r0) (.seq (.reg f32r1) .ret))
def f32 : AFn := ⟨9, f32b, [.tmp 4], .pure⟩
theorem f32_is : cFn Try.prog .pure 32 = some f32 := by kernel_rfl
@[simp] def f33r0 : List AIns := [⟨some 4, .mov (.c (.slice none 0 0)), none⟩]
@[simp] def f33r1 : List AIns := [⟨some 5, .mov (.t 0), none⟩,
  ⟨some 6, .mov (.t 1), none⟩,
  ⟨some 7, .call (.c (.func (.func 31) #[] #[])) [(.t 5), (.t 6)], none⟩,
  ⟨some 8, .mov (.t 1), none⟩,
  ⟨some 9, .mov (.t 0), none⟩,
  ⟨some 10, .call (.c (.func (.func 31) #[] #[])) [(.t 8), (.t 9)], none⟩,
  ⟨some 11, .call (.c (.func (.func 27) #[] #[])) [(.t 7), (.t 10)], none⟩,
  ⟨some 4, .mov (.t 11), none⟩]
@[simp] def f33b : ACode := (.seq (.reg f33r0) (.seq (.reg f33r1) .ret))
def f33 : AFn := ⟨12, f33b, [.tmp 4], .pure⟩
theorem f33_is : cFn Try.prog .pure 33 = some f33 := by kernel_rfl
@[simp] def f34r0 : List AIns := [⟨some 4, .mov (.c (.bool false)), none⟩]
@[simp] def f34r1 : List AIns := [⟨some 5, .mov (.t 0), none⟩,
  ⟨some 6, .mov (.t 1), none⟩,
  ⟨some 7, .call (.c (.func (.func 30) #[] #[])) [(.t 5), (.t 6)], none⟩,
  ⟨some 8, .len (.t 7), none⟩,
  ⟨some 9, .bin .eql (.t 8) (.c (.int .i64 0)), none⟩,
  ⟨some 4, .mov (.t 9), none⟩]
@[simp] def f34b : ACode := (.seq (.reg f34r0) (.seq (.reg f34r1) .ret))
def f34 : AFn := ⟨10, f34b, [.tmp 4], .pure⟩
theorem f34_is : cFn Try.prog .pure 34 = some f34 := by kernel_rfl
@[simp] def f35r0 : List AIns := [⟨some 4, .mov (.c (.bool false)), none⟩]
@[simp] def f35r1 : List AIns := [⟨some 5, .mov (.t 0), none⟩,
  ⟨some 6, .mov (.t 1), none⟩,
  ⟨some 7, .call (.c (.func (.func 32) #[] #[])) [(.t 5), (.t 6)], none⟩,
  ⟨some 8, .len (.t 7), none⟩,
  ⟨some 9, .bin .eql (.t 8) (.c (.int .i64 0)), none⟩,
  ⟨some 4, .mov (.t 9), none⟩]
@[simp] def f35b : ACode := (.seq (.reg f35r0) (.seq (.reg f35r1) .ret))
def f35 : AFn := ⟨10, f35b, [.tmp 4], .pure⟩
theorem f35_is : cFn Try.prog .pure 35 = some f35 := by kernel_rfl
@[simp] def f36r0 : List AIns := [⟨some 4, .mov (.c (.slice none 0 0)), none⟩]
@[simp] def f36r1 : List AIns := [⟨some 5, .mov (.t 0), none⟩,
  ⟨some 6, .mov (.t 1), none⟩,
  ⟨some 7, .call (.c (.func (.func 62) #[] #[])) [(.t 5), (.t 6), (.c (.func (.func 70) #[] #[]))], none⟩,
  ⟨some 4, .mov (.t 7), none⟩]
@[simp] def f36b : ACode := (.seq (.reg f36r0) (.seq (.reg f36r1) .ret))
def f36 : AFn := ⟨8, f36b, [.tmp 4], .pure⟩
theorem f36_is : cFn Try.prog .pure 36 = some f36 := by kernel_rfl
@[simp] def f37r0 : List AIns := [⟨some 2, .mov (.c (.slice none 0 0)), none⟩]
@[simp] def f37r1 : List AIns := [⟨some 3, .mov (.c (.slice none 0 0)), none⟩]
@[simp] def f37r2 : List AIns := [⟨some 6, .mov (.t 0), none⟩,
  ⟨some 7, .len (.t 6), none⟩,
  ⟨some 8, .mov (.c (.int .i64 0)), none⟩]
@[simp] def f37r3 : List AIns := [⟨some 9, .bin .lss (.t 8) (.t 7), none⟩]
@[simp] def f37r4 : List AIns := [⟨some 10, .idxA 4 (.t 6) (.t 8), none⟩,
  ⟨some 11, .loadN 4 (.t 10), none⟩,
  ⟨some 5, .alloc 46 [(.int .i64 0), (.int .i64 0), (.int .i64 0), (.int .i64 0)], none⟩,
  ⟨none, .store 4 (.t 5) (.t 11), none⟩]
@[simp] def f37r5 : List AIns := [⟨some 12, .loadN 4 (.t 5), none⟩,
  ⟨some 13, .call (.c (.func (.func 71) #[] #[])) [(.t 12)], none⟩]
@[simp] def f37r6 : List AIns := [⟨some 14, .mov (.t 3), none⟩,
  ⟨some 15, .addOff 0 (.t 5), none⟩,
  ⟨some 16, .loadN 2 (.t 15), none⟩,
  ⟨some 17, .addOff 2 (.t 5), none⟩,
  ⟨some 18, .loadN 2 (.t 17), none⟩,
  ⟨some 19, .buildSlice 44 2 [(.int .i64 0), (.int .i64 0), (.int .i64 0), (.int .i64 0)] [(0, 2, (.t 16)), (2, 2, (.t 18))], none⟩,
  ⟨some 20, .append 44 2 16 (.t 14) (.t 19), none⟩,
  ⟨some 3, .mov (.t 20), none⟩]
@[simp] def f37r7 : List AIns := [⟨some 21, .bin .add (.t 8) (.c (.int .i64 1)), none⟩,
  ⟨some 8, .mov (.t 21), none⟩]
@[simp] def f37l8 : ACode := (.seq (.reg f37r3) (.seq (.cond (.t 9) .skip (.exit 0)) (.seq (.block 1 (.seq (.reg f37r4) (.seq (.reg f37r5) (.cond (.t 13) (.reg f37r6) .skip)))) (.reg f37r7))))
@[simp] def f37r9 : List AIns := [⟨some 22, .mov (.t 3), none⟩,
  ⟨some 23, .call (.c (.func (.func 72) #[] #[])) [(.t 22)], none⟩,
  ⟨some 2, .mov (.t 23), none⟩]
@[simp] def f37b : ACode := (.seq (.reg f37r0) (.seq (.reg f37r1) (.seq (.seq (.reg f37r2) (.block 0 (.loop f37l8))) (.seq (.reg f37r9) .ret))))
def f37 : AFn := ⟨24, f37b, [.tmp 2], .pure⟩
theorem f37_is : cFn Try.prog .pure 37 = some f37 := by kernel_rfl
@[simp] def f38r0 : List AIns := [⟨some 2, .box 44 (.t 0), none⟩,
  ⟨some 3, .box 44 (.t 1), none⟩,
  ⟨some 4, .mov (.c (.bool false)), none⟩]
@[simp] def f38r1 : List AIns := [⟨some 5, .loadN 2 (.t 2), none⟩,
  ⟨some 6, .call (.c (.func (.func 73) #[] #[])) [(.t 5)], none⟩,
  ⟨none, .store 2 (.t 2) (.t 6), none⟩]
@[simp] def f38r2 : List AIns := [⟨some 7, .loadN 2 (.t 3), none⟩,
  ⟨some 8, .call (.c (.func (.func 73) #[] #[])) [(.t 7)], none⟩,
  ⟨none, .store 2 (.t 3) (.t 8), none⟩]
@[simp] def f38r3 : List AIns := [⟨some 9, .addOff 0 (.t 2), none⟩,
  ⟨some 10, .load1 (.t 9), none⟩,
  ⟨some 11, .addOff 0 (.t 3), none⟩,
  ⟨some 12, .load1 (.t 11), none⟩,
  ⟨some 13, .bin .neq (.t 10) (.t 12), none⟩]
@[simp] def f38r4 : List AIns := [⟨some 14, .addOff 0 (.t 2), none⟩,
  ⟨some 15, .load1 (.t 14), none⟩,
  ⟨some 16, .addOff 0 (.t 3), none⟩,
  ⟨some 17, .load1 (.t 16), none⟩,
  ⟨some 18, .bin .lss (.t 15) (.t 17), none⟩,
  ⟨some 4, .mov (.t 18), none⟩]
@[simp] def f38r5 : List AIns := [⟨some 19, .addOff 1 (.t 2), none⟩,
  ⟨some 20, .load1 (.t 19), none⟩,
  ⟨some 21, .addOff 1 (.t 3), none⟩,
  ⟨some 22, .load1 (.t 21), none⟩,
  ⟨some 23, .bin .lss (.t 20) (.t 22), none⟩,
  ⟨some 4, .mov (.t 23), none⟩]
@[simp] def f38b : ACode := (.seq (.reg f38r0) (.seq (.reg f38r1) (.seq (.reg f38r2) (.seq (.seq (.reg f38r3) (.cond (.t 13) (.seq (.reg f38r4) .ret) .skip)) (.seq (.reg f38r5) .ret)))))
def f38 : AFn := ⟨24, f38b, [.tmp 4], .pure⟩
theorem f38_is : cFn Try.prog .pure 38 = some f38 := by kernel_rfl
@[simp] def f39r0 : List AIns := [⟨some 4, .mov (.c (.slice none 0 0)), none⟩]
@[simp] def f39r1 : List AIns := [⟨some 10, .mov (.t 0), none⟩,
  ⟨some 11, .mov (.t 1), none⟩,
  ⟨some 12, .call (.c (.func (.func 64) #[] #[])) [(.t 10), (.t 11)], none⟩,
  ⟨some 13, .call (.c (.func (.func 41) #[] #[])) [(.t 12)], none⟩,
  ⟨some 5, .mov (.t 13), none⟩]
@[simp] def f39r2 : List AIns := [⟨some 6, .mov (.c (.slice none 0 0)), none⟩]
@[simp] def f39r3 : List AIns := [⟨some 7, .mov (.c (.int .i64 0)), none⟩]
@[simp] def f39r4 : List AIns := [⟨some 14, .mov (.t 7), none⟩,
  ⟨some 15, .bin .add (.t 14) (.c (.int .i64 1)), none⟩,
  ⟨some 16, .mov (.t 5), none⟩,
  ⟨some 17, .len (.t 16), none⟩,
  ⟨some 18, .bin .lss (.t 15) (.t 17), none⟩]
@[simp] def f39r5 : List AIns := [⟨some 22, .mov (.t 5), none⟩,
  ⟨some 23, .mov (.t 7), none⟩,
  ⟨some 24, .idxA 2 (.t 22) (.t 23), none⟩,
  ⟨some 25, .loadN 2 (.t 24), none⟩,
  ⟨some 26, .call (.c (.func (.func 74) #[] #[])) [(.t 25)], none⟩,
  ⟨some 21, .mov (.t 26), none⟩,
  ⟨some 27, .extract (.t 21) 0, none⟩,
  ⟨some 28, .extract (.t 21) 1, none⟩,
  ⟨some 8, .mov (.t 27), none⟩,
  ⟨some 9, .mov (.t 28), none⟩]
@[simp] def f39r6 : List AIns := [⟨some 29, .mov (.t 0), none⟩,
  ⟨some 30, .mov (.t 8), none⟩,
  ⟨some 31, .call (.c (.func (.func 43) #[] #[])) [(.t 29), (.t 30)], none⟩]
@[simp] def f39r7 : List AIns := [⟨some 32, .mov (.t 6), none⟩,
  ⟨some 33, .mov (.t 5), none⟩,
  ⟨some 34, .mov (.t 7), none⟩,
  ⟨some 35, .idxA 2 (.t 33) (.t 34), none⟩,
  ⟨some 36, .loadN 2 (.t 35), none⟩,
  ⟨some 37, .mov (.t 5), none⟩,
  ⟨some 38, .mov (.t 7), none⟩,
  ⟨some 39, .bin .add (.t 38) (.c (.int .i64 1)), none⟩,
  ⟨some 40, .idxA 2 (.t 37) (.t 39), none⟩,
  ⟨some 41, .loadN 2 (.t 40), none⟩,
  ⟨some 42, .build [(.int .i64 0), (.int .i64 0), (.int .i64 0), (.int .i64 0)] [(0, 2, (.t 36)), (2, 2, (.t 41))], none⟩,
  ⟨some 43, .buildSlice 46 1 [(.int .i64 0), (.int .i64 0), (.int .i64 0), (.int .i64 0)] [(0, 4, (.t 42))], none⟩,
  ⟨some 44, .append 46 4 32 (.t 32) (.t 43), none⟩,
  ⟨some 6, .mov (.t 44), none⟩]
def f39d7 : ACode := .regD f39r7 [(0, []), (1, []), (2, []), (3, []), (4, []), (5, []), (6, []), (7, []), (8, []), (9, []), (10, []), (11, []), (12, []), (13, [])]
@[simp] theorem f39d7_u {X κ e h K p} : Run X κ f39d7 e h K p ↔ RIs X κ f39r7 e h K ⟨⟩ := Run_regD rfl
@[simp] def f39r8 : List AIns := [⟨some 19, .mov (.t 7), none⟩,
  ⟨some 20, .bin .add (.t 19) (.c (.int .i64 1)), none⟩,
  ⟨some 7, .mov (.t 20), none⟩]
@[simp] def f39l9 : ACode := (.seq (.seq (.reg f39r4) (.cond (.t 18) .skip (.exit 0))) (.seq (.block 1 (.seq (.reg f39r5) (.seq (.reg f39r6) (.cond (.t 31) f39d7 .skip)))) (.reg f39r8)))
@[simp] def f39r10 : List AIns := [⟨some 45, .mov (.t 6), none⟩,
  ⟨some 4, .mov (.t 45), none⟩]
@[simp] def f39b : ACode := (.seq (.reg f39r0) (.seq (.reg f39r1) (.seq (.reg f39r2) (.seq (.seq (.reg f39r3) (.block 0 (.loop f39l9))) (.seq (.reg f39r10) .ret)))))
def f39 : AFn := ⟨46, f39b, [.tmp 4], .pure⟩
theorem f39_is : cFn Try.prog .pure 39 = some f39 := by kernel_rfl
@[simp] def f40r0 : List AIns := [⟨some 4, .mov (.c (.bool false)), none⟩]
@[simp] def f40r1 : List AIns := [⟨some 6, .mov (.t 0), none⟩,
  ⟨some 7, .len (.t 6), none⟩,
  ⟨some 8, .mov (.t 1), none⟩,
  ⟨some 9, .len (.t 8), none⟩,
  ⟨some 10, .bin .neq (.t 7) (.t 9), none⟩]
@[simp] def f40r2 : List AIns := [⟨some 4, .mov (.c (.bool false)), none⟩]
@[simp] def f40r3 : List AIns := [⟨some 5, .mov (.c (.int .i64 0)), none⟩]
@[simp] def f40r4 : List AIns := [⟨some 11, .mov (.t 5), none⟩,
  ⟨some 12, .mov (.t 0), none⟩,
  ⟨some 13, .len (.t 12), none⟩,
  ⟨some 14, .bin .lss (.t 11) (.t 13), none⟩]
@[simp] def f40r5 : List AIns := [⟨some 17, .mov (.t 0), none⟩,
  ⟨some 18, .mov (.t 5), none⟩,
  ⟨some 19, .idxA 2 (.t 17) (.t 18), none⟩,
  ⟨some 20, .loadN 2 (.t 19), none⟩,
  ⟨some 21, .mov (.t 1), none⟩,
  ⟨some 22, .mov (.t 5), none⟩,
  ⟨some 23, .idxA 2 (.t 21) (.t 22), none⟩,
  ⟨some 24, .loadN 2 (.t 23), none⟩,
  ⟨some 25, .eqv true [.i, .i] true (.t 20) (.t 24), none⟩]
def f40d5 : ACode := .regD f40r5 [(0, []), (1, []), (2, []), (3, []), (4, []), (5, []), (6, []), (7, []), (8, [])]
@[simp] theorem f40d5_u {X κ e h K p} : Run X κ f40d5 e h K p ↔ RIs X κ f40r5 e h K ⟨⟩ := Run_regD rfl
@[simp] def f40r6 : List AIns := [⟨some 4, .mov (.c (.bool false)), none⟩]
@[simp] def f40r7 : List AIns := [⟨some 15, .mov (.t 5), none⟩,
  ⟨some 16, .bin .add (.t 15) (.c (.int .i64 1)), none⟩,
  ⟨some 5, .mov (.t 16), none⟩]
@[simp] def f40l8 : ACode := (.seq (.seq (.reg f40r4) (.cond (.t 14) .skip (.exit 0))) (.seq (.block 1 (.seq f40d5 (.cond (.t 25) (.seq (.reg f40r6) .ret) .skip))) (.reg f40r7)))
@[simp] def f40r9 : List AIns := [⟨some 4, .mov (.c (.bool true)), none⟩]
@[simp] def f40b : ACode := (.seq (.reg f40r0) (.seq (.seq (.reg f40r1) (.cond (.t 10) (.seq (.reg f40r2) .ret) .skip)) (.seq (.seq (.reg f40r3) (.block 0 (.loop f40l8))) (.seq (.reg f40r9) .ret))))
def f40 : AFn := ⟨26, f40b, [.tmp 4], .pure⟩
theorem f40_is : cFn Try.prog .pure 40 = some f40 := by kernel_rfl
@[simp] def f41r0 : List AIns := [⟨some 2, .mov (.c (.slice none 0 0)), none⟩]
@[simp] def f41r1 : List AIns := [⟨some 3, .mov (.c (.slice none 0 0)), none⟩]
@[simp] def f41r2 : List AIns := [⟨some 4, .mov (.c (.int .i64 0)), none⟩]
@[simp] def f41r3 : List AIns := [⟨some 5, .mov (.t 4), none⟩,
  ⟨some 6, .mov (.t 0), none⟩,
  ⟨some 7, .len (.t 6), none⟩,
  ⟨some 8, .bin .lss (.t 5) (.t 7), none⟩]
@[simp] def f41r4 : List AIns := [⟨some 11, .mov (.t 0), none⟩,
  ⟨some 12, .mov (.t 4), none⟩,
  ⟨some 13, .idxA 4 (.t 11) (.t 12), none⟩,
  ⟨some 14, .loadN 4 (.t 13), none⟩,
  ⟨some 15, .call (.c (.func (.func 59) #[] #[])) [(.t 14)], none⟩]
@[simp] def f41r5 : List AIns := [⟨some 16, .mov (.t 3), none⟩,
  ⟨some 17, .mov (.t 0), none⟩,
  ⟨some 18, .mov (.t 4), none⟩,
  ⟨some 19, .idxA 4 (.t 17) (.t 18), none⟩,
  ⟨some 20, .addOff 0 (.t 19), none⟩,
  ⟨some 21, .loadN 2 (.t 20), none⟩,
  ⟨some 22, .mov (.t 0), none⟩,
  ⟨some 23, .mov (.t 4), none⟩,
  ⟨some 24, .idxA 4 (.t 22) (.t 23), none⟩,
  ⟨some 25, .addOff 2 (.t 24), none⟩,
  ⟨some 26, .loadN 2 (.t 25), none⟩,
  ⟨some 27, .buildSlice 44 2 [(.int .i64 0), (.int .i64 0), (.int .i64 0), (.int .i64 0)] [(0, 2, (.t 21)), (2, 2, (.t 26))], none⟩,
  ⟨some 28, .append 44 2 16 (.t 16) (.t 27), none⟩,
  ⟨some 3, .mov (.t 28), none⟩]
def f41d5 : ACode := .regD f41r5 [(0, []), (1, []), (2, []), (3, []), (4, []), (5, []), (6, []), (7, []), (8, []), (9, []), (10, []), (11, []), (12, []), (13, [])]
@[simp] theorem f41d5_u {X κ e h K p} : Run X κ f41d5 e h K p ↔ RIs X κ f41r5 e h K ⟨⟩ := Run_regD rfl
@[simp] def f41r6 : List AIns := [⟨some 9, .mov (.t 4), none⟩,
  ⟨some 10, .bin .add (.t 9) (.c (.int .i64 1)), none⟩,
  ⟨some 4, .mov (.t 10), none⟩]
@[simp] def f41l7 : ACode := (.seq (.seq (.reg f41r3) (.cond (.t 8) .skip (.exit 0))) (.seq (.block 1 (.seq (.reg f41r4) (.cond (.t 15) f41d5 .skip))) (.reg f41r6)))
@[simp] def f41r8 : List AIns := [⟨some 29, .mov (.t 3), none⟩,
  ⟨some 30, .call (.c (.func (.func 75) #[] #[])) [(.t 29)], none⟩,
  ⟨some 2, .mov (.t 30), none⟩]
@[simp] def f41b : ACode := (.seq (.reg f41r0) (.seq (.reg f41r1) (.seq (.seq (.reg f41r2) (.block 0 (.loop f41l7))) (.seq (.reg f41r8) .ret))))
def f41 : AFn := ⟨31, f41b, [.tmp 2], .pure⟩
theorem f41_is : cFn Try.prog .pure 41 = some f41 := by kernel_rfl
@[simp] def f42r0 : List AIns := [⟨some 2, .mov (.c (.slice none 0 0)), none⟩]
@[simp] def f42r1 : List AIns := [⟨some 9, .mov (.t 0), none⟩,
  ⟨some 10, .call (.c (.func (.func 41) #[] #[])) [(.t 9)], none⟩,
  ⟨some 3, .mov (.t 10), none⟩]
@[simp] def f42r2 : List AIns := [⟨some 4, .mov (.c (.slice none 0 0)), none⟩]
@[simp] def f42r3 : List AIns := [⟨some 5, .mov (.c (.int .i64 0)), none⟩]
@[simp] def f42r4 : List AIns := [⟨some 11, .mov (.t 5), none⟩,
  ⟨some 12, .bin .add (.t 11) (.c (.int .i64 1)), none⟩,
  ⟨some 13, .mov (.t 3), none⟩,
  ⟨some 14, .len (.t 13), none⟩,
  ⟨some 15, .bin .lss (.t 12) (.t 14), none⟩]
@[simp] def f42r5 : List AIns := [⟨some 19, .mov (.t 3), none⟩,
  ⟨some 20, .mov (.t 5), none⟩,
  ⟨some 21, .idxA 2 (.t 19) (.t 20), none⟩,
  ⟨some 22, .loadN 2 (.t 21), none⟩,
  ⟨some 23, .call (.c (.func (.func 74) #[] #[])) [(.t 22)], none⟩,
  ⟨some 18, .mov (.t 23), none⟩,
  ⟨some 24, .extract (.t 18) 0, none⟩,
  ⟨some 25, .extract (.t 18) 1, none⟩,
  ⟨some 6, .mov (.t 24), none⟩,
  ⟨some 7, .mov (.t 25), none⟩]
@[simp] def f42r6 : List AIns := [⟨some 26, .mov (.t 0), none⟩,
  ⟨some 27, .mov (.t 6), none⟩,
  ⟨some 28, .call (.c (.func (.func 43) #[] #[])) [(.t 26), (.t 27)], none⟩,
  ⟨some 29, .un .not (.t 28), none⟩]
@[simp] def f42r7 : List AIns := [⟨some 30, .mov (.t 4), none⟩,
  ⟨some 31, .len (.t 30), none⟩,
  ⟨some 32, .bin .sub (.t 31) (.c (.int .i64 1)), none⟩,
  ⟨some 8, .mov (.t 32), none⟩]
@[simp] def f42r8 : List AIns := [⟨some 33, .mov (.t 8), none⟩,
  ⟨some 34, .bin .geq (.t 33) (.c (.int .i64 0)), none⟩,
  ⟨some 35, .mov (.t 34), none⟩,
  ⟨some 36, .mov (.t 4), some (35, true)⟩,
  ⟨some 37, .mov (.t 8), some (35, true)⟩,
  ⟨some 38, .idxA 4 (.t 36) (.t 37), some (35, true)⟩,
  ⟨some 39, .addOff 2 (.t 38), some (35, true)⟩,
  ⟨some 40, .loadN 2 (.t 39), some (35, true)⟩,
  ⟨some 41, .mov (.t 3), some (35, true)⟩,
  ⟨some 42, .mov (.t 5), some (35, true)⟩,
  ⟨some 43, .idxA 2 (.t 41) (.t 42), some (35, true)⟩,
  ⟨some 44, .loadN 2 (.t 43), some (35, true)⟩,
  ⟨some 45, .eqv false [.i, .i] true (.t 40) (.t 44), some (35, true)⟩,
  ⟨some 46, .pick (.t 35) (.t 45) (.c (.bool false)), none⟩]
def f42d8 : ACode := .regD f42r8 [(0, []), (1, []), (2, []), (3, []), (4, []), (5, []), (6, []), (7, []), (8, []), (9, []), (10, []), (11, []), (12, []), (13, [])]
@[simp] theorem f42d8_u {X κ e h K p} : Run X κ f42d8 e h K p ↔ RIs X κ f42r8 e h K ⟨⟩ := Run_regD rfl
@[simp] def f42r9 : List AIns := [⟨some 47, .mov (.t 4), none⟩,
  ⟨some 48, .mov (.t 8), none⟩,
  ⟨some 49, .mov (.t 4), none⟩,
  ⟨some 50, .mov (.t 8), none⟩,
  ⟨some 51, .idxA 4 (.t 49) (.t 50), none⟩,
  ⟨some 52, .addOff 0 (.t 51), none⟩,
  ⟨some 53, .loadN 2 (.t 52), none⟩,
  ⟨some 54, .mov (.t 3), none⟩,
  ⟨some 55, .mov (.t 5), none⟩,
  ⟨some 56, .bin .add (.t 55) (.c (.int .i64 1)), none⟩,
  ⟨some 57, .idxA 2 (.t 54) (.t 56), none⟩,
  ⟨some 58, .loadN 2 (.t 57), none⟩,
  ⟨some 59, .build [(.int .i64 0), (.int .i64 0), (.int .i64 0), (.int .i64 0)] [(0, 2, (.t 53)), (2, 2, (.t 58))], none⟩,
  ⟨some 60, .idxA 4 (.t 47) (.t 48), none⟩,
  ⟨none, .store 4 (.t 60) (.t 59), none⟩]
def f42d9 : ACode := .regD f42r9 [(0, []), (1, []), (2, []), (3, []), (4, []), (5, []), (6, []), (7, []), (8, []), (9, []), (10, []), (11, []), (12, []), (13, []), (14, [])]
@[simp] theorem f42d9_u {X κ e h K p} : Run X κ f42d9 e h K p ↔ RIs X κ f42r9 e h K ⟨⟩ := Run_regD rfl
@[simp] def f42r10 : List AIns := [⟨some 61, .mov (.t 4), none⟩,
  ⟨some 62, .mov (.t 3), none⟩,
  ⟨some 63, .mov (.t 5), none⟩,
  ⟨some 64, .idxA 2 (.t 62) (.t 63), none⟩,
  ⟨some 65, .loadN 2 (.t 64), none⟩,
  ⟨some 66, .mov (.t 3), none⟩,
  ⟨some 67, .mov (.t 5), none⟩,
  ⟨some 68, .bin .add (.t 67) (.c (.int .i64 1)), none⟩,
  ⟨some 69, .idxA 2 (.t 66) (.t 68), none⟩,
  ⟨some 70, .loadN 2 (.t 69), none⟩,
  ⟨some 71, .build [(.int .i64 0), (.int .i64 0), (.int .i64 0), (.int .i64 0)] [(0, 2, (.t 65)), (2, 2, (.t 70))], none⟩,
  ⟨some 72, .buildSlice 46 1 [(.int .i64 0), (.int .i64 0), (.int .i64 0), (.int .i64 0)] [(0, 4, (.t 71))], none⟩,
  ⟨some 73, .append 46 4 32 (.t 61) (.t 72), none⟩,
  ⟨some 4, .mov (.t 73), none⟩]
def f42d10 : ACode := .regD f42r10 [(0, []), (1, []), (2, []), (3, []), (4, []), (5, []), (6, []), (7, []), (8, []), (9, []), (10, []), (11, []), (12, []), (13, [])]
@[simp] theorem f42d10_u {X κ e h K p} : Run X κ f42d10 e h K p ↔ RIs X κ f42r10 e h K ⟨⟩ := Run_regD rfl
@[simp] def f42r11 : List AIns := [⟨some 16, .mov (.t 5), none⟩,
  ⟨some 17, .bin .add (.t 16) (.c (.int .i64 1)), none⟩,
  ⟨some 5, .mov (.t 17), none⟩]
@[simp] def f42l12 : ACode := (.seq (.seq (.reg f42r4) (.cond (.t 15) .skip (.exit 0))) (.seq (.block 1 (.seq (.reg f42r5) (.seq (.seq (.reg f42r6) (.cond (.t 29) (.exit 1) .skip)) (.seq (.reg f42r7) (.seq f42d8 (.cond (.t 46) f42d9 f42d10)))))) (.reg f42r11)))
@[simp] def f42r13 : List AIns := [⟨some 74, .mov (.t 4), none⟩,
  ⟨some 2, .mov (.t 74), none⟩]
@[simp] def f42b : ACode := (.seq (.reg f42r0) (.seq (.reg f42r1) (.seq (.reg f42r2) (.seq (.seq (.reg f42r3) (.block 0 (.loop f42l12))) (.seq (.reg f42r13) .ret)))))
def f42 : AFn := ⟨75, f42b, [.tmp 2], .pure⟩
theorem f42_is : cFn Try.prog .pure 42 = some f42 := by kernel_rfl
@[simp] def f43r0 : List AIns := [⟨some 4, .mov (.c (.bool false)), none⟩]
@[simp] def f43r1 : List AIns := [⟨some 5, .mov (.c (.int .i64 0)), none⟩]
@[simp] def f43r2 : List AIns := [⟨some 6, .mov (.t 5), none⟩,
  ⟨some 7, .mov (.t 0), none⟩,
  ⟨some 8, .len (.t 7), none⟩,
  ⟨some 9, .bin .lss (.t 6) (.t 8), none⟩]
@[simp] def f43r3 : List AIns := [⟨some 12, .mov (.t 0), none⟩,
  ⟨some 13, .mov (.t 5), none⟩,
  ⟨some 14, .idxA 4 (.t 12) (.t 13), none⟩,
  ⟨some 15, .loadN 4 (.t 14), none⟩,
  ⟨some 16, .mov (.t 1), none⟩,
  ⟨some 17, .call (.c (.func (.func 76) #[] #[])) [(.t 15), (.t 16)], none⟩]
@[simp] def f43r4 : List AIns := [⟨some 4, .mov (.c (.bool true)), none⟩]
@[simp] def f43r5 : List AIns := [⟨some 10, .mov (.t 5), none⟩,
  ⟨some 11, .bin .add (.t 10) (.c (.int .i64 1)), none⟩,
  ⟨some 5, .mov (.t 11), none⟩]
@[simp] def f43l6 : ACode := (.seq (.seq (.reg f43r2) (.cond (.t 9) .skip (.exit 0))) (.seq (.block 1 (.seq (.reg f43r3) (.cond (.t 17) (.seq (.reg f43r4) .ret) .skip))) (.reg f43r5)))
@[simp] def f43r7 : List AIns := [⟨some 4, .mov (.c (.bool false)), none⟩]
@[simp] def f43b : ACode := (.seq (.reg f43r0) (.seq (.seq (.reg f43r1) (.block 0 (.loop f43l6))) (.seq (.reg f43r7) .ret)))
def f43 : AFn := ⟨18, f43b, [.tmp 4], .pure⟩
theorem f43_is : cFn Try.prog .pure 43 = some f43 := by kernel_rfl
@[simp] def f44r0 : List AIns := [⟨some 3, .box 46 (.t 1), none⟩,
  ⟨some 4, .mov (.c (.slice none 0 0)), none⟩]
@[simp] def f44r1 : List AIns := [⟨some 5, .loadN 4 (.t 3), none⟩,
  ⟨some 6, .buildSlice 46 1 [(.int .i64 0), (.int .i64 0), (.int .i64 0), (.int .i64 0)] [(0, 4, (.t 5))], none⟩,
  ⟨some 7, .mov (.t 0), none⟩,
  ⟨some 8, .call (.c (.func (.func 30) #[] #[])) [(.t 6), (.t 7)], none⟩,
  ⟨some 4, .mov (.t 8), none⟩]
@[simp] def f44b : ACode := (.seq (.reg f44r0) (.seq (.reg f44r1) .ret))
def f44 : AFn := ⟨9, f44b, [.tmp 4], .pure⟩
theorem f44_is : cFn Try.prog .pure 44 = some f44 := by kernel_rfl
@[simp] def f45r0 : List AIns := [⟨some 1, .box 46 (.t 0), none⟩,
  ⟨some 2, .mov (.c (.slice none 0 0)), none⟩]
@[simp] def f45r1 : List AIns := [⟨some 3, .loadN 4 (.t 1), none⟩,
  ⟨some 4, .buildSlice 46 1 [(.int .i64 0), (.int .i64 0), (.int .i64 0), (.int .i64 0)] [(0, 4, (.t 3))], none⟩,
  ⟨some 2, .mov (.t 4), none⟩]
@[simp] def f45b : ACode := (.seq (.reg f45r0) (.seq (.reg f45r1) .ret))
def f45 : AFn := ⟨5, f45b, [.tmp 2], .pure⟩
theorem f45_is : cFn Try.prog .pure 45 = some f45 := by kernel_rfl
@[simp] def f55r12 : List AIns := [⟨some 26, .mov (.t 6), none⟩,
  ⟨some 27, .load1 (.t 3), none⟩,
  ⟨some 28, .len (.t 27), none⟩,
  ⟨some 29, .bin .sub (.t 28) (.c (.int .i64 1)), none⟩,
  ⟨some 30, .mov (.t 7), none⟩,
  ⟨some 31, .bin .sub (.t 29) (.t 30), none⟩,
  ⟨some 32, .load1 (.t 3), none⟩,
  ⟨some 33, .mov (.t 7), none⟩,
  ⟨some 34, .idxA 1 (.t 32) (.t 33), none⟩,
  ⟨some 35, .load1 (.t 34), none⟩,
  ⟨some 36, .idxA 1 (.t 26) (.t 31), none⟩,
  ⟨none, .store 1 (.t 36) (.t 35), none⟩]
def f55d12 : ACode := .regD f55r12 [(0, []), (1, []), (2, []), (3, []), (4, []), (5, []), (6, []), (7, []), (8, []), (9, []), (10, []), (11, [])]
@[simp] theorem f55d12_u {X κ e h K p} : Run X κ f55d12 e h K p ↔ RIs X κ f55r12 e h K ⟨⟩ := Run_regD rfl
@[simp] def f57r5 : List AIns := [⟨some 15, .addOff 1 (.t 3), none⟩,
  ⟨some 16, .load1 (.t 15), none⟩,
  ⟨some 17, .mov (.t 5), none⟩,
  ⟨some 18, .idxA 1 (.t 16) (.t 17), none⟩,
  ⟨some 19, .load1 (.t 18), none⟩,
  ⟨some 20, .addOff 1 (.t 3), none⟩,
  ⟨some 21, .load1 (.t 20), none⟩,
  ⟨some 22, .mov (.t 5), none⟩,
  ⟨some 23, .idxA 1 (.t 21) (.t 22), none⟩,
  ⟨some 24, .load1 (.t 23), none⟩,
  ⟨some 25, .bin .add (.t 24) (.c (.int .i64 1)), none⟩,
  ⟨some 26, .sliceStr (.c (.string ⟨#[48, 49, 50, 51, 52, 53, 54, 55, 56, 57]⟩)) (some (.t 19)) (some (.t 25)), none⟩,
  ⟨some 27, .mov (.t 4), none⟩,
  ⟨some 28, .bin .add (.t 26) (.t 27), none⟩,
  ⟨some 4, .mov (.t 28), none⟩]
def f57d5 : ACode := .regD f57r5 [(0, []), (1, []), (2, []), (3, []), (4, []), (5, []), (6, []), (7, []), (8, []), (9, []), (10, []), (11, []), (12, []), (13, []), (14, [])]
@[simp] theorem f57d5_u {X κ e h K p} : Run X κ f57d5 e h K p ↔ RIs X κ f57r5 e h K ⟨⟩ := Run_regD rfl
@[simp] def f59r0 : List AIns := [⟨some 1, .box 46 (.t 0), none⟩,
  ⟨some 2, .mov (.c (.bool false)), none⟩]
@[simp] def f59r1 : List AIns := [⟨some 3, .addOff 0 (.t 1), none⟩,
  ⟨some 4, .loadN 2 (.t 3), none⟩,
  ⟨some 5, .call (.c (.func (.func 73) #[] #[])) [(.t 4)], none⟩,
  ⟨some 6, .addOff 0 (.t 1), none⟩,
  ⟨some 7, .loadN 2 (.t 6), none⟩,
  ⟨some 8, .eqv false [.i, .i] true (.t 5) (.t 7), none⟩,
  ⟨some 9, .mov (.t 8), none⟩,
  ⟨some 10, .addOff 2 (.t 1), some (9, true)⟩,
  ⟨some 11, .loadN 2 (.t 10), some (9, true)⟩,
  ⟨some 12, .call (.c (.func (.func 73) #[] #[])) [(.t 11)], some (9, true)⟩,
  ⟨some 13, .addOff 2 (.t 1), some (9, true)⟩,
  ⟨some 14, .loadN 2 (.t 13), some (9, true)⟩,
  ⟨some 15, .eqv false [.i, .i] true (.t 12) (.t 14), some (9, true)⟩,
  ⟨some 16, .pick (.t 9) (.t 15) (.c (.bool false)), none⟩,
  ⟨some 17, .mov (.t 16), none⟩,
  ⟨some 18, .addOff 0 (.t 1), some (17, true)⟩,
  ⟨some 19, .loadN 2 (.t 18), some (17, true)⟩,
  ⟨some 20, .addOff 2 (.t 1), some (17, true)⟩,
  ⟨some 21, .loadN 2 (.t 20), some (17, true)⟩,
  ⟨some 22, .call (.c (.func (.func 38) #[] #[])) [(.t 19), (.t 21)], some (17, true)⟩,
  ⟨some 23, .pick (.t 17) (.t 22) (.c (.bool false)), none⟩,
  ⟨some 2, .mov (.t 23), none⟩]
@[simp] def f59d1 : ACode := .regD f59r1 [(0, []), (1, []), (3, []), (4, []), (2, [4]), (5, []), (6, []), (7, []), (8, []), (10, []), (11, []), (9, [11]), (12, []), (13, []), (14, []), (15, []), (16, []), (17, []), (18, []), (19, []), (20, []), (21, [])]
@[simp] def f59b : ACode := (.seq (.reg f59r0) (.seq f59d1 .ret))
def f59 : AFn := ⟨24, f59b, [.tmp 2], .pure⟩
theorem f59_is : cFn Try.prog .pure 59 = some f59 := by kernel_rfl
@[simp] def f60r0 : List AIns := [⟨some 4, .alloc 46 [(.int .i64 0), (.int .i64 0), (.int .i64 0), (.int .i64 0)], none⟩]
@[simp] def f60r1 : List AIns := [⟨some 5, .mov (.t 0), none⟩,
  ⟨some 6, .build [(.int .i64 0), (.int .i64 0)] [(1, 1, (.t 5))], none⟩,
  ⟨some 7, .mov (.t 1), none⟩,
  ⟨some 8, .build [(.int .i64 0), (.int .i64 0)] [(1, 1, (.t 7))], none⟩,
  ⟨some 9, .build [(.int .i64 0), (.int .i64 0), (.int .i64 0), (.int .i64 0)] [(0, 2, (.t 6)), (2, 2, (.t 8))], none⟩,
  ⟨none, .store 4 (.t 4) (.t 9), none⟩]
@[simp] def f60b : ACode := (.seq (.reg f60r0) (.seq (.reg f60r1) .ret))
def f60 : AFn := ⟨10, f60b, [.cellN 4 4], .pure⟩
theorem f60_is : cFn Try.prog .pure 60 = some f60 := by kernel_rfl
@[simp] def f61r0 : List AIns := [⟨some 2, .mov (.c (.slice none 0 0)), none⟩]
@[simp] def f61r1 : List AIns := [⟨some 8, .mov (.t 0), none⟩,
  ⟨some 9, .len (.t 8), none⟩,
  ⟨some 10, .makeSlice 46 32 [(.int .i64 0), (.int .i64 0), (.int .i64 0), (.int .i64 0)] (.t 9) (.t 9), none⟩,
  ⟨some 3, .mov (.t 10), none⟩]
@[simp] def f61r2 : List AIns := [⟨some 11, .mov (.t 3), none⟩,
  ⟨some 12, .mov (.t 0), none⟩,
  ⟨some 13, .copy 4 (.t 11) (.t 12), none⟩]
@[simp] def f61r3 : List AIns := [⟨some 14, .mov (.t 3), none⟩,
  ⟨some 15, .call (.c (.func (.func 96) #[] #[])) [(.t 14), (.c (.func (.func 97) #[] #[]))], none⟩]
@[simp] def f61r4 : List AIns := [⟨some 4, .mov (.c (.slice none 0 0)), none⟩]
@[simp] def f61r5 : List AIns := [⟨some 16, .mov (.t 3), none⟩,
  ⟨some 17, .len (.t 16), none⟩,
  ⟨some 18, .mov (.c (.int .i64 0)), none⟩]
@[simp] def f61r6 : List AIns := [⟨some 19, .bin .lss (.t 18) (.t 17), none⟩]
@[simp] def f61r7 : List AIns := [⟨some 20, .idxA 4 (.t 16) (.t 18), none⟩,
  ⟨some 21, .loadN 4 (.t 20), none⟩,
  ⟨some 6, .alloc 46 [(.int .i64 0), (.int .i64 0), (.int .i64 0), (.int .i64 0)], none⟩,
  ⟨none, .store 4 (.t 6) (.t 21), none⟩]
@[simp] def f61r8 : List AIns := [⟨some 22, .mov (.t 4), none⟩,
  ⟨some 23, .len (.t 22), none⟩,
  ⟨some 24, .bin .sub (.t 23) (.c (.int .i64 1)), none⟩,
  ⟨some 7, .mov (.t 24), none⟩]
@[simp] def f61r9 : List AIns := [⟨some 30, .loadN 4 (.t 6), none⟩,
  ⟨some 31, .call (.c (.func (.func 71) #[] #[])) [(.t 30)], none⟩,
  ⟨some 32, .un .not (.t 31), none⟩,
  ⟨some 29, .mov (.t 32), none⟩]
@[simp] def f61r10 : List AIns := [⟨some 34, .mov (.t 7), none⟩,
  ⟨some 35, .bin .geq (.t 34) (.c (.int .i64 0)), none⟩,
  ⟨some 36, .mov (.t 35), none⟩,
  ⟨some 37, .mov (.t 4), some (36, true)⟩,
  ⟨some 38, .mov (.t 7), some (36, true)⟩,
  ⟨some 39, .idxA 4 (.t 37) (.t 38), some (36, true)⟩,
  ⟨some 40, .loadN 4 (.t 39), some (36, true)⟩,
  ⟨some 41, .loadN 4 (.t 6), some (36, true)⟩,
  ⟨some 42, .call (.c (.func (.func 98) #[] #[])) [(.t 40), (.t 41)], some (36, true)⟩,
  ⟨some 43, .mov (.t 42), some (36, true)⟩,
  ⟨some 44, .mov (.t 4), some (43, false)⟩,
  ⟨some 45, .mov (.t 7), some (43, false)⟩,
  ⟨some 46, .idxA 4 (.t 44) (.t 45), some (43, false)⟩,
  ⟨some 47, .loadN 4 (.t 46), some (43, false)⟩,
  ⟨some 48, .loadN 4 (.t 6), some (43, false)⟩,
  ⟨some 49, .call (.c (.func (.func 99) #[] #[])) [(.t 47), (.t 48)], some (43, false)⟩,
  ⟨some 50, .pick (.t 43) (.c (.bool true)) (.t 49), some (36, true)⟩,
  ⟨some 51, .pick (.t 36) (.t 50) (.c (.bool false)), none⟩,
  ⟨some 33, .mov (.t 51), none⟩]
def f61d10 : ACode := .regD f61r10 [(0, []), (1, []), (2, []), (3, []), (4, []), (5, []), (6, []), (7, []), (8, []), (9, []), (10, []), (11, []), (12, []), (13, []), (14, []), (15, []), (16, []), (17, []), (18, [])]
@[simp] theorem f61d10_u {X κ e h K p} : Run X κ f61d10 e h K p ↔ RIs X κ f61r10 e h K ⟨⟩ := Run_regD rfl
@[simp] def f61r11 : List AIns := [⟨some 52, .mov (.t 4), none⟩,
  ⟨some 53, .mov (.t 7), none⟩,
  ⟨some 54, .mov (.t 4), none⟩,
  ⟨some 55, .mov (.t 7), none⟩,
  ⟨some 56, .idxA 4 (.t 54) (.t 55), none⟩,
  ⟨some 57, .loadN 4 (.t 56), none⟩,
  ⟨some 58, .loadN 4 (.t 6), none⟩,
  ⟨some 59, .call (.c (.func (.func 100) #[] #[])) [(.t 57), (.t 58)], none⟩,
  ⟨some 60, .idxA 4 (.t 52) (.t 53), none⟩,
  ⟨none, .store 4 (.t 60) (.t 59), none⟩]
def f61d11 : ACode := .regD f61r11 [(0, []), (1, []), (2, []), (3, []), (4, []), (5, []), (6, []), (7, []), (8, []), (9, [])]
@[simp] theorem f61d11_u {X κ e h K p} : Run X κ f61d11 e h K p ↔ RIs X κ f61r11 e h K ⟨⟩ := Run_regD rfl
@[simp] def f61r12 : List AIns := [⟨some 25, .mov (.t 4), none⟩,
  ⟨some 26, .loadN 4 (.t 6), none⟩,
  ⟨some 27, .buildSlice 46 1 [(.int .i64 0), (.int .i64 0), (.int .i64 0), (.int .i64 0)] [(0, 4, (.t 26))], none⟩,
  ⟨some 28, .append 46 4 32 (.t 25) (.t 27), none⟩,
  ⟨some 4, .mov (.t 28), none⟩]
@[simp] def f61r13 : List AIns := [⟨some 61, .bin .add (.t 18) (.c (.int .i64 1)), none⟩,
  ⟨some 18, .mov (.t 61), none⟩]
@[simp] def f61l14 : ACode := (.seq (.reg f61r6) (.seq (.cond (.t 19) .skip (.exit 0)) (.seq (.block 1 (.seq (.reg f61r7) (.seq (.reg f61r8) (.block 2 (.seq (.reg f61r9) (.cond (.t 29) .skip (.seq f61d10 (.cond (.t 33) f61d11 (.reg f61r12))))))))) (.reg f61r13))))
@[simp] def f61r15 : List AIns := [⟨some 62, .mov (.t 4), none⟩,
  ⟨some 2, .mov (.t 62), none⟩]
@[simp] def f61b : ACode := (.seq (.reg f61r0) (.seq (.reg f61r1) (.seq (.reg f61r2) (.seq (.reg f61r3) (.seq (.reg f61r4) (.seq (.seq (.reg f61r5) (.block 0 (.loop f61l14))) (.seq (.reg f61r15) .ret)))))))
def f61 : AFn := ⟨63, f61b, [.tmp 2], .pure⟩
theorem f61_is : cFn Try.prog .pure 61 = some f61 := by kernel_rfl
@[simp] def f62r0 : List AIns := [⟨some 5, .box 75 (.t 2), none⟩,
  ⟨some 6, .mov (.c (.slice none 0 0)), none⟩]
@[simp] def f62r1 : List AIns := [⟨some 7, .alloc 23 [(.slice none 0 0)], none⟩]
@[simp] def f62r2 : List AIns := [⟨some 10, .mov (.t 0), none⟩,
  ⟨some 11, .mov (.t 1), none⟩,
  ⟨some 12, .call (.c (.func (.func 101) #[] #[])) [(.t 10), (.t 11)], none⟩]
@[simp] def f62r3 : List AIns := [⟨some 8, .alloc 46 [(.int .i64 0), (.int .i64 0), (.int .i64 0), (.int .i64 0)], none⟩,
  ⟨none, .store 4 (.t 8) (.t 13), none⟩]
@[simp] def f62r4 : List AIns := [⟨some 9, .alloc 116 [(.bool false), (.bool false)], none⟩,
  ⟨none, .store 2 (.t 9) (.t 14), none⟩]
@[simp] def f62r5 : List AIns := [⟨some 15, .load1 (.t 5), none⟩,
  ⟨some 16, .idxArr 2 1 (.t 9) (.c (.int .i64 0)), none⟩,
  ⟨some 17, .load1 (.t 16), none⟩,
  ⟨some 18, .idxArr 2 1 (.t 9) (.c (.int .i64 1)), none⟩,
  ⟨some 19, .load1 (.t 18), none⟩,
  ⟨some 20, .call (.t 15) [(.t 17), (.t 19)], none⟩]
@[simp] def f62r6 : List AIns := [⟨some 21, .load1 (.t 7), none⟩,
  ⟨some 22, .loadN 4 (.t 8), none⟩,
  ⟨some 23, .buildSlice 46 1 [(.int .i64 0), (.int .i64 0), (.int .i64 0), (.int .i64 0)] [(0, 4, (.t 22))], none⟩,
  ⟨some 24, .append 46 4 32 (.t 21) (.t 23), none⟩,
  ⟨none, .store 1 (.t 7) (.t 24), none⟩]
@[simp] def f62a7 : ACode := (.seq (.reg f62r3) (.reg f62r4))
@[simp] def f62b7 : ACode := (.block 1 (.seq (.reg f62r5) (.cond (.t 20) (.reg f62r6) .skip)))
@[simp] def f62r8 : List AIns := [⟨some 25, .load1 (.t 7), none⟩,
  ⟨some 6, .mov (.t 25), none⟩]
@[simp] def f62b : ACode := (.seq (.reg f62r0) (.seq (.reg f62r1) (.seq (.seq (.reg f62r2) (.block 0 (.rangeF (.t 12) [13, 14] f62a7 f62b7))) (.seq (.reg f62r8) .ret))))
def f62 : AFn := ⟨26, f62b, [.tmp 6], .pure⟩
theorem f62_is : cFn Try.prog .pure 62 = some f62 := by kernel_rfl
@[simp] def f63r0 : List AIns := [⟨some 4, .mov (.c (.bool false)), none⟩]
@[simp] def f63r1 : List AIns := [⟨some 5, .mov (.t 0), none⟩,
  ⟨some 6, .mov (.t 5), none⟩,
  ⟨some 7, .mov (.t 1), some (6, false)⟩,
  ⟨some 8, .pick (.t 6) (.c (.bool true)) (.t 7), none⟩,
  ⟨some 4, .mov (.t 8), none⟩]
@[simp] def f63b : ACode := (.seq (.reg f63r0) (.seq (.reg f63r1) .ret))
def f63 : AFn := ⟨9, f63b, [.tmp 4], .pure⟩
theorem f63_is : cFn Try.prog .pure 63 = some f63 := by kernel_rfl
@[simp] def f64r0 : List AIns := [⟨some 4, .mov (.c (.slice none 0 0)), none⟩]
@[simp] def f64r1 : List AIns := [⟨some 6, .buildSlice 46 0 [] [], none⟩,
  ⟨some 7, .mov (.t 0), none⟩,
  ⟨some 8, .append 46 4 32 (.t 6) (.t 7), none⟩,
  ⟨some 5, .mov (.t 8), none⟩]
@[simp] def f64r2 : List AIns := [⟨some 9, .mov (.t 5), none⟩,
  ⟨some 10, .mov (.t 1), none⟩,
  ⟨some 11, .append 46 4 32 (.t 9) (.t 10), none⟩,
  ⟨some 4, .mov (.t 11), none⟩]
@[simp] def f64b : ACode := (.seq (.reg f64r0) (.seq (.reg f64r1) (.seq (.reg f64r2) .ret)))
def f64 : AFn := ⟨12, f64b, [.tmp 4], .pure⟩
theorem f64_is : cFn Try.prog .pure 64 = some f64 := by kernel_rfl
@[simp] def f65r0 : List AIns := [⟨some 4, .mov (.c (.bool false)), none⟩]
@[simp] def f65r1 : List AIns := [⟨some 5, .mov (.t 0), none⟩,
  ⟨some 6, .mov (.t 5), none⟩,
  ⟨some 7, .mov (.t 1), some (6, true)⟩,
  ⟨some 8, .pick (.t 6) (.t 7) (.c (.bool false)), none⟩,
  ⟨some 4, .mov (.t 8), none⟩]
@[simp] def f65b : ACode := (.seq (.reg f65r0) (.seq (.reg f65r1) .ret))
def f65 : AFn := ⟨9, f65b, [.tmp 4], .pure⟩
theorem f65_is : cFn Try.prog .pure 65 = some f65 := by kernel_rfl
@[simp] def f66r0 : List AIns := [⟨some 4, .mov (.c (.slice none 0 0)), none⟩]
@[simp] def f66r1 : List AIns := [⟨some 5, .mov (.t 0), none⟩,
  ⟨some 6, .mov (.t 0), none⟩,
  ⟨some 7, .mov (.t 1), none⟩,
  ⟨some 8, .call (.c (.func (.func 68) #[] #[])) [(.t 6), (.t 7)], none⟩,
  ⟨some 9, .call (.c (.func (.func 68) #[] #[])) [(.t 5), (.t 8)], none⟩,
  ⟨some 4, .mov (.t 9), none⟩]
@[simp] def f66b : ACode := (.seq (.reg f66r0) (.seq (.reg f66r1) .ret))
def f66 : AFn := ⟨10, f66b, [.tmp 4], .pure⟩
theorem f66_is : cFn Try.prog .pure 66 = some f66 := by kernel_rfl
@[simp] def f67r0 : List AIns := [⟨some 4, .mov (.c (.bool false)), none⟩]
@[simp] def f67r1 : List AIns := [⟨some 5, .mov (.t 0), none⟩,
  ⟨some 6, .mov (.t 5), none⟩,
  ⟨some 7, .mov (.t 1), some (6, true)⟩,
  ⟨some 8, .un .not (.t 7), some (6, true)⟩,
  ⟨some 9, .pick (.t 6) (.t 8) (.c (.bool false)), none⟩,
  ⟨some 4, .mov (.t 9), none⟩]
@[simp] def f67b : ACode := (.seq (.reg f67r0) (.seq (.reg f67r1) .ret))
def f67 : AFn := ⟨10, f67b, [.tmp 4], .pure⟩
theorem f67_is : cFn Try.prog .pure 67 = some f67 := by kernel_rfl
@[simp] def f68r0 : List AIns := [⟨some 4, .mov (.c (.slice none 0 0)), none⟩]
@[simp] def f68r1 : List AIns := [⟨some 11, .buildSlice 46 0 [] [], none⟩,
  ⟨some 12, .mov (.t 0), none⟩,
  ⟨some 13, .append 46 4 32 (.t 11) (.t 12), none⟩,
  ⟨some 5, .mov (.t 13), none⟩]
@[simp] def f68r2 : List AIns := [⟨some 14, .mov (.t 5), none⟩,
  ⟨some 15, .mov (.t 1), none⟩,
  ⟨some 16, .append 46 4 32 (.t 14) (.t 15), none⟩,
  ⟨some 17, .call (.c (.func (.func 41) #[] #[])) [(.t 16)], none⟩,
  ⟨some 6, .mov (.t 17), none⟩]
@[simp] def f68r3 : List AIns := [⟨some 7, .mov (.c (.slice none 0 0)), none⟩]
@[simp] def f68r4 : List AIns := [⟨some 8, .mov (.c (.int .i64 0)), none⟩]
@[simp] def f68r5 : List AIns := [⟨some 18, .mov (.t 8), none⟩,
  ⟨some 19, .bin .add (.t 18) (.c (.int .i64 1)), none⟩,
  ⟨some 20, .mov (.t 6), none⟩,
  ⟨some 21, .len (.t 20), none⟩,
  ⟨some 22, .bin .lss (.t 19) (.t 21), none⟩]
@[simp] def f68r6 : List AIns := [⟨some 26, .mov (.t 6), none⟩,
  ⟨some 27, .mov (.t 8), none⟩,
  ⟨some 28, .idxA 2 (.t 26) (.t 27), none⟩,
  ⟨some 29, .loadN 2 (.t 28), none⟩,
  ⟨some 30, .call (.c (.func (.func 74) #[] #[])) [(.t 29)], none⟩,
  ⟨some 25, .mov (.t 30), none⟩,
  ⟨some 31, .extract (.t 25) 0, none⟩,
  ⟨some 32, .extract (.t 25) 1, none⟩,
  ⟨some 9, .mov (.t 31), none⟩,
  ⟨some 10, .mov (.t 32), none⟩]
@[simp] def f68r7 : List AIns := [⟨some 33, .mov (.t 0), none⟩,
  ⟨some 34, .mov (.t 9), none⟩,
  ⟨some 35, .call (.c (.func (.func 43) #[] #[])) [(.t 33), (.t 34)], none⟩,
  ⟨some 36, .mov (.t 35), none⟩,
  ⟨some 37, .mov (.t 1), some (36, true)⟩,
  ⟨some 38, .mov (.t 9), some (36, true)⟩,
  ⟨some 39, .call (.c (.func (.func 43) #[] #[])) [(.t 37), (.t 38)], some (36, true)⟩,
  ⟨some 40, .un .not (.t 39), some (36, true)⟩,
  ⟨some 41, .pick (.t 36) (.t 40) (.c (.bool false)), none⟩]
@[simp] def f68r8 : List AIns := [⟨some 42, .mov (.t 7), none⟩,
  ⟨some 43, .mov (.t 6), none⟩,
  ⟨some 44, .mov (.t 8), none⟩,
  ⟨some 45, .idxA 2 (.t 43) (.t 44), none⟩,
  ⟨some 46, .loadN 2 (.t 45), none⟩,
  ⟨some 47, .mov (.t 6), none⟩,
  ⟨some 48, .mov (.t 8), none⟩,
  ⟨some 49, .bin .add (.t 48) (.c (.int .i64 1)), none⟩,
  ⟨some 50, .idxA 2 (.t 47) (.t 49), none⟩,
  ⟨some 51, .loadN 2 (.t 50), none⟩,
  ⟨some 52, .build [(.int .i64 0), (.int .i64 0), (.int .i64 0), (.int .i64 0)] [(0, 2, (.t 46)), (2, 2, (.t 51))], none⟩,
  ⟨some 53, .buildSlice 46 1 [(.int .i64 0), (.int .i64 0), (.int .i64 0), (.int .i64 0)] [(0, 4, (.t 52))], none⟩,
  ⟨some 54, .append 46 4 32 (.t 42) (.t 53), none⟩,
  ⟨some 7, .mov (.t 54), none⟩]
def f68d8 : ACode := .regD f68r8 [(0, []), (1, []), (2, []), (3, []), (4, []), (5, []), (6, []), (7, []), (8, []), (9, []), (10, []), (11, []), (12, []), (13, [])]
@[simp] theorem f68d8_u {X κ e h K p} : Run X κ f68d8 e h K p ↔ RIs X κ f68r8 e h K ⟨⟩ := Run_regD rfl
@[simp] def f68r9 : List AIns := [⟨some 23, .mov (.t 8), none⟩,
  ⟨some 24, .bin .add (.t 23) (.c (.int .i64 1)), none⟩,
  ⟨some 8, .mov (.t 24), none⟩]
@[simp] def f68l10 : ACode := (.seq (.seq (.reg f68r5) (.cond (.t 22) .skip (.exit 0))) (.seq (.block 1 (.seq (.reg f68r6) (.seq (.reg f68r7) (.cond (.t 41) f68d8 .skip)))) (.reg f68r9)))
@[simp] def f68r11 : List AIns := [⟨some 55, .mov (.t 7), none⟩,
  ⟨some 56, .call (.c (.func (.func 42) #[] #[])) [(.t 55)], none⟩,
  ⟨some 4, .mov (.t 56), none⟩]
@[simp] def f68b : ACode := (.seq (.reg f68r0) (.seq (.reg f68r1) (.seq (.reg f68r2) (.seq (.reg f68r3) (.seq (.seq (.reg f68r4) (.block 0 (.loop f68l10))) (.seq (.reg f68r11) .ret))))))
def f68 : AFn := ⟨57, f68b, [.tmp 4], .pure⟩
theorem f68_is : cFn Try.prog .pure 68 = some f68 := by kernel_rfl
@[simp] def f69r0 : List AIns := [⟨some 4, .mov (.c (.bool false)), none⟩]
@[simp] def f69r1 : List AIns := [⟨some 5, .mov (.t 0), none⟩,
  ⟨some 6, .mov (.t 1), none⟩,
  ⟨some 7, .eqv true [.b] false (.t 5) (.t 6), none⟩,
  ⟨some 4, .mov (.t 7), none⟩]
@[simp] def f69b : ACode := (.seq (.reg f69r0) (.seq (.reg f69r1) .ret))
def f69 : AFn := ⟨8, f69b, [.tmp 4], .pure⟩
theorem f69_is : cFn Try.prog .pure 69 = some f69 := by kernel_rfl
@[simp] def f70r0 : List AIns := [⟨some 4, .mov (.c (.bool false)), none⟩]
@[simp] def f70r1 : List AIns := [⟨some 5, .mov (.t 0), none⟩,
  ⟨some 4, .mov (.t 5), none⟩]
@[simp] def f70b : ACode := (.seq (.reg f70r0) (.seq (.reg f70r1) .ret))
def f70 : AFn := ⟨6, f70b, [.tmp 4], .pure⟩
theorem f70_is : cFn Try.prog .pure 70 = some f70 := by kernel_rfl
@[simp] def f71r0 : List AIns := [⟨some 1, .box 46 (.t 0), none⟩,
  ⟨some 2, .mov (.c (.bool false)), none⟩]
@[simp] def f71r1 : List AIns := [⟨some 3, .addOff 0 (.t 1), none⟩,
  ⟨some 4, .loadN 2 (.t 3), none⟩,
  ⟨some 5, .call (.c (.func (.func 102) #[] #[])) [(.t 4)], none⟩,
  ⟨some 6, .mov (.t 5), none⟩,
  ⟨some 7, .addOff 2 (.t 1), some (6, true)⟩,
  ⟨some 8, .loadN 2 (.t 7), some (6, true)⟩,
  ⟨some 9, .call (.c (.func (.func 102) #[] #[])) [(.t 8)], some (6, true)⟩,
  ⟨some 10, .pick (.t 6) (.t 9) (.c (.bool false)), none⟩,
  ⟨some 11, .mov (.t 10), none⟩,
  ⟨some 12, .addOff 0 (.t 1), some (11, true)⟩,
  ⟨some 13, .loadN 2 (.t 12), some (11, true)⟩,
  ⟨some 14, .addOff 2 (.t 1), some (11, true)⟩,
  ⟨some 15, .loadN 2 (.t 14), some (11, true)⟩,
  ⟨some 16, .call (.c (.func (.func 103) #[] #[])) [(.t 13), (.t 15)], some (11, true)⟩,
  ⟨some 17, .bin .lss (.t 16) (.c (.int .i64 0)), some (11, true)⟩,
  ⟨some 18, .pick (.t 11) (.t 17) (.c (.bool false)), none⟩,
  ⟨some 2, .mov (.t 18), none⟩]
@[simp] def f71b : ACode := (.seq (.reg f71r0) (.seq (.reg f71r1) .ret))
def f71 : AFn := ⟨19, f71b, [.tmp 2], .pure⟩
theorem f71_is : cFn Try.prog .pure 71 = some f71 := by kernel_rfl
@[simp] def f72r0 : List AIns := [⟨some 2, .mov (.c (.slice none 0 0)), none⟩]
@[simp] def f72r1 : List AIns := [⟨some 3, .mov (.c (.slice none 0 0)), none⟩]
@[simp] def f72r2 : List AIns := [⟨some 6, .mov (.t 0), none⟩,
  ⟨some 7, .len (.t 6), none⟩,
  ⟨some 8, .mov (.c (.int .i64 0)), none⟩]
@[simp] def f72r3 : List AIns := [⟨some 9, .bin .lss (.t 8) (.t 7), none⟩]
@[simp] def f72r4 : List AIns := [⟨some 10, .idxA 2 (.t 6) (.t 8), none⟩,
  ⟨some 11, .loadN 2 (.t 10), none⟩,
  ⟨some 5, .alloc 44 [(.int .i64 0), (.int .i64 0)], none⟩,
  ⟨none, .store 2 (.t 5) (.t 11), none⟩]
@[simp] def f72r5 : List AIns := [⟨some 12, .mov (.t 3), none⟩,
  ⟨some 13, .loadN 2 (.t 5), none⟩,
  ⟨some 14, .call (.c (.func (.func 104) #[] #[])) [(.t 13)], none⟩,
  ⟨some 15, .buildSlice 44 1 [(.int .i64 0), (.int .i64 0)] [(0, 2, (.t 14))], none⟩,
  ⟨some 16, .append 44 2 16 (.t 12) (.t 15), none⟩,
  ⟨some 3, .mov (.t 16), none⟩]
@[simp] def f72r6 : List AIns := [⟨some 17, .bin .add (.t 8) (.c (.int .i64 1)), none⟩,
  ⟨some 8, .mov (.t 17), none⟩]
@[simp] def f72l7 : ACode := (.seq (.reg f72r3) (.seq (.cond (.t 9) .skip (.exit 0)) (.seq (.block 1 (.seq (.reg f72r4) (.reg f72r5))) (.reg f72r6))))
@[simp] def f72r8 : List AIns := [⟨some 18, .mov (.t 3), none⟩,
  ⟨some 19, .call (.c (.func (.func 105) #[] #[])) [(.t 18), (.c (.func (.func 103) #[] #[]))], none⟩]
@[simp] def f72r9 : List AIns := [⟨some 20, .mov (.t 3), none⟩,
  ⟨some 21, .call (.c (.func (.func 106) #[] #[])) [(.t 20)], none⟩,
  ⟨some 2, .mov (.t 21), none⟩]
@[simp] def f72b : ACode := (.seq (.reg f72r0) (.seq (.reg f72r1) (.seq (.seq (.reg f72r2) (.block 0 (.loop f72l7))) (.seq (.reg f72r8) (.seq (.reg f72r9) .ret)))))
def f72 : AFn := ⟨22, f72b, [.tmp 2], .pure⟩
theorem f72_is : cFn Try.prog .pure 72 = some f72 := by kernel_rfl
@[simp] def f73r0 : List AIns := [⟨some 1, .box 44 (.t 0), none⟩,
  ⟨some 2, .alloc 44 [(.int .i64 0), (.int .i64 0)], none⟩]
@[simp] def f73r1 : List AIns := [⟨some 3, .addOff 0 (.t 1), none⟩,
  ⟨some 4, .load1 (.t 3), none⟩,
  ⟨some 5, .bin .lss (.t 4) (.c (.int .i64 0)), none⟩,
  ⟨some 6, .mov (.t 5), none⟩,
  ⟨some 7, .addOff 0 (.t 1), some (6, false)⟩,
  ⟨some 8, .load1 (.t 7), some (6, false)⟩,
  ⟨some 9, .bin .eql (.t 8) (.c (.int .i64 0)), some (6, false)⟩,
  ⟨some 10, .mov (.t 9), some (6, false)⟩,
  ⟨some 11, .addOff 1 (.t 1), some (10, true)⟩,
  ⟨some 12, .load1 (.t 11), some (10, true)⟩,
  ⟨some 13, .call (.c (.func (.func 107) #[] #[])) [], some (10, true)⟩,
  ⟨some 14, .bin .eql (.t 12) (.t 13), some (10, true)⟩,
  ⟨some 15, .pick (.t 10) (.t 14) (.c (.bool false)), some (6, false)⟩,
  ⟨some 16, .pick (.t 6) (.c (.bool true)) (.t 15), none⟩]
@[simp] def f73d1 : ACode := .regD f73r1 [(0, []), (1, []), (2, []), (3, []), (4, []), (5, []), (6, []), (7, []), (8, []), (9, []), (10, [9]), (11, []), (12, []), (13, [])]
@[simp] def f73r2 : List AIns := [⟨some 17, .build [(.int .i64 0), (.int .i64 0)] [(0, 1, (.c (.int .i64 (-1))))], none⟩,
  ⟨none, .store 2 (.t 2) (.t 17), none⟩]
@[simp] def f73r3 : List AIns := [⟨some 18, .addOff 0 (.t 1), none⟩,
  ⟨some 19, .load1 (.t 18), none⟩,
  ⟨some 20, .bin .gtr (.t 19) (.c (.int .i64 0)), none⟩]
@[simp] def f73r4 : List AIns := [⟨some 21, .build [(.int .i64 0), (.int .i64 0)] [(0, 1, (.c (.int .i64 1)))], none⟩,
  ⟨none, .store 2 (.t 2) (.t 21), none⟩]
@[simp] def f73r5 : List AIns := [⟨some 22, .loadN 2 (.t 1), none⟩,
  ⟨none, .store 2 (.t 2) (.t 22), none⟩]
@[simp] def f73b : ACode := (.seq (.reg f73r0) (.seq (.seq f73d1 (.cond (.t 16) (.seq (.reg f73r2) .ret) .skip)) (.seq (.seq (.reg f73r3) (.cond (.t 20) (.seq (.reg f73r4) .ret) .skip)) (.seq (.reg f73r5) .ret))))
def f73 : AFn := ⟨23, f73b, [.cellN 2 2], .pure⟩
theorem f73_is : cFn Try.prog .pure 73 = some f73 := by kernel_rfl
@[simp] def f74r0 : List AIns := [⟨some 1, .box 44 (.t 0), none⟩,
  ⟨some 2, .mov (.c (.int .i64 0)), none⟩,
  ⟨some 3, .mov (.c (.bool false)), none⟩]
@[simp] def f74r1 : List AIns := [⟨some 4, .loadN 2 (.t 1), none⟩,
  ⟨some 5, .call (.c (.func (.func 73) #[] #[])) [(.t 4)], none⟩,
  ⟨none, .store 2 (.t 1) (.t 5), none⟩]
@[simp] def f74r2 : List AIns := [⟨some 6, .addOff 0 (.t 1), none⟩,
  ⟨some 7, .load1 (.t 6), none⟩,
  ⟨some 8, .bin .gtr (.t 7) (.c (.int .i64 0)), none⟩]
@[simp] def f74r3 : List AIns := [⟨some 2, .mov (.c (.int .i64 0)), none⟩,
  ⟨some 3, .mov (.c (.bool false)), none⟩]
@[simp] def f74r4 : List AIns := [⟨some 9, .addOff 0 (.t 1), none⟩,
  ⟨some 10, .load1 (.t 9), none⟩,
  ⟨some 11, .bin .lss (.t 10) (.c (.int .i64 0)), none⟩]
@[simp] def f74r5 : List AIns := [⟨some 12, .call (.c (.func (.func 107) #[] #[])) [], none⟩,
  ⟨some 2, .mov (.t 12), none⟩,
  ⟨some 3, .mov (.c (.bool true)), none⟩]
@[simp] def f74r6 : List AIns := [⟨some 13, .addOff 1 (.t 1), none⟩,
  ⟨some 14, .load1 (.t 13), none⟩,
  ⟨some 2, .mov (.t 14), none⟩,
  ⟨some 3, .mov (.c (.bool true)), none⟩]
@[simp] def f74b : ACode := (.seq (.reg f74r0) (.seq (.reg f74r1) (.seq (.seq (.reg f74r2) (.cond (.t 8) (.seq (.reg f74r3) .ret) .skip)) (.seq (.seq (.reg f74r4) (.cond (.t 11) (.seq (.reg f74r5) .ret) .skip)) (.seq (.reg f74r6) .ret)))))
def f74 : AFn := ⟨15, f74b, [.tmp 2, .tmp 3], .pure⟩
theorem f74_is : cFn Try.prog .pure 74 = some f74 := by kernel_rfl
@[simp] def f75r0 : List AIns := [⟨some 2, .mov (.c (.slice none 0 0)), none⟩]
@[simp] def f75r1 : List AIns := [⟨some 3, .mov (.c (.slice none 0 0)), none⟩]
@[simp] def f75r2 : List AIns := [⟨some 4, .mov (.c (.bool false)), none⟩]
@[simp] def f75r3 : List AIns := [⟨some 5, .alloc 44 [(.int .i64 0), (.int .i64 0)], none⟩]
@[simp] def f75r4 : List AIns := [⟨some 6, .mov (.c (.int .i64 0)), none⟩]
@[simp] def f75r5 : List AIns := [⟨some 8, .mov (.t 6), none⟩,
  ⟨some 9, .mov (.t 0), none⟩,
  ⟨some 10, .len (.t 9), none⟩,
  ⟨some 11, .bin .lss (.t 8) (.t 10), none⟩]
@[simp] def f75r6 : List AIns := [⟨some 14, .mov (.t 3), none⟩,
  ⟨some 15, .len (.t 14), none⟩,
  ⟨some 16, .bin .eql (.t 15) (.c (.int .i64 0)), none⟩,
  ⟨some 17, .mov (.t 16), none⟩,
  ⟨some 18, .mov (.t 3), some (17, false)⟩,
  ⟨some 19, .mov (.t 3), some (17, false)⟩,
  ⟨some 20, .len (.t 19), some (17, false)⟩,
  ⟨some 21, .bin .sub (.t 20) (.c (.int .i64 1)), some (17, false)⟩,
  ⟨some 22, .idxA 2 (.t 18) (.t 21), some (17, false)⟩,
  ⟨some 23, .loadN 2 (.t 22), some (17, false)⟩,
  ⟨some 24, .mov (.t 0), some (17, false)⟩,
  ⟨some 25, .mov (.t 6), some (17, false)⟩,
  ⟨some 26, .idxA 2 (.t 24) (.t 25), some (17, false)⟩,
  ⟨some 27, .loadN 2 (.t 26), some (17, false)⟩,
  ⟨some 28, .call (.c (.func (.func 38) #[] #[])) [(.t 23), (.t 27)], some (17, false)⟩,
  ⟨some 29, .pick (.t 17) (.c (.bool true)) (.t 28), none⟩,
  ⟨some 7, .mov (.t 29), none⟩]
def f75d6 : ACode := .regD f75r6 [(0, []), (1, []), (2, []), (3, []), (4, []), (5, []), (6, []), (7, []), (8, []), (9, []), (10, []), (11, []), (12, []), (13, []), (14, []), (15, []), (16, [])]
@[simp] theorem f75d6_u {X κ e h K p} : Run X κ f75d6 e h K p ↔ RIs X κ f75r6 e h K ⟨⟩ := Run_regD rfl
@[simp] def f75r7 : List AIns := [⟨some 30, .mov (.t 7), none⟩,
  ⟨some 31, .mov (.t 30), none⟩,
  ⟨some 32, .mov (.t 4), some (31, true)⟩,
  ⟨some 33, .un .not (.t 32), some (31, true)⟩,
  ⟨some 34, .mov (.t 33), some (31, true)⟩,
  ⟨some 35, .mov (.t 0), some (34, false)⟩,
  ⟨some 36, .mov (.t 6), some (34, false)⟩,
  ⟨some 37, .idxA 2 (.t 35) (.t 36), some (34, false)⟩,
  ⟨some 38, .loadN 2 (.t 37), some (34, false)⟩,
  ⟨some 39, .loadN 2 (.t 5), some (34, false)⟩,
  ⟨some 40, .call (.c (.func (.func 38) #[] #[])) [(.t 38), (.t 39)], some (34, false)⟩,
  ⟨some 41, .pick (.t 34) (.c (.bool true)) (.t 40), some (31, true)⟩,
  ⟨some 42, .pick (.t 31) (.t 41) (.c (.bool false)), none⟩]
def f75d7 : ACode := .regD f75r7 [(0, []), (1, []), (2, []), (3, []), (4, []), (5, []), (6, []), (7, []), (8, []), (9, []), (10, []), (11, []), (12, [])]
@[simp] theorem f75d7_u {X κ e h K p} : Run X κ f75d7 e h K p ↔ RIs X κ f75r7 e h K ⟨⟩ := Run_regD rfl
@[simp] def f75r8 : List AIns := [⟨some 43, .mov (.t 0), none⟩,
  ⟨some 44, .mov (.t 6), none⟩,
  ⟨some 45, .idxA 2 (.t 43) (.t 44), none⟩,
  ⟨some 46, .loadN 2 (.t 45), none⟩,
  ⟨some 47, .call (.c (.func (.func 73) #[] #[])) [(.t 46)], none⟩,
  ⟨none, .store 2 (.t 5) (.t 47), none⟩]
@[simp] def f75r9 : List AIns := [⟨some 4, .mov (.c (.bool true)), none⟩]
@[simp] def f75r10 : List AIns := [⟨some 12, .mov (.t 6), none⟩,
  ⟨some 13, .bin .add (.t 12) (.c (.int .i64 1)), none⟩,
  ⟨some 6, .mov (.t 13), none⟩]
@[simp] def f75l11 : ACode := (.seq (.seq (.reg f75r5) (.cond (.t 11) .skip (.exit 2))) (.seq (.block 3 (.seq f75d6 (.seq f75d7 (.cond (.t 42) (.seq (.reg f75r8) (.reg f75r9)) .skip)))) (.reg f75r10)))
@[simp] def f75r12 : List AIns := [⟨some 48, .mov (.t 4), none⟩,
  ⟨some 49, .un .not (.t 48), none⟩]
@[simp] def f75r13 : List AIns := [⟨some 50, .mov (.t 3), none⟩,
  ⟨some 2, .mov (.t 50), none⟩]
@[simp] def f75r14 : List AIns := [⟨some 51, .mov (.t 3), none⟩,
  ⟨some 52, .loadN 2 (.t 5), none⟩,
  ⟨some 53, .buildSlice 44 1 [(.int .i64 0), (.int .i64 0)] [(0, 2, (.t 52))], none⟩,
  ⟨some 54, .append 44 2 16 (.t 51) (.t 53), none⟩,
  ⟨some 3, .mov (.t 54), none⟩]
@[simp] def f75l15 : ACode := (.block 1 (.seq (.reg f75r2) (.seq (.reg f75r3) (.seq (.seq (.reg f75r4) (.block 2 (.loop f75l11))) (.seq (.seq (.reg f75r12) (.cond (.t 49) (.seq (.reg f75r13) .ret) .skip)) (.reg f75r14))))))
@[simp] def f75b : ACode := (.seq (.reg f75r0) (.seq (.reg f75r1) (.block 0 (.loop f75l15))))
def f75 : AFn := ⟨55, f75b, [.tmp 2], .pure⟩
theorem f75_is : cFn Try.prog .pure 75 = some f75 := by kernel_rfl
@[simp] def f76r0 : List AIns := [⟨some 2, .box 46 (.t 0), none⟩,
  ⟨some 4, .mov (.c (.bool false)), none⟩]
@[simp] def f76r1 : List AIns := [⟨some 6, .mov (.t 1), none⟩,
  ⟨some 7, .call (.c (.func (.func 108) #[] #[])) [(.t 6)], none⟩,
  ⟨some 5, .alloc 44 [(.int .i64 0), (.int .i64 0)], none⟩,
  ⟨none, .store 2 (.t 5) (.t 7), none⟩]
@[simp] def f76r2 : List AIns := [⟨some 8, .loadN 4 (.t 2), none⟩,
  ⟨some 9, .call (.c (.func (.func 59) #[] #[])) [(.t 8)], none⟩,
  ⟨some 10, .mov (.t 9), none⟩,
  ⟨some 11, .loadN 2 (.t 5), some (10, true)⟩,
  ⟨some 12, .addOff 0 (.t 2), some (10, true)⟩,
  ⟨some 13, .loadN 2 (.t 12), some (10, true)⟩,
  ⟨some 14, .call (.c (.func (.func 38) #[] #[])) [(.t 11), (.t 13)], some (10, true)⟩,
  ⟨some 15, .un .not (.t 14), some (10, true)⟩,
  ⟨some 16, .pick (.t 10) (.t 15) (.c (.bool false)), none⟩,
  ⟨some 17, .mov (.t 16), none⟩,
  ⟨some 18, .loadN 2 (.t 5), some (17, true)⟩,
  ⟨some 19, .addOff 2 (.t 2), some (17, true)⟩,
  ⟨some 20, .loadN 2 (.t 19), some (17, true)⟩,
  ⟨some 21, .call (.c (.func (.func 38) #[] #[])) [(.t 18), (.t 20)], some (17, true)⟩,
  ⟨some 22, .pick (.t 17) (.t 21) (.c (.bool false)), none⟩,
  ⟨some 4, .mov (.t 22), none⟩]
@[simp] def f76b : ACode := (.seq (.reg f76r0) (.seq (.reg f76r1) (.seq (.reg f76r2) .ret)))
def f76 : AFn := ⟨23, f76b, [.tmp 4], .pure⟩
theorem f76_is : cFn Try.prog .pure 76 = some f76 := by kernel_rfl
@[simp] def f77r6 : List AIns := [⟨some 23, .mov (.t 0), none⟩,
  ⟨some 24, .nilCheck (.t 23), none⟩,
  ⟨some 25, .addOff 1 (.t 24), none⟩,
  ⟨some 26, .load1 (.t 25), none⟩,
  ⟨some 27, .mov (.t 0), none⟩,
  ⟨some 28, .nilCheck (.t 27), none⟩,
  ⟨some 29, .addOff 0 (.t 28), none⟩,
  ⟨some 30, .load1 (.t 29), none⟩,
  ⟨some 31, .lenStr (.t 30), none⟩,
  ⟨some 32, .bin .lss (.t 26) (.t 31), none⟩]
def f77d6 : ACode := .regD f77r6 [(0, []), (1, []), (2, []), (3, []), (4, []), (5, []), (6, []), (7, []), (8, []), (9, [])]
@[simp] theorem f77d6_u {X κ e h K p} : Run X κ f77d6 e h K p ↔ RIs X κ f77r6 e h K ⟨⟩ := Run_regD rfl
@[simp] def f77r10 : List AIns := [⟨some 40, .mov (.t 0), none⟩,
  ⟨some 41, .nilCheck (.t 40), none⟩,
  ⟨some 42, .addOff 1 (.t 41), none⟩,
  ⟨some 43, .load1 (.t 42), none⟩,
  ⟨some 44, .mov (.t 11), none⟩,
  ⟨some 6, .mov (.c (.slice none 0 0)), none⟩,
  ⟨some 7, .mov (.t 43), none⟩,
  ⟨some 8, .mov (.t 44), none⟩]
def f77d10 : ACode := .regD f77r10 [(0, []), (1, []), (2, []), (3, []), (4, []), (5, []), (6, []), (7, [])]
@[simp] theorem f77d10_u {X κ e h K p} : Run X κ f77d10 e h K p ↔ RIs X κ f77r10 e h K ⟨⟩ := Run_regD rfl
@[simp] def f77r15 : List AIns := [⟨some 61, .mov (.t 0), none⟩,
  ⟨some 62, .nilCheck (.t 61), none⟩,
  ⟨some 63, .addOff 1 (.t 62), none⟩,
  ⟨some 64, .load1 (.t 63), none⟩,
  ⟨some 65, .mov (.t 13), none⟩,
  ⟨some 6, .mov (.c (.slice none 0 0)), none⟩,
  ⟨some 7, .mov (.t 64), none⟩,
  ⟨some 8, .mov (.t 65), none⟩]
def f77d15 : ACode := .regD f77r15 [(0, []), (1, []), (2, []), (3, []), (4, []), (5, []), (6, []), (7, [])]
@[simp] theorem f77d15_u {X κ e h K p} : Run X κ f77d15 e h K p ↔ RIs X κ f77r15 e h K ⟨⟩ := Run_regD rfl
@[simp] def f77r22 : List AIns := [⟨some 102, .mov (.t 10), none⟩,
  ⟨some 103, .mov (.t 14), none⟩,
  ⟨some 104, .idxA 1 (.t 102) (.t 103), none⟩,
  ⟨some 105, .load1 (.t 104), none⟩,
  ⟨some 6, .mov (.c (.slice none 0 0)), none⟩,
  ⟨some 7, .mov (.t 105), none⟩,
  ⟨some 8, .mov (.c (.int .i64 180)), none⟩]
def f77d22 : ACode := .regD f77r22 [(0, []), (1, []), (2, []), (3, []), (4, []), (5, []), (6, [])]
@[simp] theorem f77d22_u {X κ e h K p} : Run X κ f77d22 e h K p ↔ RIs X κ f77r22 e h K ⟨⟩ := Run_regD rfl
@[simp] def f77r25 : List AIns := [⟨some 106, .mov (.t 9), none⟩,
  ⟨some 107, .mov (.t 0), none⟩,
  ⟨some 108, .nilCheck (.t 107), none⟩,
  ⟨some 109, .addOff 1 (.t 108), none⟩,
  ⟨some 110, .load1 (.t 109), none⟩,
  ⟨some 6, .mov (.t 106), none⟩,
  ⟨some 7, .mov (.t 110), none⟩,
  ⟨some 8, .mov (.c (.int .i64 0)), none⟩]
def f77d25 : ACode := .regD f77r25 [(0, []), (1, []), (2, []), (3, []), (4, []), (5, []), (6, []), (7, [])]
@[simp] theorem f77d25_u {X κ e h K p} : Run X κ f77d25 e h K p ↔ RIs X κ f77r25 e h K ⟨⟩ := Run_regD rfl
@[simp] def f84r6 : List AIns := [⟨some 23, .mov (.t 0), none⟩,
  ⟨some 24, .nilCheck (.t 23), none⟩,
  ⟨some 25, .addOff 1 (.t 24), none⟩,
  ⟨some 26, .load1 (.t 25), none⟩,
  ⟨some 27, .mov (.t 0), none⟩,
  ⟨some 28, .nilCheck (.t 27), none⟩,
  ⟨some 29, .addOff 0 (.t 28), none⟩,
  ⟨some 30, .load1 (.t 29), none⟩,
  ⟨some 31, .lenStr (.t 30), none⟩,
  ⟨some 32, .bin .lss (.t 26) (.t 31), none⟩]
def f84d6 : ACode := .regD f84r6 [(0, []), (1, []), (2, []), (3, []), (4, []), (5, []), (6, []), (7, []), (8, []), (9, [])]
@[simp] theorem f84d6_u {X κ e h K p} : Run X κ f84d6 e h K p ↔ RIs X κ f84r6 e h K ⟨⟩ := Run_regD rfl
@[simp] def f84r10 : List AIns := [⟨some 40, .mov (.t 0), none⟩,
  ⟨some 41, .nilCheck (.t 40), none⟩,
  ⟨some 42, .addOff 1 (.t 41), none⟩,
  ⟨some 43, .load1 (.t 42), none⟩,
  ⟨some 44, .mov (.t 11), none⟩,
  ⟨some 6, .mov (.c (.slice none 0 0)), none⟩,
  ⟨some 7, .mov (.t 43), none⟩,
  ⟨some 8, .mov (.t 44), none⟩]
def f84d10 : ACode := .regD f84r10 [(0, []), (1, []), (2, []), (3, []), (4, []), (5, []), (6, []), (7, [])]
@[simp] theorem f84d10_u {X κ e h K p} : Run X κ f84d10 e h K p ↔ RIs X κ f84r10 e h K ⟨⟩ := Run_regD rfl
@[simp] def f84r15 : List AIns := [⟨some 61, .mov (.t 0), none⟩,
  ⟨some 62, .nilCheck (.t 61), none⟩,
  ⟨some 63, .addOff 1 (.t 62), none⟩,
  ⟨some 64, .load1 (.t 63), none⟩,
  ⟨some 65, .mov (.t 13), none⟩,
  ⟨some 6, .mov (.c (.slice none 0 0)), none⟩,
  ⟨some 7, .mov (.t 64), none⟩,
  ⟨some 8, .mov (.t 65), none⟩]
def f84d15 : ACode := .regD f84r15 [(0, []), (1, []), (2, []), (3, []), (4, []), (5, []), (6, []), (7, [])]
@[simp] theorem f84d15_u {X κ e h K p} : Run X κ f84d15 e h K p ↔ RIs X κ f84r15 e h K ⟨⟩ := Run_regD rfl
@[simp] def f84r22 : List AIns := [⟨some 102, .mov (.t 10), none⟩,
  ⟨some 103, .mov (.t 14), none⟩,
  ⟨some 104, .idxA 1 (.t 102) (.t 103), none⟩,
  ⟨some 105, .load1 (.t 104), none⟩,
  ⟨some 6, .mov (.c (.slice none 0 0)), none⟩,
  ⟨some 7, .mov (.t 105), none⟩,
  ⟨some 8, .mov (.c (.int .i64 180)), none⟩]
def f84d22 : ACode := .regD f84r22 [(0, []), (1, []), (2, []), (3, []), (4, []), (5, []), (6, [])]
@[simp] theorem f84d22_u {X κ e h K p} : Run X κ f84d22 e h K p ↔ RIs X κ f84r22 e h K ⟨⟩ := Run_regD rfl
@[simp] def f84r25 : List AIns := [⟨some 106, .mov (.t 9), none⟩,
  ⟨some 107, .mov (.t 0), none⟩,
  ⟨some 108, .nilCheck (.t 107), none⟩,
  ⟨some 109, .addOff 1 (.t 108), none⟩,
  ⟨some 110, .load1 (.t 109), none⟩,
  ⟨some 6, .mov (.t 106), none⟩,
  ⟨some 7, .mov (.t 110), none⟩,
  ⟨some 8, .mov (.c (.int .i64 0)), none⟩]
def f84d25 : ACode := .regD f84r25 [(0, []), (1, []), (2, []), (3, []), (4, []), (5, []), (6, []), (7, [])]
@[simp] theorem f84d25_u {X κ e h K p} : Run X κ f84d25 e h K p ↔ RIs X κ f84r25 e h K ⟨⟩ := Run_regD rfl
@[simp] def f85r7 : List AIns := [⟨some 24, .mov (.t 0), none⟩,
  ⟨some 25, .nilCheck (.t 24), none⟩,
  ⟨some 26, .addOff 0 (.t 25), none⟩,
  ⟨some 27, .load1 (.t 26), none⟩,
  ⟨some 28, .mov (.t 0), none⟩,
  ⟨some 29, .nilCheck (.t 28), none⟩,
  ⟨some 30, .addOff 1 (.t 29), none⟩,
  ⟨some 31, .load1 (.t 30), none⟩,
  ⟨some 32, .sliceStr (.t 27) (some (.t 31)) none, none⟩,
  ⟨some 33, .call (.c (.func (.func 115) #[] #[])) [(.t 32)], none⟩,
  ⟨some 23, .mov (.t 33), none⟩,
  ⟨some 34, .extract (.t 23) 0, none⟩,
  ⟨some 35, .extract (.t 23) 1, none⟩,
  ⟨some 6, .mov (.t 34), none⟩,
  ⟨some 7, .mov (.t 35), none⟩]
def f85d7 : ACode := .regD f85r7 [(0, []), (1, []), (2, []), (3, []), (4, []), (5, []), (6, []), (7, []), (8, []), (9, []), (10, []), (11, []), (12, []), (13, []), (14, [])]
@[simp] theorem f85d7_u {X κ e h K p} : Run X κ f85d7 e h K p ↔ RIs X κ f85r7 e h K ⟨⟩ := Run_regD rfl
@[simp] def f90r0 : List AIns := [⟨some 0, .alloc 44 [(.int .i64 0), (.int .i64 0)], none⟩]
@[simp] def f90r1 : List AIns := [⟨some 1, .build [(.int .i64 0), (.int .i64 0)] [(0, 1, (.c (.int .i64 (-1))))], none⟩,
  ⟨none, .store 2 (.t 0) (.t 1), none⟩]
@[simp] def f90b : ACode := (.seq (.reg f90r0) (.seq (.reg f90r1) .ret))
def f90 : AFn := ⟨2, f90b, [.cellN 0 2], .pure⟩
theorem f90_is : cFn Try.prog .pure 90 = some f90 := by kernel_rfl
@[simp] def f97r0 : List AIns := [⟨some 2, .box 46 (.t 0), none⟩,
  ⟨some 3, .box 46 (.t 1), none⟩,
  ⟨some 4, .mov (.c (.int .i64 0)), none⟩]
@[simp] def f97r1 : List AIns := [⟨some 5, .addOff 0 (.t 2), none⟩,
  ⟨some 6, .loadN 2 (.t 5), none⟩,
  ⟨some 7, .addOff 0 (.t 3), none⟩,
  ⟨some 8, .loadN 2 (.t 7), none⟩,
  ⟨some 9, .call (.c (.func (.func 103) #[] #[])) [(.t 6), (.t 8)], none⟩,
  ⟨some 10, .addOff 2 (.t 2), none⟩,
  ⟨some 11, .loadN 2 (.t 10), none⟩,
  ⟨some 12, .addOff 2 (.t 3), none⟩,
  ⟨some 13, .loadN 2 (.t 12), none⟩,
  ⟨some 14, .call (.c (.func (.func 103) #[] #[])) [(.t 11), (.t 13)], none⟩,
  ⟨some 15, .buildSlice 3 2 [(.int .i64 0), (.int .i64 0)] [(0, 1, (.t 9)), (1, 1, (.t 14))], none⟩,
  ⟨some 16, .call (.c (.func (.func 120) #[] #[])) [(.t 15)], none⟩,
  ⟨some 4, .mov (.t 16), none⟩]
@[simp] def f97d1 : ACode := .regD f97r1 [(0, []), (1, []), (2, []), (3, []), (5, []), (6, []), (7, []), (8, []), (4, [8, 6]), (9, []), (10, []), (11, []), (12, [])]
@[simp] def f97b : ACode := (.seq (.reg f97r0) (.seq f97d1 .ret))
def f97 : AFn := ⟨17, f97b, [.tmp 4], .pure⟩
theorem f97_is : cFn Try.prog .pure 97 = some f97 := by kernel_rfl
@[simp] def f98r0 : List AIns := [⟨some 2, .box 46 (.t 0), none⟩,
  ⟨some 3, .box 46 (.t 1), none⟩,
  ⟨some 4, .mov (.c (.bool false)), none⟩]
@[simp] def f98r1 : List AIns := [⟨some 8, .loadN 4 (.t 2), none⟩,
  ⟨some 9, .loadN 4 (.t 3), none⟩,
  ⟨some 10, .call (.c (.func (.func 121) #[] #[])) [(.t 8), (.t 9)], none⟩,
  ⟨some 7, .mov (.t 10), none⟩,
  ⟨some 11, .extract (.t 7) 0, none⟩,
  ⟨some 12, .extract (.t 7) 1, none⟩,
  ⟨some 5, .alloc 46 [(.int .i64 0), (.int .i64 0), (.int .i64 0), (.int .i64 0)], none⟩,
  ⟨none, .store 4 (.t 5) (.t 11), none⟩,
  ⟨some 6, .mov (.t 12), none⟩]
@[simp] def f98r2 : List AIns := [⟨some 13, .mov (.t 6), none⟩,
  ⟨some 4, .mov (.t 13), none⟩]
@[simp] def f98b : ACode := (.seq (.reg f98r0) (.seq (.reg f98r1) (.seq (.reg f98r2) .ret)))
def f98 : AFn := ⟨14, f98b, [.tmp 4], .pure⟩
theorem f98_is : cFn Try.prog .pure 98 = some f98 := by kernel_rfl
@[simp] def f99r0 : List AIns := [⟨some 2, .box 46 (.t 0), none⟩,
  ⟨some 3, .box 46 (.t 1), none⟩,
  ⟨some 4, .mov (.c (.bool false)), none⟩]
@[simp] def f99r1 : List AIns := [⟨some 5, .loadN 4 (.t 2), none⟩,
  ⟨some 6, .loadN 4 (.t 3), none⟩,
  ⟨some 7, .call (.c (.func (.func 122) #[] #[])) [(.t 5), (.t 6)], none⟩,
  ⟨some 8, .mov (.t 7), none⟩,
  ⟨some 9, .addOff 2 (.t 2), some (8, true)⟩,
  ⟨some 10, .loadN 2 (.t 9), some (8, true)⟩,
  ⟨some 11, .addOff 0 (.t 3), some (8, true)⟩,
  ⟨some 12, .loadN 2 (.t 11), some (8, true)⟩,
  ⟨some 13, .eqv false [.i, .i] true (.t 10) (.t 12), some (8, true)⟩,
  ⟨some 14, .mov (.t 13), some (8, true)⟩,
  ⟨some 15, .addOff 2 (.t 3), some (14, false)⟩,
  ⟨some 16, .loadN 2 (.t 15), some (14, false)⟩,
  ⟨some 17, .addOff 0 (.t 2), some (14, false)⟩,
  ⟨some 18, .loadN 2 (.t 17), some (14, false)⟩,
  ⟨some 19, .eqv false [.i, .i] true (.t 16) (.t 18), some (14, false)⟩,
  ⟨some 20, .pick (.t 14) (.c (.bool true)) (.t 19), some (8, true)⟩,
  ⟨some 21, .pick (.t 8) (.t 20) (.c (.bool false)), none⟩,
  ⟨some 4, .mov (.t 21), none⟩]
@[simp] def f99b : ACode := (.seq (.reg f99r0) (.seq (.reg f99r1) .ret))
def f99 : AFn := ⟨22, f99b, [.tmp 4], .pure⟩
theorem f99_is : cFn Try.prog .pure 99 = some f99 := by kernel_rfl
@[simp] def f100r0 : List AIns := [⟨some 2, .box 46 (.t 0), none⟩,
  ⟨some 3, .box 46 (.t 1), none⟩,
  ⟨some 4, .alloc 46 [(.int .i64 0), (.int .i64 0), (.int .i64 0), (.int .i64 0)], none⟩]
@[simp] def f100r1 : List AIns := [⟨some 5, .loadN 4 (.t 2), none⟩,
  ⟨some 6, .loadN 4 (.t 3), none⟩,
  ⟨some 7, .call (.c (.func (.func 122) #[] #[])) [(.t 5), (.t 6)], none⟩,
  ⟨some 8, .un .not (.t 7), none⟩]
@[simp] def f100r2 : List AIns := [⟨some 9, .build [(.int .i64 0), (.int .i64 0), (.int .i64 0), (.int .i64 0)] [], none⟩,
  ⟨none, .store 4 (.t 4) (.t 9), none⟩]
@[simp] def f100r3 : List AIns := [⟨some 10, .addOff 0 (.t 2), none⟩,
  ⟨some 11, .loadN 2 (.t 10), none⟩,
  ⟨some 12, .addOff 0 (.t 3), none⟩,
  ⟨some 13, .loadN 2 (.t 12), none⟩,
  ⟨some 14, .buildSlice 44 2 [(.int .i64 0), (.int .i64 0), (.int .i64 0), (.int .i64 0)] [(0, 2, (.t 11)), (2, 2, (.t 13))], none⟩,
  ⟨some 15, .call (.c (.func (.func 123) #[] #[])) [(.t 14)], none⟩,
  ⟨some 16, .addOff 2 (.t 2), none⟩,
  ⟨some 17, .loadN 2 (.t 16), none⟩,
  ⟨some 18, .addOff 2 (.t 3), none⟩,
  ⟨some 19, .loadN 2 (.t 18), none⟩,
  ⟨some 20, .buildSlice 44 2 [(.int .i64 0), (.int .i64 0), (.int .i64 0), (.int .i64 0)] [(0, 2, (.t 17)), (2, 2, (.t 19))], none⟩,
  ⟨some 21, .call (.c (.func (.func 124) #[] #[])) [(.t 20)], none⟩,
  ⟨some 22, .build [(.int .i64 0), (.int .i64 0), (.int .i64 0), (.int .i64 0)] [(0, 2, (.t 15)), (2, 2, (.t 21))], none⟩,
  ⟨none, .store 4 (.t 4) (.t 22), none⟩]
@[simp] def f100d3 : ACode := .regD f100r3 [(0, []), (1, []), (2, []), (3, []), (4, []), (6, []), (7, []), (8, []), (9, []), (10, []), (5, [9, 7]), (11, []), (12, []), (13, [])]
@[simp] def f100b : ACode := (.seq (.reg f100r0) (.seq (.seq (.reg f100r1) (.cond (.t 8) (.seq (.reg f100r2) .ret) .skip)) (.seq f100d3 .ret)))
def f100 : AFn := ⟨23, f100b, [.cellN 4 4], .pure⟩
theorem f100_is : cFn Try.prog .pure 100 = some f100 := by kernel_rfl
@[simp] def f101r0 : List AIns := [⟨some 2, .box 23 (.t 0), none⟩,
  ⟨some 3, .box 23 (.t 1), none⟩,
  ⟨some 4, .mov (.c .nilFunc), none⟩]
@[simp] def f101r1 : List AIns := [⟨some 5, .mkFunc (.func 125) [] [(.t 2), (.t 3)], none⟩,
  ⟨some 4, .mov (.t 5), none⟩]
@[simp] def f101b : ACode := (.seq (.reg f101r0) (.seq (.reg f101r1) .ret))
def f101 : AFn := ⟨6, f101b, [.tmp 4], .plain⟩
theorem f101_is : cFn Try.prog .plain 101 = some f101 := by kernel_rfl
@[simp] def f102r0 : List AIns := [⟨some 1, .box 44 (.t 0), none⟩,
  ⟨some 2, .mov (.c (.bool false)), none⟩]
@[simp] def f102r1 : List AIns := [⟨some 3, .loadN 2 (.t 1), none⟩,
  ⟨some 4, .call (.c (.func (.func 104) #[] #[])) [(.t 3)], none⟩,
  ⟨some 5, .loadN 2 (.t 1), none⟩,
  ⟨some 6, .eqv false [.i, .i] true (.t 4) (.t 5), none⟩,
  ⟨some 2, .mov (.t 6), none⟩]
@[simp] def f102d1 : ACode := .regD f102r1 [(0, []), (2, []), (1, [2]), (3, []), (4, [])]
@[simp] def f102b : ACode := (.seq (.reg f102r0) (.seq f102d1 .ret))
def f102 : AFn := ⟨7, f102b, [.tmp 2], .pure⟩
theorem f102_is : cFn Try.prog .pure 102 = some f102 := by kernel_rfl
@[simp] def f103r0 : List AIns := [⟨some 2, .box 44 (.t 0), none⟩,
  ⟨some 3, .box 44 (.t 1), none⟩,
  ⟨some 4, .mov (.c (.int .i64 0)), none⟩]
@[simp] def f103r1 : List AIns := [⟨some 5, .loadN 2 (.t 2), none⟩,
  ⟨some 6, .call (.c (.func (.func 104) #[] #[])) [(.t 5)], none⟩,
  ⟨some 7, .loadN 2 (.t 3), none⟩,
  ⟨some 8, .call (.c (.func (.func 104) #[] #[])) [(.t 7)], none⟩,
  ⟨none, .store 2 (.t 2) (.t 6), none⟩,
  ⟨none, .store 2 (.t 3) (.t 8), none⟩]
@[simp] def f103d1 : ACode := .regD f103r1 [(0, []), (2, []), (1, [2]), (3, []), (4, []), (5, [])]
@[simp] def f103r2 : List AIns := [⟨some 9, .addOff 0 (.t 2), none⟩,
  ⟨some 10, .load1 (.t 9), none⟩,
  ⟨some 11, .addOff 0 (.t 3), none⟩,
  ⟨some 12, .load1 (.t 11), none⟩,
  ⟨some 13, .call (.c (.func (.func 128) #[] #[])) [(.t 10), (.t 12)], none⟩,
  ⟨some 14, .addOff 1 (.t 2), none⟩,
  ⟨some 15, .load1 (.t 14), none⟩,
  ⟨some 16, .addOff 1 (.t 3), none⟩,
  ⟨some 17, .load1 (.t 16), none⟩,
  ⟨some 18, .call (.c (.func (.func 129) #[] #[])) [(.t 15), (.t 17)], none⟩,
  ⟨some 19, .buildSlice 3 2 [(.int .i64 0), (.int .i64 0)] [(0, 1, (.t 13)), (1, 1, (.t 18))], none⟩,
  ⟨some 20, .call (.c (.func (.func 120) #[] #[])) [(.t 19)], none⟩,
  ⟨some 4, .mov (.t 20), none⟩]
@[simp] def f103d2 : ACode := .regD f103r2 [(0, []), (1, []), (2, []), (3, []), (5, []), (6, []), (7, []), (8, []), (4, [8, 6]), (9, []), (10, []), (11, []), (12, [])]
@[simp] def f103b : ACode := (.seq (.reg f103r0) (.seq f103d1 (.seq f103d2 .ret)))
def f103 : AFn := ⟨21, f103b, [.tmp 4], .pure⟩
theorem f103_is : cFn Try.prog .pure 103 = some f103 := by kernel_rfl
@[simp] def f104r0 : List AIns := [⟨some 1, .box 44 (.t 0), none⟩,
  ⟨some 2, .alloc 44 [(.int .i64 0), (.int .i64 0)], none⟩]
@[simp] def f104r1 : List AIns := [⟨some 4, .addOff 0 (.t 1), none⟩,
  ⟨some 5, .load1 (.t 4), none⟩,
  ⟨some 6, .bin .lss (.t 5) (.c (.int .i64 0)), none⟩,
  ⟨some 7, .mov (.t 6), none⟩,
  ⟨some 8, .addOff 0 (.t 1), some (7, false)⟩,
  ⟨some 9, .load1 (.t 8), some (7, false)⟩,
  ⟨some 10, .bin .eql (.t 9) (.c (.int .i64 0)), some (7, false)⟩,
  ⟨some 11, .mov (.t 10), some (7, false)⟩,
  ⟨some 12, .addOff 1 (.t 1), some (11, true)⟩,
  ⟨some 13, .load1 (.t 12), some (11, true)⟩,
  ⟨some 14, .bin .eql (.t 13) (.c (.int .i64 (-9223372036854775808))), some (11, true)⟩,
  ⟨some 15, .pick (.t 11) (.t 14) (.c (.bool false)), some (7, false)⟩,
  ⟨some 16, .pick (.t 7) (.c (.bool true)) (.t 15), none⟩,
  ⟨some 3, .mov (.t 16), none⟩]
@[simp] def f104r2 : List AIns := [⟨some 17, .call (.c (.func (.func 90) #[] #[])) [], none⟩,
  ⟨none, .store 2 (.t 2) (.t 17), none⟩]
@[simp] def f104r3 : List AIns := [⟨some 19, .addOff 0 (.t 1), none⟩,
  ⟨some 20, .load1 (.t 19), none⟩,
  ⟨some 21, .bin .gtr (.t 20) (.c (.int .i64 0)), none⟩,
  ⟨some 18, .mov (.t 21), none⟩]
@[simp] def f104r4 : List AIns := [⟨some 22, .call (.c (.func (.func 117) #[] #[])) [], none⟩,
  ⟨none, .store 2 (.t 2) (.t 22), none⟩]
@[simp] def f104r5 : List AIns := [⟨some 23, .loadN 2 (.t 1), none⟩,
  ⟨none, .store 2 (.t 2) (.t 23), none⟩]
@[simp] def f104b : ACode := (.seq (.reg f104r0) (.seq (.block 0 (.seq (.reg f104r1) (.cond (.t 3) (.seq (.reg f104r2) .ret) (.seq (.reg f104r3) (.cond (.t 18) (.seq (.reg f104r4) .ret) .skip))))) (.seq (.reg f104r5) .ret)))
def f104 : AFn := ⟨24, f104b, [.cellN 2 2], .pure⟩
theorem f104_is : cFn Try.prog .pure 104 = some f104 := by kernel_rfl
@[simp] def f106r0 : List AIns := [⟨some 2, .mov (.c (.slice none 0 0)), none⟩]
@[simp] def f106r1 : List AIns := [⟨some 6, .mov (.t 0), none⟩,
  ⟨some 7, .len (.t 6), none⟩,
  ⟨some 8, .bin .lss (.t 7) (.c (.int .i64 2)), none⟩]
@[simp] def f106r2 : List AIns := [⟨some 9, .mov (.t 0), none⟩,
  ⟨some 2, .mov (.t 9), none⟩]
@[simp] def f106r3 : List AIns := [⟨some 3, .mov (.c (.int .i64 1)), none⟩]
@[simp] def f106r4 : List AIns := [⟨some 10, .mov (.t 3), none⟩,
  ⟨some 11, .mov (.t 0), none⟩,
  ⟨some 12, .len (.t 11), none⟩,
  ⟨some 13, .bin .lss (.t 10) (.t 12), none⟩]
@[simp] def f106r5 : List AIns := [⟨some 16, .mov (.t 0), none⟩,
  ⟨some 17, .mov (.t 3), none⟩,
  ⟨some 18, .idxA 2 (.t 16) (.t 17), none⟩,
  ⟨some 19, .loadN 2 (.t 18), none⟩,
  ⟨some 20, .mov (.t 0), none⟩,
  ⟨some 21, .mov (.t 3), none⟩,
  ⟨some 22, .bin .sub (.t 21) (.c (.int .i64 1)), none⟩,
  ⟨some 23, .idxA 2 (.t 20) (.t 22), none⟩,
  ⟨some 24, .loadN 2 (.t 23), none⟩,
  ⟨some 25, .eqv false [.i, .i] true (.t 19) (.t 24), none⟩]
def f106d5 : ACode := .regD f106r5 [(0, []), (1, []), (2, []), (3, []), (4, []), (5, []), (6, []), (7, []), (8, []), (9, [])]
@[simp] theorem f106d5_u {X κ e h K p} : Run X κ f106d5 e h K p ↔ RIs X κ f106r5 e h K ⟨⟩ := Run_regD rfl
@[simp] def f106r6 : List AIns := [⟨some 26, .mov (.t 0), none⟩,
  ⟨some 27, .mov (.t 3), none⟩,
  ⟨some 28, .slice 44 2 (.t 26) (some (.t 27)) none none, none⟩,
  ⟨some 4, .mov (.t 28), none⟩]
@[simp] def f106r7 : List AIns := [⟨some 5, .mov (.c (.int .i64 1)), none⟩]
@[simp] def f106r8 : List AIns := [⟨some 29, .mov (.t 5), none⟩,
  ⟨some 30, .mov (.t 4), none⟩,
  ⟨some 31, .len (.t 30), none⟩,
  ⟨some 32, .bin .lss (.t 29) (.t 31), none⟩]
@[simp] def f106r9 : List AIns := [⟨some 35, .mov (.t 4), none⟩,
  ⟨some 36, .mov (.t 5), none⟩,
  ⟨some 37, .idxA 2 (.t 35) (.t 36), none⟩,
  ⟨some 38, .loadN 2 (.t 37), none⟩,
  ⟨some 39, .mov (.t 4), none⟩,
  ⟨some 40, .mov (.t 5), none⟩,
  ⟨some 41, .bin .sub (.t 40) (.c (.int .i64 1)), none⟩,
  ⟨some 42, .idxA 2 (.t 39) (.t 41), none⟩,
  ⟨some 43, .loadN 2 (.t 42), none⟩,
  ⟨some 44, .eqv true [.i, .i] true (.t 38) (.t 43), none⟩]
def f106d9 : ACode := .regD f106r9 [(0, []), (1, []), (2, []), (3, []), (4, []), (5, []), (6, []), (7, []), (8, []), (9, [])]
@[simp] theorem f106d9_u {X κ e h K p} : Run X κ f106d9 e h K p ↔ RIs X κ f106r9 e h K ⟨⟩ := Run_regD rfl
@[simp] def f106r10 : List AIns := [⟨some 45, .mov (.t 0), none⟩,
  ⟨some 46, .mov (.t 3), none⟩,
  ⟨some 47, .mov (.t 4), none⟩,
  ⟨some 48, .mov (.t 5), none⟩,
  ⟨some 49, .idxA 2 (.t 47) (.t 48), none⟩,
  ⟨some 50, .loadN 2 (.t 49), none⟩,
  ⟨some 51, .idxA 2 (.t 45) (.t 46), none⟩,
  ⟨none, .store 2 (.t 51) (.t 50), none⟩]
@[simp] def f106r11 : List AIns := [⟨some 52, .mov (.t 3), none⟩,
  ⟨some 53, .bin .add (.t 52) (.c (.int .i64 1)), none⟩,
  ⟨some 3, .mov (.t 53), none⟩]
@[simp] def f106r12 : List AIns := [⟨some 33, .mov (.t 5), none⟩,
  ⟨some 34, .bin .add (.t 33) (.c (.int .i64 1)), none⟩,
  ⟨some 5, .mov (.t 34), none⟩]
@[simp] def f106l13 : ACode := (.seq (.seq (.reg f106r8) (.cond (.t 32) .skip (.exit 2))) (.seq (.block 3 (.seq f106d9 (.cond (.t 44) (.seq (.reg f106r10) (.reg f106r11)) .skip))) (.reg f106r12)))
@[simp] def f106r14 : List AIns := [⟨some 54, .mov (.t 0), none⟩,
  ⟨some 55, .mov (.t 3), none⟩,
  ⟨some 56, .slice 44 2 (.t 54) (some (.t 55)) none none, none⟩,
  ⟨none, .clear 2 [(.int .i64 0), (.int .i64 0)] (.t 56), none⟩]
@[simp] def f106r15 : List AIns := [⟨some 57, .mov (.t 0), none⟩,
  ⟨some 58, .mov (.t 3), none⟩,
  ⟨some 59, .slice 44 2 (.t 57) none (some (.t 58)) none, none⟩,
  ⟨some 2, .mov (.t 59), none⟩]
@[simp] def f106r16 : List AIns := [⟨some 14, .mov (.t 3), none⟩,
  ⟨some 15, .bin .add (.t 14) (.c (.int .i64 1)), none⟩,
  ⟨some 3, .mov (.t 15), none⟩]
@[simp] def f106l17 : ACode := (.seq (.seq (.reg f106r4) (.cond (.t 13) .skip (.exit 0))) (.seq (.block 1 (.seq f106d5 (.cond (.t 25) (.seq (.reg f106r6) (.seq (.seq (.reg f106r7) (.block 2 (.loop f106l13))) (.seq (.reg f106r14) (.seq (.reg f106r15) .ret)))) .skip))) (.reg f106r16)))
@[simp] def f106r18 : List AIns := [⟨some 60, .mov (.t 0), none⟩,
  ⟨some 2, .mov (.t 60), none⟩]
@[simp] def f106b : ACode := (.seq (.reg f106r0) (.seq (.seq (.reg f106r1) (.cond (.t 8) (.seq (.reg f106r2) .ret) .skip)) (.seq (.seq (.reg f106r3) (.block 0 (.loop f106l17))) (.seq (.reg f106r18) .ret))))
def f106 : AFn := ⟨61, f106b, [.tmp 2], .plain⟩
theorem f106_is : cFn Try.prog .plain 106 = some f106 := by kernel_rfl
@[simp] def f107r0 : List AIns := [⟨some 0, .mov (.c (.int .i64 0)), none⟩]
@[simp] def f107r1 : List AIns := [⟨some 0, .mov (.c (.int .i64 (-9223372036854775808))), none⟩]
@[simp] def f107b : ACode := (.seq (.reg f107r0) (.seq (.reg f107r1) .ret))
def f107 : AFn := ⟨1, f107b, [.tmp 0], .pure⟩
theorem f107_is : cFn Try.prog .pure 107 = some f107 := by kernel_rfl
@[simp] def f108r0 : List AIns := [⟨some 2, .alloc 44 [(.int .i64 0), (.int .i64 0)], none⟩]
@[simp] def f108r1 : List AIns := [⟨some 3, .mov (.t 0), none⟩,
  ⟨some 4, .build [(.int .i64 0), (.int .i64 0)] [(1, 1, (.t 3))], none⟩,
  ⟨some 5, .call (.c (.func (.func 73) #[] #[])) [(.t 4)], none⟩,
  ⟨none, .store 2 (.t 2) (.t 5), none⟩]
@[simp] def f108b : ACode := (.seq (.reg f108r0) (.seq (.reg f108r1) .ret))
def f108 : AFn := ⟨6, f108b, [.cellN 2 2], .pure⟩
theorem f108_is : cFn Try.prog .pure 108 = some f108 := by kernel_rfl
@[simp] def f109r0 : List AIns := [⟨some 4, .mov (.t 0), none⟩,
  ⟨some 5, .nilCheck (.t 4), none⟩,
  ⟨some 6, .addOff 0 (.t 5), none⟩,
  ⟨some 7, .load1 (.t 6), none⟩,
  ⟨some 8, .mov (.t 0), none⟩,
  ⟨some 9, .nilCheck (.t 8), none⟩,
  ⟨some 10, .addOff 1 (.t 9), none⟩,
  ⟨some 11, .load1 (.t 10), none⟩,
  ⟨some 12, .sliceStr (.t 7) (some (.t 11)) none, none⟩,
  ⟨some 13, .rangeS (.t 12), none⟩]
def f109d0 : ACode := .regD f109r0 [(0, []), (1, []), (2, []), (3, []), (4, []), (5, []), (6, []), (7, []), (8, []), (9, [])]
@[simp] theorem f109d0_u {X κ e h K p} : Run X κ f109d0 e h K p ↔ RIs X κ f109r0 e h K ⟨⟩ := Run_regD rfl
@[simp] def f110r2 : List AIns := [⟨some 7, .mov (.t 0), none⟩,
  ⟨some 8, .nilCheck (.t 7), none⟩,
  ⟨some 9, .addOff 0 (.t 8), none⟩,
  ⟨some 10, .load1 (.t 9), none⟩,
  ⟨some 11, .mov (.t 0), none⟩,
  ⟨some 12, .nilCheck (.t 11), none⟩,
  ⟨some 13, .addOff 1 (.t 12), none⟩,
  ⟨some 14, .load1 (.t 13), none⟩,
  ⟨some 15, .sliceStr (.t 10) (some (.t 14)) none, none⟩,
  ⟨some 16, .mov (.t 1), none⟩,
  ⟨some 17, .call (.c (.func (.func 131) #[] #[])) [(.t 15), (.t 16)], none⟩,
  ⟨some 18, .un .not (.t 17), none⟩]
def f110d2 : ACode := .regD f110r2 [(0, []), (1, []), (2, []), (3, []), (4, []), (5, []), (6, []), (7, []), (8, []), (9, []), (10, []), (11, [])]
@[simp] theorem f110d2_u {X κ e h K p} : Run X κ f110d2 e h K p ↔ RIs X κ f110r2 e h K ⟨⟩ := Run_regD rfl
@[simp] def f117r0 : List AIns := [⟨some 0, .alloc 44 [(.int .i64 0), (.int .i64 0)], none⟩]
@[simp] def f117r1 : List AIns := [⟨some 1, .build [(.int .i64 0), (.int .i64 0)] [(0, 1, (.c (.int .i64 1)))], none⟩,
  ⟨none, .store 2 (.t 0) (.t 1), none⟩]
@[simp] def f117b : ACode := (.seq (.reg f117r0) (.seq (.reg f117r1) .ret))
def f117 : AFn := ⟨2, f117b, [.cellN 0 2], .pure⟩
theorem f117_is : cFn Try.prog .pure 117 = some f117 := by kernel_rfl
@[simp] def f118r17 : List AIns := [⟨some 81, .mov (.t 1), none⟩,
  ⟨some 82, .bin .gtr (.t 81) (.c (.int .i64 0)), none⟩,
  ⟨some 83, .mov (.t 82), none⟩,
  ⟨some 84, .mov (.t 4), some (83, true)⟩,
  ⟨some 85, .mov (.t 0), some (83, true)⟩,
  ⟨some 86, .mov (.t 1), some (83, true)⟩,
  ⟨some 87, .bin .sub (.t 86) (.c (.int .i64 1)), some (83, true)⟩,
  ⟨some 88, .idxA 4 (.t 85) (.t 87), some (83, true)⟩,
  ⟨some 89, .loadN 4 (.t 88), some (83, true)⟩,
  ⟨some 90, .mov (.t 0), some (83, true)⟩,
  ⟨some 91, .mov (.t 13), some (83, true)⟩,
  ⟨some 92, .idxA 4 (.t 90) (.t 91), some (83, true)⟩,
  ⟨some 93, .loadN 4 (.t 92), some (83, true)⟩,
  ⟨some 94, .call (.t 84) [(.t 89), (.t 93)], some (83, true)⟩,
  ⟨some 95, .bin .lss (.t 94) (.c (.int .i64 0)), some (83, true)⟩,
  ⟨some 96, .un .not (.t 95), some (83, true)⟩,
  ⟨some 97, .pick (.t 83) (.t 96) (.c (.bool false)), none⟩]
def f118d17 : ACode := .regD f118r17 [(0, []), (1, []), (2, []), (3, []), (4, []), (5, []), (6, []), (7, []), (8, []), (9, []), (10, []), (11, []), (12, []), (13, []), (14, []), (15, []), (16, [])]
@[simp] theorem f118d17_u {X κ e h K p} : Run X κ f118d17 e h K p ↔ RIs X κ f118r17 e h K ⟨⟩ := Run_regD rfl
@[simp] def f120r0 : List AIns := [⟨some 2, .mov (.c (.int .i64 0)), none⟩]
@[simp] def f120r1 : List AIns := [⟨some 3, .mov (.c (.int .i64 0)), none⟩]
@[simp] def f120r2 : List AIns := [⟨some 6, .mov (.t 0), none⟩,
  ⟨some 7, .len (.t 6), none⟩,
  ⟨some 8, .mov (.c (.int .i64 0)), none⟩]
@[simp] def f120r3 : List AIns := [⟨some 9, .bin .lss (.t 8) (.t 7), none⟩]
@[simp] def f120r4 : List AIns := [⟨some 10, .idxA 1 (.t 6) (.t 8), none⟩,
  ⟨some 11, .load1 (.t 10), none⟩,
  ⟨some 5, .mov (.t 11), none⟩]
@[simp] def f120r5 : List AIns := [⟨some 12, .mov (.t 5), none⟩,
  ⟨some 13, .mov (.t 3), none⟩,
  ⟨some 14, .bin .neq (.t 12) (.t 13), none⟩]
@[simp] def f120r6 : List AIns := [⟨some 15, .mov (.t 5), none⟩,
  ⟨some 2, .mov (.t 15), none⟩]
@[simp] def f120r7 : List AIns := [⟨some 16, .bin .add (.t 8) (.c (.int .i64 1)), none⟩,
  ⟨some 8, .mov (.t 16), none⟩]
@[simp] def f120l8 : ACode := (.seq (.reg f120r3) (.seq (.cond (.t 9) .skip (.exit 0)) (.seq (.block 1 (.seq (.reg f120r4) (.seq (.reg f120r5) (.cond (.t 14) (.seq (.reg f120r6) .ret) .skip)))) (.reg f120r7))))
@[simp] def f120r9 : List AIns := [⟨some 17, .mov (.t 3), none⟩,
  ⟨some 2, .mov (.t 17), none⟩]
@[simp] def f120b : ACode := (.seq (.reg f120r0) (.seq (.reg f120r1) (.seq (.seq (.reg f120r2) (.block 0 (.loop f120l8))) (.seq (.reg f120r9) .ret))))
def f120 : AFn := ⟨18, f120b, [.tmp 2], .pure⟩
theorem f120_is : cFn Try.prog .pure 120 = some f120 := by kernel_rfl
@[simp] def f121r0 : List AIns := [⟨some 2, .box 46 (.t 0), none⟩,
  ⟨some 3, .box 46 (.t 1), none⟩,
  ⟨some 4, .alloc 46 [(.int .i64 0), (.int .i64 0), (.int .i64 0), (.int .i64 0)], none⟩,
  ⟨some 5, .mov (.c (.bool false)), none⟩]
@[simp] def f121r1 : List AIns := [⟨some 8, .loadN 4 (.t 2), none⟩,
  ⟨some 9, .loadN 4 (.t 3), none⟩,
  ⟨some 10, .call (.c (.func (.func 122) #[] #[])) [(.t 8), (.t 9)], none⟩,
  ⟨some 11, .un .not (.t 10), none⟩]
@[simp] def f121r2 : List AIns := [⟨some 12, .build [(.int .i64 0), (.int .i64 0), (.int .i64 0), (.int .i64 0)] [], none⟩,
  ⟨none, .store 4 (.t 4) (.t 12), none⟩,
  ⟨some 5, .mov (.c (.bool false)), none⟩]
@[simp] def f121r3 : List AIns := [⟨some 14, .addOff 0 (.t 2), none⟩,
  ⟨some 15, .loadN 2 (.t 14), none⟩,
  ⟨some 16, .addOff 0 (.t 3), none⟩,
  ⟨some 17, .loadN 2 (.t 16), none⟩,
  ⟨some 18, .buildSlice 44 2 [(.int .i64 0), (.int .i64 0), (.int .i64 0), (.int .i64 0)] [(0, 2, (.t 15)), (2, 2, (.t 17))], none⟩,
  ⟨some 19, .call (.c (.func (.func 124) #[] #[])) [(.t 18)], none⟩,
  ⟨some 20, .addOff 2 (.t 2), none⟩,
  ⟨some 21, .loadN 2 (.t 20), none⟩,
  ⟨some 22, .addOff 2 (.t 3), none⟩,
  ⟨some 23, .loadN 2 (.t 22), none⟩,
  ⟨some 24, .buildSlice 44 2 [(.int .i64 0), (.int .i64 0), (.int .i64 0), (.int .i64 0)] [(0, 2, (.t 21)), (2, 2, (.t 23))], none⟩,
  ⟨some 25, .call (.c (.func (.func 123) #[] #[])) [(.t 24)], none⟩,
  ⟨some 26, .call (.c (.func (.func 157) #[] #[])) [(.t 19), (.t 25)], none⟩,
  ⟨some 13, .mov (.t 26), none⟩,
  ⟨some 27, .extract (.t 13) 0, none⟩,
  ⟨some 28, .extract (.t 13) 1, none⟩,
  ⟨some 6, .alloc 46 [(.int .i64 0), (.int .i64 0), (.int .i64 0), (.int .i64 0)], none⟩,
  ⟨none, .store 4 (.t 6) (.t 27), none⟩,
  ⟨some 7, .mov (.t 28), none⟩]
@[simp] def f121d3 : ACode := .regD f121r3 [(0, []), (1, []), (2, []), (3, []), (4, []), (6, []), (7, []), (8, []), (9, []), (10, []), (16, []), (5, [9, 7]), (11, []), (12, []), (13, []), (14, []), (15, []), (17, []), (18, [])]
@[simp] def f121r4 : List AIns := [⟨some 29, .loadN 4 (.t 6), none⟩,
  ⟨some 30, .mov (.t 7), none⟩,
  ⟨some 31, .bin .eql (.t 30) (.c (.int .i64 0)), none⟩,
  ⟨none, .store 4 (.t 4) (.t 29), none⟩,
  ⟨some 5, .mov (.t 31), none⟩]
@[simp] def f121b : ACode := (.seq (.reg f121r0) (.seq (.seq (.reg f121r1) (.cond (.t 11) (.seq (.reg f121r2) .ret) .skip)) (.seq f121d3 (.seq (.reg f121r4) .ret))))
def f121 : AFn := ⟨32, f121b, [.cellN 4 4, .tmp 5], .pure⟩
theorem f121_is : cFn Try.prog .pure 121 = some f121 := by kernel_rfl
@[simp] def f122r0 : List AIns := [⟨some 2, .box 46 (.t 0), none⟩,
  ⟨some 3, .box 46 (.t 1), none⟩,
  ⟨some 4, .mov (.c (.bool false)), none⟩]
@[simp] def f122r1 : List AIns := [⟨some 5, .loadN 4 (.t 2), none⟩,
  ⟨some 6, .call (.c (.func (.func 71) #[] #[])) [(.t 5)], none⟩,
  ⟨some 7, .mov (.t 6), none⟩,
  ⟨some 8, .loadN 4 (.t 3), some (7, true)⟩,
  ⟨some 9, .call (.c (.func (.func 71) #[] #[])) [(.t 8)], some (7, true)⟩,
  ⟨some 10, .pick (.t 7) (.t 9) (.c (.bool false)), none⟩,
  ⟨some 4, .mov (.t 10), none⟩]
@[simp] def f122b : ACode := (.seq (.reg f122r0) (.seq (.reg f122r1) .ret))
def f122 : AFn := ⟨11, f122b, [.tmp 4], .pure⟩
theorem f122_is : cFn Try.prog .pure 122 = some f122 := by kernel_rfl
@[simp] def f123r0 : List AIns := [⟨some 2, .alloc 44 [(.int .i64 0), (.int .i64 0)], none⟩]
@[simp] def f123r1 : List AIns := [⟨some 6, .call (.c (.func (.func 117) #[] #[])) [], none⟩,
  ⟨some 3, .alloc 44 [(.int .i64 0), (.int .i64 0)], none⟩,
  ⟨none, .store 2 (.t 3) (.t 6), none⟩]
@[simp] def f123r2 : List AIns := [⟨some 7, .mov (.t 0), none⟩,
  ⟨some 8, .len (.t 7), none⟩,
  ⟨some 9, .mov (.c (.int .i64 0)), none⟩]
@[simp] def f123r3 : List AIns := [⟨some 10, .bin .lss (.t 9) (.t 8), none⟩]
@[simp] def f123r4 : List AIns := [⟨some 11, .idxA 2 (.t 7) (.t 9), none⟩,
  ⟨some 12, .loadN 2 (.t 11), none⟩,
  ⟨some 5, .alloc 44 [(.int .i64 0), (.int .i64 0)], none⟩,
  ⟨none, .store 2 (.t 5) (.t 12), none⟩]
@[simp] def f123r5 : List AIns := [⟨some 13, .loadN 2 (.t 5), none⟩,
  ⟨some 14, .loadN 2 (.t 3), none⟩,
  ⟨some 15, .call (.c (.func (.func 103) #[] #[])) [(.t 13), (.t 14)], none⟩,
  ⟨some 16, .bin .lss (.t 15) (.c (.int .i64 0)), none⟩]
@[simp] def f123r6 : List AIns := [⟨some 17, .loadN 2 (.t 5), none⟩,
  ⟨some 18, .call (.c (.func (.func 104) #[] #[])) [(.t 17)], none⟩,
  ⟨none, .store 2 (.t 3) (.t 18), none⟩]
@[simp] def f123r7 : List AIns := [⟨some 19, .bin .add (.t 9) (.c (.int .i64 1)), none⟩,
  ⟨some 9, .mov (.t 19), none⟩]
@[simp] def f123l8 : ACode := (.seq (.reg f123r3) (.seq (.cond (.t 10) .skip (.exit 0)) (.seq (.block 1 (.seq (.reg f123r4) (.seq (.reg f123r5) (.cond (.t 16) (.reg f123r6) .skip)))) (.reg f123r7))))
@[simp] def f123r9 : List AIns := [⟨some 20, .loadN 2 (.t 3), none⟩,
  ⟨none, .store 2 (.t 2) (.t 20), none⟩]
@[simp] def f123b : ACode := (.seq (.reg f123r0) (.seq (.reg f123r1) (.seq (.seq (.reg f123r2) (.block 0 (.loop f123l8))) (.seq (.reg f123r9) .ret))))
def f123 : AFn := ⟨21, f123b, [.cellN 2 2], .pure⟩
theorem f123_is : cFn Try.prog .pure 123 = some f123 := by kernel_rfl
@[simp] def f124r0 : List AIns := [⟨some 2, .alloc 44 [(.int .i64 0), (.int .i64 0)], none⟩]
@[simp] def f124r1 : List AIns := [⟨some 6, .call (.c (.func (.func 90) #[] #[])) [], none⟩,
  ⟨some 3, .alloc 44 [(.int .i64 0), (.int .i64 0)], none⟩,
  ⟨none, .store 2 (.t 3) (.t 6), none⟩]
@[simp] def f124r2 : List AIns := [⟨some 7, .mov (.t 0), none⟩,
  ⟨some 8, .len (.t 7), none⟩,
  ⟨some 9, .mov (.c (.int .i64 0)), none⟩]
@[simp] def f124r3 : List AIns := [⟨some 10, .bin .lss (.t 9) (.t 8), none⟩]
@[simp] def f124r4 : List AIns := [⟨some 11, .idxA 2 (.t 7) (.t 9), none⟩,
  ⟨some 12, .loadN 2 (.t 11), none⟩,
  ⟨some 5, .alloc 44 [(.int .i64 0), (.int .i64 0)], none⟩,
  ⟨none, .store 2 (.t 5) (.t 12), none⟩]
@[simp] def f124r5 : List AIns := [⟨some 13, .loadN 2 (.t 5), none⟩,
  ⟨some 14, .loadN 2 (.t 3), none⟩,
  ⟨some 15, .call (.c (.func (.func 103) #[] #[])) [(.t 13), (.t 14)], none⟩,
  ⟨some 16, .bin .gtr (.t 15) (.c (.int .i64 0)), none⟩]
@[simp] def f124r6 : List AIns := [⟨some 17, .loadN 2 (.t 5), none⟩,
  ⟨some 18, .call (.c (.func (.func 104) #[] #[])) [(.t 17)], none⟩,
  ⟨none, .store 2 (.t 3) (.t 18), none⟩]
@[simp] def f124r7 : List AIns := [⟨some 19, .bin .add (.t 9) (.c (.int .i64 1)), none⟩,
  ⟨some 9, .mov (.t 19), none⟩]
@[simp] def f124l8 : ACode := (.seq (.reg f124r3) (.seq (.cond (.t 10) .skip (.exit 0)) (.seq (.block 1 (.seq (.reg f124r4) (.seq (.reg f124r5) (.cond (.t 16) (.reg f124r6) .skip)))) (.reg f124r7))))
@[simp] def f124r9 : List AIns := [⟨some 20, .loadN 2 (.t 3), none⟩,
  ⟨none, .store 2 (.t 2) (.t 20), none⟩]
@[simp] def f124b : ACode := (.seq (.reg f124r0) (.seq (.reg f124r1) (.seq (.seq (.reg f124r2) (.block 0 (.loop f124l8))) (.seq (.reg f124r9) .ret))))
def f124 : AFn := ⟨21, f124b, [.cellN 2 2], .pure⟩
theorem f124_is : cFn Try.prog .pure 124 = some f124 := by kernel_rfl
@[simp] def f125r0 : List AIns := [⟨some 9, .load1 (.t 1), none⟩,
  ⟨some 10, .call (.c (.func (.func 126) #[] #[])) [(.t 9)], none⟩,
  ⟨some 11, .load1 (.t 2), none⟩,
  ⟨some 12, .append 46 4 32 (.t 10) (.t 11), none⟩,
  ⟨some 13, .call (.c (.func (.func 37) #[] #[])) [(.t 12)], none⟩,
  ⟨some 4, .mov (.t 13), none⟩]
@[simp] def f125d0 : ACode := .regD f125r0 [(0, []), (2, []), (1, [2]), (3, []), (4, []), (5, [])]
@[simp] def f125r1 : List AIns := [⟨some 14, .load1 (.t 1), none⟩,
  ⟨some 15, .call (.c (.func (.func 61) #[] #[])) [(.t 14)], none⟩,
  ⟨some 16, .build [(.slice none 0 0), (.int .i64 0)] [(0, 1, (.t 15))], none⟩,
  ⟨some 17, .box 139 (.t 16), none⟩,
  ⟨some 18, .load1 (.t 2), none⟩,
  ⟨some 19, .call (.c (.func (.func 61) #[] #[])) [(.t 18)], none⟩,
  ⟨some 20, .build [(.slice none 0 0), (.int .i64 0)] [(0, 1, (.t 19))], none⟩,
  ⟨some 21, .box 139 (.t 20), none⟩,
  ⟨some 5, .mov (.t 17), none⟩,
  ⟨some 6, .mov (.t 21), none⟩]
@[simp] def f125d1 : ACode := .regD f125r1 [(0, []), (4, []), (1, [4]), (2, []), (3, []), (5, []), (6, []), (7, []), (8, []), (9, [])]
@[simp] def f125r2 : List AIns := [⟨some 7, .mov (.c (.int .i64 1)), none⟩]
@[simp] def f125r3 : List AIns := [⟨some 22, .mov (.t 7), none⟩,
  ⟨some 23, .mov (.t 4), none⟩,
  ⟨some 24, .len (.t 23), none⟩,
  ⟨some 25, .bin .lss (.t 22) (.t 24), none⟩]
@[simp] def f125r4 : List AIns := [⟨some 28, .mov (.t 4), none⟩,
  ⟨some 29, .mov (.t 7), none⟩,
  ⟨some 30, .bin .sub (.t 29) (.c (.int .i64 1)), none⟩,
  ⟨some 31, .idxA 2 (.t 28) (.t 30), none⟩,
  ⟨some 32, .loadN 2 (.t 31), none⟩,
  ⟨some 33, .mov (.t 4), none⟩,
  ⟨some 34, .mov (.t 7), none⟩,
  ⟨some 35, .idxA 2 (.t 33) (.t 34), none⟩,
  ⟨some 36, .loadN 2 (.t 35), none⟩,
  ⟨some 37, .build [(.int .i64 0), (.int .i64 0), (.int .i64 0), (.int .i64 0)] [(0, 2, (.t 32)), (2, 2, (.t 36))], none⟩,
  ⟨some 8, .alloc 46 [(.int .i64 0), (.int .i64 0), (.int .i64 0), (.int .i64 0)], none⟩,
  ⟨none, .store 4 (.t 8) (.t 37), none⟩]
def f125d4 : ACode := .regD f125r4 [(0, []), (1, []), (2, []), (3, []), (4, []), (5, []), (6, []), (7, []), (8, []), (9, []), (10, []), (11, [])]
@[simp] theorem f125d4_u {X κ e h K p} : Run X κ f125d4 e h K p ↔ RIs X κ f125r4 e h K ⟨⟩ := Run_regD rfl
@[simp] def f125r5 : List AIns := [⟨some 38, .mov (.t 0), none⟩,
  ⟨some 39, .loadN 4 (.t 8), none⟩,
  ⟨some 40, .mov (.t 5), none⟩,
  ⟨some 41, .addOff 0 (.t 8), none⟩,
  ⟨some 42, .loadN 2 (.t 41), none⟩,
  ⟨some 43, .call (.c (.func (.func 127) #[] #[])) [(.t 40), (.t 42)], none⟩,
  ⟨some 44, .mov (.t 6), none⟩,
  ⟨some 45, .addOff 0 (.t 8), none⟩,
  ⟨some 46, .loadN 2 (.t 45), none⟩,
  ⟨some 47, .call (.c (.func (.func 127) #[] #[])) [(.t 44), (.t 46)], none⟩,
  ⟨some 48, .build [(.bool false), (.bool false)] [(0, 1, (.t 43)), (1, 1, (.t 47))], none⟩,
  ⟨some 49, .call (.t 38) [(.t 39), (.t 48)], none⟩,
  ⟨some 50, .un .not (.t 49), none⟩]
@[simp] def f125d5 : ACode := .regD f125r5 [(0, []), (1, []), (2, []), (3, []), (4, []), (6, []), (7, []), (8, []), (5, [8, 1]), (9, [1]), (10, []), (11, []), (12, [])]
@[simp] def f125r6 : List AIns := [⟨some 26, .mov (.t 7), none⟩,
  ⟨some 27, .bin .add (.t 26) (.c (.int .i64 1)), none⟩,
  ⟨some 7, .mov (.t 27), none⟩]
@[simp] def f125l7 : ACode := (.seq (.seq (.reg f125r3) (.cond (.t 25) .skip (.exit 0))) (.seq (.block 1 (.seq f125d4 (.seq f125d5 (.cond (.t 50) .ret .skip)))) (.reg f125r6)))
@[simp] def f125b : ACode := (.seq f125d0 (.seq f125d1 (.seq (.reg f125r2) (.block 0 (.loop f125l7)))))
def f125 : AFn := ⟨51, f125b, [], .plain⟩
theorem f125_is : cFn Try.prog .plain 125 = some f125 := by kernel_rfl
@[simp] def f126r0 : List AIns := [⟨some 2, .mov (.c (.slice none 0 0)), none⟩]
@[simp] def f126r1 : List AIns := [⟨some 3, .mov (.t 0), none⟩,
  ⟨some 4, .eqv false [.sl] false (.t 3) (.c (.slice none 0 0)), none⟩]
@[simp] def f126r2 : List AIns := [⟨some 2, .mov (.c (.slice none 0 0)), none⟩]
@[simp] def f126r3 : List AIns := [⟨some 5, .buildSlice 46 0 [] [], none⟩,
  ⟨some 6, .mov (.t 0), none⟩,
  ⟨some 7, .append 46 4 32 (.t 5) (.t 6), none⟩,
  ⟨some 2, .mov (.t 7), none⟩]
@[simp] def f126b : ACode := (.seq (.reg f126r0) (.seq (.seq (.reg f126r1) (.cond (.t 4) (.seq (.reg f126r2) .ret) .skip)) (.seq (.reg f126r3) .ret)))
def f126 : AFn := ⟨8, f126b, [.tmp 2], .pure⟩
theorem f126_is : cFn Try.prog .pure 126 = some f126 := by kernel_rfl
@[simp] def f127r0 : List AIns := [⟨some 3, .box 44 (.t 1), none⟩,
  ⟨some 4, .mov (.c (.bool false)), none⟩]
@[simp] def f127r1 : List AIns := [⟨some 5, .mov (.t 0), none⟩,
  ⟨some 6, .nilCheck (.t 5), none⟩,
  ⟨some 7, .addOff 1 (.t 6), none⟩,
  ⟨some 8, .load1 (.t 7), none⟩,
  ⟨some 9, .mov (.t 0), none⟩,
  ⟨some 10, .nilCheck (.t 9), none⟩,
  ⟨some 11, .addOff 0 (.t 10), none⟩,
  ⟨some 12, .load1 (.t 11), none⟩,
  ⟨some 13, .len (.t 12), none⟩,
  ⟨some 14, .bin .lss (.t 8) (.t 13), none⟩,
  ⟨some 15, .mov (.t 14), none⟩,
  ⟨some 16, .mov (.t 0), some (15, true)⟩,
  ⟨some 17, .nilCheck (.t 16), some (15, true)⟩,
  ⟨some 18, .addOff 0 (.t 17), some (15, true)⟩,
  ⟨some 19, .load1 (.t 18), some (15, true)⟩,
  ⟨some 20, .mov (.t 0), some (15, true)⟩,
  ⟨some 21, .nilCheck (.t 20), some (15, true)⟩,
  ⟨some 22, .addOff 1 (.t 21), some (15, true)⟩,
  ⟨some 23, .load1 (.t 22), some (15, true)⟩,
  ⟨some 24, .idxA 4 (.t 19) (.t 23), some (15, true)⟩,
  ⟨some 25, .addOff 2 (.t 24), some (15, true)⟩,
  ⟨some 26, .loadN 2 (.t 25), some (15, true)⟩,
  ⟨some 27, .loadN 2 (.t 3), some (15, true)⟩,
  ⟨some 28, .call (.c (.func (.func 103) #[] #[])) [(.t 26), (.t 27)], some (15, true)⟩,
  ⟨some 29, .bin .leq (.t 28) (.c (.int .i64 0)), some (15, true)⟩,
  ⟨some 30, .pick (.t 15) (.t 29) (.c (.bool false)), none⟩]
def f127d1 : ACode := .regD f127r1 [(0, []), (1, []), (2, []), (3, []), (4, []), (5, []), (6, []), (7, []), (8, []), (9, []), (10, []), (11, []), (12, []), (13, []), (14, []), (15, []), (16, []), (17, []), (18, []), (19, []), (20, []), (21, []), (22, []), (23, []), (24, []), (25, [])]
@[simp] theorem f127d1_u {X κ e h K p} : Run X κ f127d1 e h K p ↔ RIs X κ f127r1 e h K ⟨⟩ := Run_regD rfl
@[simp] def f127r2 : List AIns := [⟨some 31, .mov (.t 0), none⟩,
  ⟨some 32, .nilCheck (.t 31), none⟩,
  ⟨some 33, .addOff 1 (.t 32), none⟩,
  ⟨some 34, .load1 (.t 33), none⟩,
  ⟨some 35, .bin .add (.t 34) (.c (.int .i64 1)), none⟩,
  ⟨some 36, .nilCheck (.t 31), none⟩,
  ⟨some 37, .addOff 1 (.t 36), none⟩,
  ⟨none, .store 1 (.t 37) (.t 35), none⟩]
@[simp] def f127l3 : ACode := (.seq (.seq f127d1 (.cond (.t 30) .skip (.exit 0))) (.block 1 (.reg f127r2)))
@[simp] def f127r4 : List AIns := [⟨some 38, .mov (.t 0), none⟩,
  ⟨some 39, .nilCheck (.t 38), none⟩,
  ⟨some 40, .addOff 1 (.t 39), none⟩,
  ⟨some 41, .load1 (.t 40), none⟩,
  ⟨some 42, .mov (.t 0), none⟩,
  ⟨some 43, .nilCheck (.t 42), none⟩,
  ⟨some 44, .addOff 0 (.t 43), none⟩,
  ⟨some 45, .load1 (.t 44), none⟩,
  ⟨some 46, .len (.t 45), none⟩,
  ⟨some 47, .bin .lss (.t 41) (.t 46), none⟩,
  ⟨some 48, .mov (.t 47), none⟩,
  ⟨some 49, .mov (.t 0), some (48, true)⟩,
  ⟨some 50, .nilCheck (.t 49), some (48, true)⟩,
  ⟨some 51, .addOff 0 (.t 50), some (48, true)⟩,
  ⟨some 52, .load1 (.t 51), some (48, true)⟩,
  ⟨some 53, .mov (.t 0), some (48, true)⟩,
  ⟨some 54, .nilCheck (.t 53), some (48, true)⟩,
  ⟨some 55, .addOff 1 (.t 54), some (48, true)⟩,
  ⟨some 56, .load1 (.t 55), some (48, true)⟩,
  ⟨some 57, .idxA 4 (.t 52) (.t 56), some (48, true)⟩,
  ⟨some 58, .addOff 0 (.t 57), some (48, true)⟩,
  ⟨some 59, .loadN 2 (.t 58), some (48, true)⟩,
  ⟨some 60, .loadN 2 (.t 3), some (48, true)⟩,
  ⟨some 61, .call (.c (.func (.func 103) #[] #[])) [(.t 59), (.t 60)], some (48, true)⟩,
  ⟨some 62, .bin .leq (.t 61) (.c (.int .i64 0)), some (48, true)⟩,
  ⟨some 63, .pick (.t 48) (.t 62) (.c (.bool false)), none⟩,
  ⟨some 4, .mov (.t 63), none⟩]
def f127d4 : ACode := .regD f127r4 [(0, []), (1, []), (2, []), (3, []), (4, []), (5, []), (6, []), (7, []), (8, []), (9, []), (10, []), (11, []), (12, []), (13, []), (14, []), (15, []), (16, []), (17, []), (18, []), (19, []), (20, []), (21, []), (22, []), (23, []), (24, []), (25, []), (26, [])]
@[simp] theorem f127d4_u {X κ e h K p} : Run X κ f127d4 e h K p ↔ RIs X κ f127r4 e h K ⟨⟩ := Run_regD rfl
@[simp] def f127b : ACode := (.seq (.reg f127r0) (.seq (.block 0 (.loop f127l3)) (.seq f127d4 .ret)))
def f127 : AFn := ⟨64, f127b, [.tmp 4], .plain⟩
theorem f127_is : cFn Try.prog .plain 127 = some f127 := by kernel_rfl
@[simp] def f128r0 : List AIns := [⟨some 4, .mov (.c (.int .i64 0)), none⟩]
@[simp] def f128r1 : List AIns := [⟨some 7, .mov (.t 0), none⟩,
  ⟨some 8, .call (.c (.func (.func 158) #[] #[])) [(.t 7)], none⟩,
  ⟨some 5, .mov (.t 8), none⟩]
@[simp] def f128r2 : List AIns := [⟨some 9, .mov (.t 1), none⟩,
  ⟨some 10, .call (.c (.func (.func 158) #[] #[])) [(.t 9)], none⟩,
  ⟨some 6, .mov (.t 10), none⟩]
@[simp] def f128r3 : List AIns := [⟨some 11, .mov (.t 5), none⟩]
@[simp] def f128r4 : List AIns := [⟨some 12, .mov (.t 6), none⟩]
@[simp] def f128r5 : List AIns := [⟨some 4, .mov (.c (.int .i64 0)), none⟩]
@[simp] def f128r6 : List AIns := [⟨some 4, .mov (.c (.int .i64 (-1))), none⟩]
@[simp] def f128r7 : List AIns := [⟨some 13, .mov (.t 6), none⟩]
@[simp] def f128r8 : List AIns := [⟨some 4, .mov (.c (.int .i64 1)), none⟩]
@[simp] def f128r9 : List AIns := [⟨some 14, .mov (.t 0), none⟩,
  ⟨some 15, .mov (.t 1), none⟩,
  ⟨some 16, .bin .lss (.t 14) (.t 15), none⟩]
@[simp] def f128r10 : List AIns := [⟨some 4, .mov (.c (.int .i64 (-1))), none⟩]
@[simp] def f128r11 : List AIns := [⟨some 17, .mov (.t 0), none⟩,
  ⟨some 18, .mov (.t 1), none⟩,
  ⟨some 19, .bin .gtr (.t 17) (.t 18), none⟩]
@[simp] def f128r12 : List AIns := [⟨some 4, .mov (.c (.int .i64 1)), none⟩]
@[simp] def f128r13 : List AIns := [⟨some 4, .mov (.c (.int .i64 0)), none⟩]
@[simp] def f128b : ACode := (.seq (.reg f128r0) (.seq (.reg f128r1) (.seq (.reg f128r2) (.seq (.seq (.reg f128r3) (.cond (.t 11) (.seq (.seq (.reg f128r4) (.cond (.t 12) (.seq (.reg f128r5) .ret) .skip)) (.seq (.reg f128r6) .ret)) .skip)) (.seq (.seq (.reg f128r7) (.cond (.t 13) (.seq (.reg f128r8) .ret) .skip)) (.seq (.seq (.reg f128r9) (.cond (.t 16) (.seq (.reg f128r10) .ret) .skip)) (.seq (.seq (.reg f128r11) (.cond (.t 19) (.seq (.reg f128r12) .ret) .skip)) (.seq (.reg f128r13) .ret))))))))
def f128 : AFn := ⟨20, f128b, [.tmp 4], .pure⟩
theorem f128_is : cFn Try.prog .pure 128 = some f128 := by kernel_rfl
@[simp] def f129r0 : List AIns := [⟨some 4, .mov (.c (.int .i64 0)), none⟩]
@[simp] def f129r1 : List AIns := [⟨some 7, .mov (.t 0), none⟩,
  ⟨some 8, .call (.c (.func (.func 159) #[] #[])) [(.t 7)], none⟩,
  ⟨some 5, .mov (.t 8), none⟩]
@[simp] def f129r2 : List AIns := [⟨some 9, .mov (.t 1), none⟩,
  ⟨some 10, .call (.c (.func (.func 159) #[] #[])) [(.t 9)], none⟩,
  ⟨some 6, .mov (.t 10), none⟩]
@[simp] def f129r3 : List AIns := [⟨some 11, .mov (.t 5), none⟩]
@[simp] def f129r4 : List AIns := [⟨some 12, .mov (.t 6), none⟩]
@[simp] def f129r5 : List AIns := [⟨some 4, .mov (.c (.int .i64 0)), none⟩]
@[simp] def f129r6 : List AIns := [⟨some 4, .mov (.c (.int .i64 (-1))), none⟩]
@[simp] def f129r7 : List AIns := [⟨some 13, .mov (.t 6), none⟩]
@[simp] def f129r8 : List AIns := [⟨some 4, .mov (.c (.int .i64 1)), none⟩]
@[simp] def f129r9 : List AIns := [⟨some 14, .mov (.t 0), none⟩,
  ⟨some 15, .mov (.t 1), none⟩,
  ⟨some 16, .bin .lss (.t 14) (.t 15), none⟩]
@[simp] def f129r10 : List AIns := [⟨some 4, .mov (.c (.int .i64 (-1))), none⟩]
@[simp] def f129r11 : List AIns := [⟨some 17, .mov (.t 0), none⟩,
  ⟨some 18, .mov (.t 1), none⟩,
  ⟨some 19, .bin .gtr (.t 17) (.t 18), none⟩]
@[simp] def f129r12 : List AIns := [⟨some 4, .mov (.c (.int .i64 1)), none⟩]
@[simp] def f129r13 : List AIns := [⟨some 4, .mov (.c (.int .i64 0)), none⟩]
@[simp] def f129b : ACode := (.seq (.reg f129r0) (.seq (.reg f129r1) (.seq (.reg f129r2) (.seq (.seq (.reg f129r3) (.cond (.t 11) (.seq (.seq (.reg f129r4) (.cond (.t 12) (.seq (.reg f129r5) .ret) .skip)) (.seq (.reg f129r6) .ret)) .skip)) (.seq (.seq (.reg f129r7) (.cond (.t 13) (.seq (.reg f129r8) .ret) .skip)) (.seq (.seq (.reg f129r9) (.cond (.t 16) (.seq (.reg f129r10) .ret) .skip)) (.seq (.seq (.reg f129r11) (.cond (.t 19) (.seq (.reg f129r12) .ret) .skip)) (.seq (.reg f129r13) .ret))))))))
def f129 : AFn := ⟨20, f129b, [.tmp 4], .pure⟩
theorem f129_is : cFn Try.prog .pure 129 = some f129 := by kernel_rfl
@[simp] def f130r17 : List AIns := [⟨some 81, .mov (.t 1), none⟩,
  ⟨some 82, .bin .gtr (.t 81) (.c (.int .i64 0)), none⟩,
  ⟨some 83, .mov (.t 82), none⟩,
  ⟨some 84, .mov (.t 4), some (83, true)⟩,
  ⟨some 85, .mov (.t 0), some (83, true)⟩,
  ⟨some 86, .mov (.t 1), some (83, true)⟩,
  ⟨some 87, .bin .sub (.t 86) (.c (.int .i64 1)), some (83, true)⟩,
  ⟨some 88, .idxA 2 (.t 85) (.t 87), some (83, true)⟩,
  ⟨some 89, .loadN 2 (.t 88), some (83, true)⟩,
  ⟨some 90, .mov (.t 0), some (83, true)⟩,
  ⟨some 91, .mov (.t 13), some (83, true)⟩,
  ⟨some 92, .idxA 2 (.t 90) (.t 91), some (83, true)⟩,
  ⟨some 93, .loadN 2 (.t 92), some (83, true)⟩,
  ⟨some 94, .call (.t 84) [(.t 89), (.t 93)], some (83, true)⟩,
  ⟨some 95, .bin .lss (.t 94) (.c (.int .i64 0)), some (83, true)⟩,
  ⟨some 96, .un .not (.t 95), some (83, true)⟩,
  ⟨some 97, .pick (.t 83) (.t 96) (.c (.bool false)), none⟩]
def f130d17 : ACode := .regD f130r17 [(0, []), (1, []), (2, []), (3, []), (4, []), (5, []), (6, []), (7, []), (8, []), (9, []), (10, []), (11, []), (12, []), (13, []), (14, []), (15, []), (16, [])]
@[simp] theorem f130d17_u {X κ e h K p} : Run X κ f130d17 e h K p ↔ RIs X κ f130r17 e h K ⟨⟩ := Run_regD rfl
@[simp] def f132r6 : List AIns := [⟨some 15, .mov (.t 0), none⟩,
  ⟨some 16, .nilCheck (.t 15), none⟩,
  ⟨some 17, .addOff 1 (.t 16), none⟩,
  ⟨some 18, .load1 (.t 17), none⟩,
  ⟨some 19, .mov (.t 0), none⟩,
  ⟨some 20, .nilCheck (.t 19), none⟩,
  ⟨some 21, .addOff 0 (.t 20), none⟩,
  ⟨some 22, .load1 (.t 21), none⟩,
  ⟨some 23, .lenStr (.t 22), none⟩,
  ⟨some 24, .bin .lss (.t 18) (.t 23), none⟩,
  ⟨some 25, .mov (.t 24), none⟩,
  ⟨some 26, .mov (.t 0), some (25, true)⟩,
  ⟨some 27, .nilCheck (.t 26), some (25, true)⟩,
  ⟨some 28, .addOff 0 (.t 27), some (25, true)⟩,
  ⟨some 29, .load1 (.t 28), some (25, true)⟩,
  ⟨some 30, .mov (.t 0), some (25, true)⟩,
  ⟨some 31, .nilCheck (.t 30), some (25, true)⟩,
  ⟨some 32, .addOff 1 (.t 31), some (25, true)⟩,
  ⟨some 33, .load1 (.t 32), some (25, true)⟩,
  ⟨some 34, .ixStr (.t 29) (.t 33), some (25, true)⟩,
  ⟨some 35, .mov (.t 1), some (25, true)⟩,
  ⟨some 36, .mov (.t 5), some (25, true)⟩,
  ⟨some 37, .ixStr (.t 35) (.t 36), some (25, true)⟩,
  ⟨some 38, .bin .eql (.t 34) (.t 37), some (25, true)⟩,
  ⟨some 39, .pick (.t 25) (.t 38) (.c (.bool false)), none⟩]
def f132d6 : ACode := .regD f132r6 [(0, []), (1, []), (2, []), (3, []), (4, []), (5, []), (6, []), (7, []), (8, []), (9, []), (10, []), (11, []), (12, []), (13, []), (14, []), (15, []), (16, []), (17, []), (18, []), (19, []), (20, []), (21, []), (22, []), (23, []), (24, [])]
@[simp] theorem f132d6_u {X κ e h K p} : Run X κ f132d6 e h K p ↔ RIs X κ f132r6 e h K ⟨⟩ := Run_regD rfl
@[simp] def f133r1 : List AIns := [⟨some 6, .mov (.t 0), none⟩,
  ⟨some 7, .nilCheck (.t 6), none⟩,
  ⟨some 8, .addOff 2 (.t 7), none⟩,
  ⟨some 9, .load1 (.t 8), none⟩,
  ⟨some 10, .un .not (.t 9), none⟩,
  ⟨some 11, .mov (.t 10), none⟩,
  ⟨some 12, .mov (.t 0), some (11, true)⟩,
  ⟨some 13, .nilCheck (.t 12), some (11, true)⟩,
  ⟨some 14, .addOff 0 (.t 13), some (11, true)⟩,
  ⟨some 15, .load1 (.t 14), some (11, true)⟩,
  ⟨some 16, .lenStr (.t 15), some (11, true)⟩,
  ⟨some 17, .mov (.t 0), some (11, true)⟩,
  ⟨some 18, .nilCheck (.t 17), some (11, true)⟩,
  ⟨some 19, .addOff 1 (.t 18), some (11, true)⟩,
  ⟨some 20, .load1 (.t 19), some (11, true)⟩,
  ⟨some 21, .bin .sub (.t 16) (.t 20), some (11, true)⟩,
  ⟨some 22, .mov (.t 1), some (11, true)⟩,
  ⟨some 23, .lenStr (.t 22), some (11, true)⟩,
  ⟨some 24, .bin .geq (.t 21) (.t 23), some (11, true)⟩,
  ⟨some 25, .pick (.t 11) (.t 24) (.c (.bool false)), none⟩,
  ⟨some 26, .mov (.t 25), none⟩,
  ⟨some 27, .mov (.t 0), some (26, true)⟩,
  ⟨some 28, .nilCheck (.t 27), some (26, true)⟩,
  ⟨some 29, .addOff 0 (.t 28), some (26, true)⟩,
  ⟨some 30, .load1 (.t 29), some (26, true)⟩,
  ⟨some 31, .mov (.t 0), some (26, true)⟩,
  ⟨some 32, .nilCheck (.t 31), some (26, true)⟩,
  ⟨some 33, .addOff 1 (.t 32), some (26, true)⟩,
  ⟨some 34, .load1 (.t 33), some (26, true)⟩,
  ⟨some 35, .mov (.t 0), some (26, true)⟩,
  ⟨some 36, .nilCheck (.t 35), some (26, true)⟩,
  ⟨some 37, .addOff 1 (.t 36), some (26, true)⟩,
  ⟨some 38, .load1 (.t 37), some (26, true)⟩,
  ⟨some 39, .mov (.t 1), some (26, true)⟩,
  ⟨some 40, .lenStr (.t 39), some (26, true)⟩,
  ⟨some 41, .bin .add (.t 38) (.t 40), some (26, true)⟩,
  ⟨some 42, .sliceStr (.t 30) (some (.t 34)) (some (.t 41)), some (26, true)⟩,
  ⟨some 43, .mov (.t 1), some (26, true)⟩,
  ⟨some 44, .bin .eql (.t 42) (.t 43), some (26, true)⟩,
  ⟨some 45, .pick (.t 26) (.t 44) (.c (.bool false)), none⟩,
  ⟨some 5, .mov (.t 45), none⟩]
def f133d1 : ACode := .regD f133r1 [(0, []), (1, []), (2, []), (3, []), (4, []), (5, []), (6, []), (7, []), (8, []), (9, []), (10, []), (11, []), (12, []), (13, []), (14, []), (15, []), (16, []), (17, []), (18, []), (19, []), (20, []), (21, []), (22, []), (23, []), (24, []), (25, []), (26, []), (27, []), (28, []), (29, []), (30, []), (31, []), (32, []), (33, []), (34, []), (35, []), (36, []), (37, []), (38, []), (39, []), (40, [])]
@[simp] theorem f133d1_u {X κ e h K p} : Run X κ f133d1 e h K p ↔ RIs X κ f133r1 e h K ⟨⟩ := Run_regD rfl
@[simp] def f134r3 : List AIns := [⟨some 12, .mov (.t 1), none⟩,
  ⟨some 13, .mov (.t 0), none⟩,
  ⟨some 14, .nilCheck (.t 13), none⟩,
  ⟨some 15, .addOff 0 (.t 14), none⟩,
  ⟨some 16, .load1 (.t 15), none⟩,
  ⟨some 17, .mov (.t 0), none⟩,
  ⟨some 18, .nilCheck (.t 17), none⟩,
  ⟨some 19, .addOff 1 (.t 18), none⟩,
  ⟨some 20, .load1 (.t 19), none⟩,
  ⟨some 21, .sliceStr (.t 16) (some (.t 20)) none, none⟩,
  ⟨some 22, .call (.t 12) [(.t 21)], none⟩,
  ⟨some 11, .mov (.t 22), none⟩,
  ⟨some 23, .extract (.t 11) 0, none⟩,
  ⟨some 24, .extract (.t 11) 1, none⟩,
  ⟨some 5, .mov (.t 23), none⟩,
  ⟨some 6, .mov (.t 24), none⟩]
def f134d3 : ACode := .regD f134r3 [(0, []), (1, []), (2, []), (3, []), (4, []), (5, []), (6, []), (7, []), (8, []), (9, []), (10, []), (11, []), (12, []), (13, []), (14, []), (15, [])]
@[simp] theorem f134d3_u {X κ e h K p} : Run X κ f134d3 e h K p ↔ RIs X κ f134r3 e h K ⟨⟩ := Run_regD rfl
@[simp] def f138r0 : List AIns := [⟨some 2, .mov (.t 0), none⟩,
  ⟨some 3, .nilCheck (.t 2), none⟩,
  ⟨some 4, .addOff 3 (.t 3), none⟩,
  ⟨some 5, .load1 (.t 4), none⟩,
  ⟨some 6, .mov (.t 5), none⟩,
  ⟨some 7, .mov (.t 0), some (6, true)⟩,
  ⟨some 8, .nilCheck (.t 7), some (6, true)⟩,
  ⟨some 9, .addOff 2 (.t 8), some (6, true)⟩,
  ⟨some 10, .load1 (.t 9), some (6, true)⟩,
  ⟨some 11, .un .not (.t 10), some (6, true)⟩,
  ⟨some 12, .pick (.t 6) (.t 11) (.c (.bool false)), none⟩,
  ⟨some 13, .mov (.t 12), none⟩,
  ⟨some 14, .mov (.t 0), some (13, true)⟩,
  ⟨some 15, .nilCheck (.t 14), some (13, true)⟩,
  ⟨some 16, .addOff 1 (.t 15), some (13, true)⟩,
  ⟨some 17, .load1 (.t 16), some (13, true)⟩,
  ⟨some 18, .mov (.t 0), some (13, true)⟩,
  ⟨some 19, .nilCheck (.t 18), some (13, true)⟩,
  ⟨some 20, .addOff 0 (.t 19), some (13, true)⟩,
  ⟨some 21, .load1 (.t 20), some (13, true)⟩,
  ⟨some 22, .lenStr (.t 21), some (13, true)⟩,
  ⟨some 23, .bin .lss (.t 17) (.t 22), some (13, true)⟩,
  ⟨some 24, .pick (.t 13) (.t 23) (.c (.bool false)), none⟩,
  ⟨some 25, .mov (.t 24), none⟩,
  ⟨some 26, .mov (.t 0), some (25, true)⟩,
  ⟨some 27, .nilCheck (.t 26), some (25, true)⟩,
  ⟨some 28, .addOff 0 (.t 27), some (25, true)⟩,
  ⟨some 29, .load1 (.t 28), some (25, true)⟩,
  ⟨some 30, .mov (.t 0), some (25, true)⟩,
  ⟨some 31, .nilCheck (.t 30), some (25, true)⟩,
  ⟨some 32, .addOff 1 (.t 31), some (25, true)⟩,
  ⟨some 33, .load1 (.t 32), some (25, true)⟩,
  ⟨some 34, .ixStr (.t 29) (.t 33), some (25, true)⟩,
  ⟨some 35, .bin .eql (.t 34) (.c (.int .u8 32)), some (25, true)⟩,
  ⟨some 36, .pick (.t 25) (.t 35) (.c (.bool false)), none⟩]
def f138d0 : ACode := .regD f138r0 [(0, []), (1, []), (2, []), (3, []), (4, []), (5, []), (6, []), (7, []), (8, []), (9, []), (10, []), (11, []), (12, []), (13, []), (14, []), (15, []), (16, []), (17, []), (18, []), (19, []), (20, []), (21, []), (22, []), (23, []), (24, []), (25, []), (26, []), (27, []), (28, []), (29, []), (30, []), (31, []), (32, []), (33, []), (34, [])]
@[simp] theorem f138d0_u {X κ e h K p} : Run X κ f138d0 e h K p ↔ RIs X κ f138r0 e h K ⟨⟩ := Run_regD rfl
@[simp] def f143r11 : List AIns := [⟨some 36, .addOff 1 (.t 4), none⟩,
  ⟨some 37, .load1 (.t 36), none⟩,
  ⟨some 38, .mov (.t 0), none⟩,
  ⟨some 39, .mov (.t 6), none⟩,
  ⟨some 40, .ixStr (.t 38) (.t 39), none⟩,
  ⟨some 41, .convInt .i64 (.t 40), none⟩,
  ⟨some 42, .bin .sub (.t 41) (.c (.int .i64 48)), none⟩,
  ⟨some 43, .buildSlice 3 1 [(.int .i64 0)] [(0, 1, (.t 42))], none⟩,
  ⟨some 44, .append 3 1 8 (.t 37) (.t 43), none⟩,
  ⟨some 45, .addOff 1 (.t 4), none⟩,
  ⟨none, .store 1 (.t 45) (.t 44), none⟩]
def f143d11 : ACode := .regD f143r11 [(0, []), (1, []), (2, []), (3, []), (4, []), (5, []), (6, []), (7, []), (8, []), (9, []), (10, [])]
@[simp] theorem f143d11_u {X κ e h K p} : Run X κ f143d11 e h K p ↔ RIs X κ f143r11 e h K ⟨⟩ := Run_regD rfl
@[simp] def f145r7 : List AIns := [⟨some 21, .mov (.t 4), none⟩,
  ⟨some 22, .bin .mul (.t 21) (.c (.int .i64 10)), none⟩,
  ⟨some 23, .addOff 0 (.t 1), none⟩,
  ⟨some 24, .load1 (.t 23), none⟩,
  ⟨some 25, .mov (.t 3), none⟩,
  ⟨some 26, .mov (.t 5), none⟩,
  ⟨some 27, .idxA 1 (.t 25) (.t 26), none⟩,
  ⟨some 28, .load1 (.t 27), none⟩,
  ⟨some 29, .bin .mul (.t 24) (.t 28), none⟩,
  ⟨some 30, .bin .add (.t 22) (.t 29), none⟩,
  ⟨some 4, .mov (.t 30), none⟩]
def f145d7 : ACode := .regD f145r7 [(0, []), (1, []), (2, []), (3, []), (4, []), (5, []), (6, []), (7, []), (8, []), (9, []), (10, [])]
@[simp] theorem f145d7_u {X κ e h K p} : Run X κ f145d7 e h K p ↔ RIs X κ f145r7 e h K ⟨⟩ := Run_regD rfl
@[simp] def f147r3 : List AIns := [⟨some 18, .mov (.t 9), none⟩,
  ⟨some 19, .mov (.t 1), none⟩,
  ⟨some 20, .bin .gtr (.t 18) (.t 19), none⟩,
  ⟨some 21, .mov (.t 20), none⟩,
  ⟨some 22, .mov (.t 3), some (21, true)⟩,
  ⟨some 23, .mov (.t 0), some (21, true)⟩,
  ⟨some 24, .mov (.t 9), some (21, true)⟩,
  ⟨some 25, .idxA 4 (.t 23) (.t 24), some (21, true)⟩,
  ⟨some 26, .loadN 4 (.t 25), some (21, true)⟩,
  ⟨some 27, .mov (.t 0), some (21, true)⟩,
  ⟨some 28, .mov (.t 9), some (21, true)⟩,
  ⟨some 29, .bin .sub (.t 28) (.c (.int .i64 1)), some (21, true)⟩,
  ⟨some 30, .idxA 4 (.t 27) (.t 29), some (21, true)⟩,
  ⟨some 31, .loadN 4 (.t 30), some (21, true)⟩,
  ⟨some 32, .call (.t 22) [(.t 26), (.t 31)], some (21, true)⟩,
  ⟨some 33, .bin .lss (.t 32) (.c (.int .i64 0)), some (21, true)⟩,
  ⟨some 34, .pick (.t 21) (.t 33) (.c (.bool false)), none⟩]
def f147d3 : ACode := .regD f147r3 [(0, []), (1, []), (2, []), (3, []), (4, []), (5, []), (6, []), (7, []), (8, []), (9, []), (10, []), (11, []), (12, []), (13, []), (14, []), (15, []), (16, [])]
@[simp] theorem f147d3_u {X κ e h K p} : Run X κ f147d3 e h K p ↔ RIs X κ f147r3 e h K ⟨⟩ := Run_regD rfl
@[simp] def f147r4 : List AIns := [⟨some 37, .mov (.t 0), none⟩,
  ⟨some 38, .mov (.t 9), none⟩,
  ⟨some 39, .mov (.t 0), none⟩,
  ⟨some 40, .mov (.t 9), none⟩,
  ⟨some 41, .bin .sub (.t 40) (.c (.int .i64 1)), none⟩,
  ⟨some 42, .mov (.t 0), none⟩,
  ⟨some 43, .mov (.t 9), none⟩,
  ⟨some 44, .bin .sub (.t 43) (.c (.int .i64 1)), none⟩,
  ⟨some 45, .idxA 4 (.t 42) (.t 44), none⟩,
  ⟨some 46, .loadN 4 (.t 45), none⟩,
  ⟨some 47, .mov (.t 0), none⟩,
  ⟨some 48, .mov (.t 9), none⟩,
  ⟨some 49, .idxA 4 (.t 47) (.t 48), none⟩,
  ⟨some 50, .loadN 4 (.t 49), none⟩,
  ⟨some 51, .idxA 4 (.t 37) (.t 38), none⟩,
  ⟨none, .store 4 (.t 51) (.t 46), none⟩,
  ⟨some 52, .idxA 4 (.t 39) (.t 41), none⟩,
  ⟨none, .store 4 (.t 52) (.t 50), none⟩]
def f147d4 : ACode := .regD f147r4 [(0, []), (1, []), (2, []), (3, []), (4, []), (5, []), (6, []), (7, []), (8, []), (9, []), (10, []), (11, []), (12, []), (13, []), (14, []), (15, []), (16, []), (17, [])]
@[simp] theorem f147d4_u {X κ e h K p} : Run X κ f147d4 e h K p ↔ RIs X κ f147r4 e h K ⟨⟩ := Run_regD rfl
@[simp] def f148r10 : List AIns := [⟨some 36, .mov (.t 0), none⟩,
  ⟨some 37, .mov (.t 8), none⟩,
  ⟨some 38, .mov (.t 0), none⟩,
  ⟨some 39, .mov (.t 8), none⟩,
  ⟨some 40, .mov (.t 12), none⟩,
  ⟨some 41, .bin .add (.t 39) (.t 40), none⟩,
  ⟨some 42, .mov (.t 0), none⟩,
  ⟨some 43, .mov (.t 8), none⟩,
  ⟨some 44, .mov (.t 12), none⟩,
  ⟨some 45, .bin .add (.t 43) (.t 44), none⟩,
  ⟨some 46, .idxA 4 (.t 42) (.t 45), none⟩,
  ⟨some 47, .loadN 4 (.t 46), none⟩,
  ⟨some 48, .mov (.t 0), none⟩,
  ⟨some 49, .mov (.t 8), none⟩,
  ⟨some 50, .idxA 4 (.t 48) (.t 49), none⟩,
  ⟨some 51, .loadN 4 (.t 50), none⟩,
  ⟨some 52, .idxA 4 (.t 36) (.t 37), none⟩,
  ⟨none, .store 4 (.t 52) (.t 47), none⟩,
  ⟨some 53, .idxA 4 (.t 38) (.t 41), none⟩,
  ⟨none, .store 4 (.t 53) (.t 51), none⟩]
def f148d10 : ACode := .regD f148r10 [(0, []), (1, []), (2, []), (3, []), (4, []), (5, []), (6, []), (7, []), (8, []), (9, []), (10, []), (11, []), (12, []), (13, []), (14, []), (15, []), (16, []), (17, []), (18, []), (19, [])]
@[simp] theorem f148d10_u {X κ e h K p} : Run X κ f148d10 e h K p ↔ RIs X κ f148r10 e h K ⟨⟩ := Run_regD rfl
@[simp] def f149r9 : List AIns := [⟨some 49, .mov (.t 0), none⟩,
  ⟨some 50, .mov (.t 11), none⟩,
  ⟨some 51, .mov (.t 0), none⟩,
  ⟨some 52, .mov (.t 1), none⟩,
  ⟨some 53, .mov (.t 12), none⟩,
  ⟨some 54, .bin .add (.t 52) (.t 53), none⟩,
  ⟨some 55, .mov (.t 0), none⟩,
  ⟨some 56, .mov (.t 1), none⟩,
  ⟨some 57, .mov (.t 12), none⟩,
  ⟨some 58, .bin .add (.t 56) (.t 57), none⟩,
  ⟨some 59, .idxA 4 (.t 55) (.t 58), none⟩,
  ⟨some 60, .loadN 4 (.t 59), none⟩,
  ⟨some 61, .mov (.t 0), none⟩,
  ⟨some 62, .mov (.t 11), none⟩,
  ⟨some 63, .idxA 4 (.t 61) (.t 62), none⟩,
  ⟨some 64, .loadN 4 (.t 63), none⟩,
  ⟨some 65, .idxA 4 (.t 49) (.t 50), none⟩,
  ⟨none, .store 4 (.t 65) (.t 60), none⟩,
  ⟨some 66, .idxA 4 (.t 51) (.t 54), none⟩,
  ⟨none, .store 4 (.t 66) (.t 64), none⟩]
def f149d9 : ACode := .regD f149r9 [(0, []), (1, []), (2, []), (3, []), (4, []), (5, []), (6, []), (7, []), (8, []), (9, []), (10, []), (11, []), (12, []), (13, []), (14, []), (15, []), (16, []), (17, []), (18, []), (19, [])]
@[simp] theorem f149d9_u {X κ e h K p} : Run X κ f149d9 e h K p ↔ RIs X κ f149r9 e h K ⟨⟩ := Run_regD rfl
@[simp] def f151r3 : List AIns := [⟨some 16, .mov (.t 0), none⟩,
  ⟨some 17, .mov (.t 8), none⟩,
  ⟨some 18, .mov (.t 0), none⟩,
  ⟨some 19, .mov (.t 9), none⟩,
  ⟨some 20, .mov (.t 0), none⟩,
  ⟨some 21, .mov (.t 9), none⟩,
  ⟨some 22, .idxA 4 (.t 20) (.t 21), none⟩,
  ⟨some 23, .loadN 4 (.t 22), none⟩,
  ⟨some 24, .mov (.t 0), none⟩,
  ⟨some 25, .mov (.t 8), none⟩,
  ⟨some 26, .idxA 4 (.t 24) (.t 25), none⟩,
  ⟨some 27, .loadN 4 (.t 26), none⟩,
  ⟨some 28, .idxA 4 (.t 16) (.t 17), none⟩,
  ⟨none, .store 4 (.t 28) (.t 23), none⟩,
  ⟨some 29, .idxA 4 (.t 18) (.t 19), none⟩,
  ⟨none, .store 4 (.t 29) (.t 27), none⟩]
def f151d3 : ACode := .regD f151r3 [(0, []), (1, []), (2, []), (3, []), (4, []), (5, []), (6, []), (7, []), (8, []), (9, []), (10, []), (11, []), (12, []), (13, []), (14, []), (15, [])]
@[simp] theorem f151d3_u {X κ e h K p} : Run X κ f151d3 e h K p ↔ RIs X κ f151r3 e h K ⟨⟩ := Run_regD rfl
@[simp] def f152r4 : List AIns := [⟨some 19, .mov (.t 9), none⟩,
  ⟨some 20, .mov (.t 2), none⟩,
  ⟨some 21, .bin .lss (.t 19) (.t 20), none⟩,
  ⟨some 22, .mov (.t 21), none⟩,
  ⟨some 23, .mov (.t 3), some (22, true)⟩,
  ⟨some 24, .mov (.t 0), some (22, true)⟩,
  ⟨some 25, .mov (.t 9), some (22, true)⟩,
  ⟨some 26, .idxA 4 (.t 24) (.t 25), some (22, true)⟩,
  ⟨some 27, .loadN 4 (.t 26), some (22, true)⟩,
  ⟨some 28, .mov (.t 0), some (22, true)⟩,
  ⟨some 29, .mov (.t 9), some (22, true)⟩,
  ⟨some 30, .bin .sub (.t 29) (.c (.int .i64 1)), some (22, true)⟩,
  ⟨some 31, .idxA 4 (.t 28) (.t 30), some (22, true)⟩,
  ⟨some 32, .loadN 4 (.t 31), some (22, true)⟩,
  ⟨some 33, .call (.t 23) [(.t 27), (.t 32)], some (22, true)⟩,
  ⟨some 34, .bin .lss (.t 33) (.c (.int .i64 0)), some (22, true)⟩,
  ⟨some 35, .un .not (.t 34), some (22, true)⟩,
  ⟨some 36, .pick (.t 22) (.t 35) (.c (.bool false)), none⟩]
def f152d4 : ACode := .regD f152r4 [(0, []), (1, []), (2, []), (3, []), (4, []), (5, []), (6, []), (7, []), (8, []), (9, []), (10, []), (11, []), (12, []), (13, []), (14, []), (15, []), (16, []), (17, [])]
@[simp] theorem f152d4_u {X κ e h K p} : Run X κ f152d4 e h K p ↔ RIs X κ f152r4 e h K ⟨⟩ := Run_regD rfl
@[simp] def f152r11 : List AIns := [⟨some 46, .mov (.t 0), none⟩,
  ⟨some 47, .mov (.t 9), none⟩,
  ⟨some 48, .mov (.t 0), none⟩,
  ⟨some 49, .mov (.t 9), none⟩,
  ⟨some 50, .bin .sub (.t 49) (.c (.int .i64 1)), none⟩,
  ⟨some 51, .mov (.t 0), none⟩,
  ⟨some 52, .mov (.t 9), none⟩,
  ⟨some 53, .bin .sub (.t 52) (.c (.int .i64 1)), none⟩,
  ⟨some 54, .idxA 4 (.t 51) (.t 53), none⟩,
  ⟨some 55, .loadN 4 (.t 54), none⟩,
  ⟨some 56, .mov (.t 0), none⟩,
  ⟨some 57, .mov (.t 9), none⟩,
  ⟨some 58, .idxA 4 (.t 56) (.t 57), none⟩,
  ⟨some 59, .loadN 4 (.t 58), none⟩,
  ⟨some 60, .idxA 4 (.t 46) (.t 47), none⟩,
  ⟨none, .store 4 (.t 60) (.t 55), none⟩,
  ⟨some 61, .idxA 4 (.t 48) (.t 50), none⟩,
  ⟨none, .store 4 (.t 61) (.t 59), none⟩]
def f152d11 : ACode := .regD f152r11 [(0, []), (1, []), (2, []), (3, []), (4, []), (5, []), (6, []), (7, []), (8, []), (9, []), (10, []), (11, []), (12, []), (13, []), (14, []), (15, []), (16, []), (17, [])]
@[simp] theorem f152d11_u {X κ e h K p} : Run X κ f152d11 e h K p ↔ RIs X κ f152r11 e h K ⟨⟩ := Run_regD rfl
@[simp] def f152r15 : List AIns := [⟨some 72, .mov (.t 3), none⟩,
  ⟨some 73, .mov (.t 0), none⟩,
  ⟨some 74, .mov (.t 11), none⟩,
  ⟨some 75, .idxA 4 (.t 73) (.t 74), none⟩,
  ⟨some 76, .loadN 4 (.t 75), none⟩,
  ⟨some 77, .mov (.t 0), none⟩,
  ⟨some 78, .mov (.t 11), none⟩,
  ⟨some 79, .bin .sub (.t 78) (.c (.int .i64 1)), none⟩,
  ⟨some 80, .idxA 4 (.t 77) (.t 79), none⟩,
  ⟨some 81, .loadN 4 (.t 80), none⟩,
  ⟨some 82, .call (.t 72) [(.t 76), (.t 81)], none⟩,
  ⟨some 83, .bin .lss (.t 82) (.c (.int .i64 0)), none⟩,
  ⟨some 84, .un .not (.t 83), none⟩]
def f152d15 : ACode := .regD f152r15 [(0, []), (1, []), (2, []), (3, []), (4, []), (5, []), (6, []), (7, []), (8, []), (9, []), (10, []), (11, []), (12, [])]
@[simp] theorem f152d15_u {X κ e h K p} : Run X κ f152d15 e h K p ↔ RIs X κ f152r15 e h K ⟨⟩ := Run_regD rfl
@[simp] def f152r16 : List AIns := [⟨some 85, .mov (.t 0), none⟩,
  ⟨some 86, .mov (.t 11), none⟩,
  ⟨some 87, .mov (.t 0), none⟩,
  ⟨some 88, .mov (.t 11), none⟩,
  ⟨some 89, .bin .sub (.t 88) (.c (.int .i64 1)), none⟩,
  ⟨some 90, .mov (.t 0), none⟩,
  ⟨some 91, .mov (.t 11), none⟩,
  ⟨some 92, .bin .sub (.t 91) (.c (.int .i64 1)), none⟩,
  ⟨some 93, .idxA 4 (.t 90) (.t 92), none⟩,
  ⟨some 94, .loadN 4 (.t 93), none⟩,
  ⟨some 95, .mov (.t 0), none⟩,
  ⟨some 96, .mov (.t 11), none⟩,
  ⟨some 97, .idxA 4 (.t 95) (.t 96), none⟩,
  ⟨some 98, .loadN 4 (.t 97), none⟩,
  ⟨some 99, .idxA 4 (.t 85) (.t 86), none⟩,
  ⟨none, .store 4 (.t 99) (.t 94), none⟩,
  ⟨some 100, .idxA 4 (.t 87) (.t 89), none⟩,
  ⟨none, .store 4 (.t 100) (.t 98), none⟩]
def f152d16 : ACode := .regD f152r16 [(0, []), (1, []), (2, []), (3, []), (4, []), (5, []), (6, []), (7, []), (8, []), (9, []), (10, []), (11, []), (12, []), (13, []), (14, []), (15, []), (16, []), (17, [])]
@[simp] theorem f152d16_u {X κ e h K p} : Run X κ f152d16 e h K p ↔ RIs X κ f152r16 e h K ⟨⟩ := Run_regD rfl
@[simp] def f152r22 : List AIns := [⟨some 112, .mov (.t 3), none⟩,
  ⟨some 113, .mov (.t 0), none⟩,
  ⟨some 114, .mov (.t 12), none⟩,
  ⟨some 115, .idxA 4 (.t 113) (.t 114), none⟩,
  ⟨some 116, .loadN 4 (.t 115), none⟩,
  ⟨some 117, .mov (.t 0), none⟩,
  ⟨some 118, .mov (.t 12), none⟩,
  ⟨some 119, .bin .sub (.t 118) (.c (.int .i64 1)), none⟩,
  ⟨some 120, .idxA 4 (.t 117) (.t 119), none⟩,
  ⟨some 121, .loadN 4 (.t 120), none⟩,
  ⟨some 122, .call (.t 112) [(.t 116), (.t 121)], none⟩,
  ⟨some 123, .bin .lss (.t 122) (.c (.int .i64 0)), none⟩,
  ⟨some 124, .un .not (.t 123), none⟩]
def f152d22 : ACode := .regD f152r22 [(0, []), (1, []), (2, []), (3, []), (4, []), (5, []), (6, []), (7, []), (8, []), (9, []), (10, []), (11, []), (12, [])]
@[simp] theorem f152d22_u {X κ e h K p} : Run X κ f152d22 e h K p ↔ RIs X κ f152r22 e h K ⟨⟩ := Run_regD rfl
@[simp] def f152r23 : List AIns := [⟨some 125, .mov (.t 0), none⟩,
  ⟨some 126, .mov (.t 12), none⟩,
  ⟨some 127, .mov (.t 0), none⟩,
  ⟨some 128, .mov (.t 12), none⟩,
  ⟨some 129, .bin .sub (.t 128) (.c (.int .i64 1)), none⟩,
  ⟨some 130, .mov (.t 0), none⟩,
  ⟨some 131, .mov (.t 12), none⟩,
  ⟨some 132, .bin .sub (.t 131) (.c (.int .i64 1)), none⟩,
  ⟨some 133, .idxA 4 (.t 130) (.t 132), none⟩,
  ⟨some 134, .loadN 4 (.t 133), none⟩,
  ⟨some 135, .mov (.t 0), none⟩,
  ⟨some 136, .mov (.t 12), none⟩,
  ⟨some 137, .idxA 4 (.t 135) (.t 136), none⟩,
  ⟨some 138, .loadN 4 (.t 137), none⟩,
  ⟨some 139, .idxA 4 (.t 125) (.t 126), none⟩,
  ⟨none, .store 4 (.t 139) (.t 134), none⟩,
  ⟨some 140, .idxA 4 (.t 127) (.t 129), none⟩,
  ⟨none, .store 4 (.t 140) (.t 138), none⟩]
def f152d23 : ACode := .regD f152r23 [(0, []), (1, []), (2, []), (3, []), (4, []), (5, []), (6, []), (7, []), (8, []), (9, []), (10, []), (11, []), (12, []), (13, []), (14, []), (15, []), (16, []), (17, [])]
@[simp] theorem f152d23_u {X κ e h K p} : Run X κ f152d23 e h K p ↔ RIs X κ f152r23 e h K ⟨⟩ := Run_regD rfl
@[simp] def f153r1 : List AIns := [⟨some 13, .mov (.t 0), none⟩,
  ⟨some 14, .mov (.t 1), none⟩,
  ⟨some 15, .mov (.t 0), none⟩,
  ⟨some 16, .mov (.t 3), none⟩,
  ⟨some 17, .mov (.t 0), none⟩,
  ⟨some 18, .mov (.t 3), none⟩,
  ⟨some 19, .idxA 4 (.t 17) (.t 18), none⟩,
  ⟨some 20, .loadN 4 (.t 19), none⟩,
  ⟨some 21, .mov (.t 0), none⟩,
  ⟨some 22, .mov (.t 1), none⟩,
  ⟨some 23, .idxA 4 (.t 21) (.t 22), none⟩,
  ⟨some 24, .loadN 4 (.t 23), none⟩,
  ⟨some 25, .idxA 4 (.t 13) (.t 14), none⟩,
  ⟨none, .store 4 (.t 25) (.t 20), none⟩,
  ⟨some 26, .idxA 4 (.t 15) (.t 16), none⟩,
  ⟨none, .store 4 (.t 26) (.t 24), none⟩]
def f153d1 : ACode := .regD f153r1 [(0, []), (1, []), (2, []), (3, []), (4, []), (5, []), (6, []), (7, []), (8, []), (9, []), (10, []), (11, []), (12, []), (13, []), (14, []), (15, [])]
@[simp] theorem f153d1_u {X κ e h K p} : Run X κ f153d1 e h K p ↔ RIs X κ f153r1 e h K ⟨⟩ := Run_regD rfl
@[simp] def f153r3 : List AIns := [⟨some 31, .mov (.t 11), none⟩,
  ⟨some 32, .mov (.t 12), none⟩,
  ⟨some 33, .bin .leq (.t 31) (.t 32), none⟩,
  ⟨some 34, .mov (.t 33), none⟩,
  ⟨some 35, .mov (.t 4), some (34, true)⟩,
  ⟨some 36, .mov (.t 0), some (34, true)⟩,
  ⟨some 37, .mov (.t 1), some (34, true)⟩,
  ⟨some 38, .idxA 4 (.t 36) (.t 37), some (34, true)⟩,
  ⟨some 39, .loadN 4 (.t 38), some (34, true)⟩,
  ⟨some 40, .mov (.t 0), some (34, true)⟩,
  ⟨some 41, .mov (.t 11), some (34, true)⟩,
  ⟨some 42, .idxA 4 (.t 40) (.t 41), some (34, true)⟩,
  ⟨some 43, .loadN 4 (.t 42), some (34, true)⟩,
  ⟨some 44, .call (.t 35) [(.t 39), (.t 43)], some (34, true)⟩,
  ⟨some 45, .bin .lss (.t 44) (.c (.int .i64 0)), some (34, true)⟩,
  ⟨some 46, .un .not (.t 45), some (34, true)⟩,
  ⟨some 47, .pick (.t 34) (.t 46) (.c (.bool false)), none⟩]
def f153d3 : ACode := .regD f153r3 [(0, []), (1, []), (2, []), (3, []), (4, []), (5, []), (6, []), (7, []), (8, []), (9, []), (10, []), (11, []), (12, []), (13, []), (14, []), (15, []), (16, [])]
@[simp] theorem f153d3_u {X κ e h K p} : Run X κ f153d3 e h K p ↔ RIs X κ f153r3 e h K ⟨⟩ := Run_regD rfl
@[simp] def f153r6 : List AIns := [⟨some 50, .mov (.t 11), none⟩,
  ⟨some 51, .mov (.t 12), none⟩,
  ⟨some 52, .bin .leq (.t 50) (.t 51), none⟩,
  ⟨some 53, .mov (.t 52), none⟩,
  ⟨some 54, .mov (.t 4), some (53, true)⟩,
  ⟨some 55, .mov (.t 0), some (53, true)⟩,
  ⟨some 56, .mov (.t 1), some (53, true)⟩,
  ⟨some 57, .idxA 4 (.t 55) (.t 56), some (53, true)⟩,
  ⟨some 58, .loadN 4 (.t 57), some (53, true)⟩,
  ⟨some 59, .mov (.t 0), some (53, true)⟩,
  ⟨some 60, .mov (.t 12), some (53, true)⟩,
  ⟨some 61, .idxA 4 (.t 59) (.t 60), some (53, true)⟩,
  ⟨some 62, .loadN 4 (.t 61), some (53, true)⟩,
  ⟨some 63, .call (.t 54) [(.t 58), (.t 62)], some (53, true)⟩,
  ⟨some 64, .bin .lss (.t 63) (.c (.int .i64 0)), some (53, true)⟩,
  ⟨some 65, .pick (.t 53) (.t 64) (.c (.bool false)), none⟩]
def f153d6 : ACode := .regD f153r6 [(0, []), (1, []), (2, []), (3, []), (4, []), (5, []), (6, []), (7, []), (8, []), (9, []), (10, []), (11, []), (12, []), (13, []), (14, []), (15, [])]
@[simp] theorem f153d6_u {X κ e h K p} : Run X κ f153d6 e h K p ↔ RIs X κ f153r6 e h K ⟨⟩ := Run_regD rfl
@[simp] def f153r10 : List AIns := [⟨some 71, .mov (.t 0), none⟩,
  ⟨some 72, .mov (.t 11), none⟩,
  ⟨some 73, .mov (.t 0), none⟩,
  ⟨some 74, .mov (.t 12), none⟩,
  ⟨some 75, .mov (.t 0), none⟩,
  ⟨some 76, .mov (.t 12), none⟩,
  ⟨some 77, .idxA 4 (.t 75) (.t 76), none⟩,
  ⟨some 78, .loadN 4 (.t 77), none⟩,
  ⟨some 79, .mov (.t 0), none⟩,
  ⟨some 80, .mov (.t 11), none⟩,
  ⟨some 81, .idxA 4 (.t 79) (.t 80), none⟩,
  ⟨some 82, .loadN 4 (.t 81), none⟩,
  ⟨some 83, .idxA 4 (.t 71) (.t 72), none⟩,
  ⟨none, .store 4 (.t 83) (.t 78), none⟩,
  ⟨some 84, .idxA 4 (.t 73) (.t 74), none⟩,
  ⟨none, .store 4 (.t 84) (.t 82), none⟩]
def f153d10 : ACode := .regD f153r10 [(0, []), (1, []), (2, []), (3, []), (4, []), (5, []), (6, []), (7, []), (8, []), (9, []), (10, []), (11, []), (12, []), (13, []), (14, []), (15, [])]
@[simp] theorem f153d10_u {X κ e h K p} : Run X κ f153d10 e h K p ↔ RIs X κ f153r10 e h K ⟨⟩ := Run_regD rfl
@[simp] def f154r1 : List AIns := [⟨some 14, .mov (.t 0), none⟩,
  ⟨some 15, .mov (.t 1), none⟩,
  ⟨some 16, .mov (.t 0), none⟩,
  ⟨some 17, .mov (.t 3), none⟩,
  ⟨some 18, .mov (.t 0), none⟩,
  ⟨some 19, .mov (.t 3), none⟩,
  ⟨some 20, .idxA 4 (.t 18) (.t 19), none⟩,
  ⟨some 21, .loadN 4 (.t 20), none⟩,
  ⟨some 22, .mov (.t 0), none⟩,
  ⟨some 23, .mov (.t 1), none⟩,
  ⟨some 24, .idxA 4 (.t 22) (.t 23), none⟩,
  ⟨some 25, .loadN 4 (.t 24), none⟩,
  ⟨some 26, .idxA 4 (.t 14) (.t 15), none⟩,
  ⟨none, .store 4 (.t 26) (.t 21), none⟩,
  ⟨some 27, .idxA 4 (.t 16) (.t 17), none⟩,
  ⟨none, .store 4 (.t 27) (.t 25), none⟩]
def f154d1 : ACode := .regD f154r1 [(0, []), (1, []), (2, []), (3, []), (4, []), (5, []), (6, []), (7, []), (8, []), (9, []), (10, []), (11, []), (12, []), (13, []), (14, []), (15, [])]
@[simp] theorem f154d1_u {X κ e h K p} : Run X κ f154d1 e h K p ↔ RIs X κ f154r1 e h K ⟨⟩ := Run_regD rfl
@[simp] def f154r3 : List AIns := [⟨some 32, .mov (.t 12), none⟩,
  ⟨some 33, .mov (.t 13), none⟩,
  ⟨some 34, .bin .leq (.t 32) (.t 33), none⟩,
  ⟨some 35, .mov (.t 34), none⟩,
  ⟨some 36, .mov (.t 4), some (35, true)⟩,
  ⟨some 37, .mov (.t 0), some (35, true)⟩,
  ⟨some 38, .mov (.t 12), some (35, true)⟩,
  ⟨some 39, .idxA 4 (.t 37) (.t 38), some (35, true)⟩,
  ⟨some 40, .loadN 4 (.t 39), some (35, true)⟩,
  ⟨some 41, .mov (.t 0), some (35, true)⟩,
  ⟨some 42, .mov (.t 1), some (35, true)⟩,
  ⟨some 43, .idxA 4 (.t 41) (.t 42), some (35, true)⟩,
  ⟨some 44, .loadN 4 (.t 43), some (35, true)⟩,
  ⟨some 45, .call (.t 36) [(.t 40), (.t 44)], some (35, true)⟩,
  ⟨some 46, .bin .lss (.t 45) (.c (.int .i64 0)), some (35, true)⟩,
  ⟨some 47, .pick (.t 35) (.t 46) (.c (.bool false)), none⟩]
def f154d3 : ACode := .regD f154r3 [(0, []), (1, []), (2, []), (3, []), (4, []), (5, []), (6, []), (7, []), (8, []), (9, []), (10, []), (11, []), (12, []), (13, []), (14, []), (15, [])]
@[simp] theorem f154d3_u {X κ e h K p} : Run X κ f154d3 e h K p ↔ RIs X κ f154r3 e h K ⟨⟩ := Run_regD rfl
@[simp] def f154r6 : List AIns := [⟨some 50, .mov (.t 12), none⟩,
  ⟨some 51, .mov (.t 13), none⟩,
  ⟨some 52, .bin .leq (.t 50) (.t 51), none⟩,
  ⟨some 53, .mov (.t 52), none⟩,
  ⟨some 54, .mov (.t 4), some (53, true)⟩,
  ⟨some 55, .mov (.t 0), some (53, true)⟩,
  ⟨some 56, .mov (.t 13), some (53, true)⟩,
  ⟨some 57, .idxA 4 (.t 55) (.t 56), some (53, true)⟩,
  ⟨some 58, .loadN 4 (.t 57), some (53, true)⟩,
  ⟨some 59, .mov (.t 0), some (53, true)⟩,
  ⟨some 60, .mov (.t 1), some (53, true)⟩,
  ⟨some 61, .idxA 4 (.t 59) (.t 60), some (53, true)⟩,
  ⟨some 62, .loadN 4 (.t 61), some (53, true)⟩,
  ⟨some 63, .call (.t 54) [(.t 58), (.t 62)], some (53, true)⟩,
  ⟨some 64, .bin .lss (.t 63) (.c (.int .i64 0)), some (53, true)⟩,
  ⟨some 65, .un .not (.t 64), some (53, true)⟩,
  ⟨some 66, .pick (.t 53) (.t 65) (.c (.bool false)), none⟩]
def f154d6 : ACode := .regD f154r6 [(0, []), (1, []), (2, []), (3, []), (4, []), (5, []), (6, []), (7, []), (8, []), (9, []), (10, []), (11, []), (12, []), (13, []), (14, []), (15, []), (16, [])]
@[simp] theorem f154d6_u {X κ e h K p} : Run X κ f154d6 e h K p ↔ RIs X κ f154r6 e h K ⟨⟩ := Run_regD rfl
@[simp] def f154r10 : List AIns := [⟨some 72, .mov (.t 0), none⟩,
  ⟨some 73, .mov (.t 13), none⟩,
  ⟨some 74, .mov (.t 0), none⟩,
  ⟨some 75, .mov (.t 1), none⟩,
  ⟨some 76, .mov (.t 0), none⟩,
  ⟨some 77, .mov (.t 1), none⟩,
  ⟨some 78, .idxA 4 (.t 76) (.t 77), none⟩,
  ⟨some 79, .loadN 4 (.t 78), none⟩,
  ⟨some 80, .mov (.t 0), none⟩,
  ⟨some 81, .mov (.t 13), none⟩,
  ⟨some 82, .idxA 4 (.t 80) (.t 81), none⟩,
  ⟨some 83, .loadN 4 (.t 82), none⟩,
  ⟨some 84, .idxA 4 (.t 72) (.t 73), none⟩,
  ⟨none, .store 4 (.t 84) (.t 79), none⟩,
  ⟨some 85, .idxA 4 (.t 74) (.t 75), none⟩,
  ⟨none, .store 4 (.t 85) (.t 83), none⟩]
def f154d10 : ACode := .regD f154r10 [(0, []), (1, []), (2, []), (3, []), (4, []), (5, []), (6, []), (7, []), (8, []), (9, []), (10, []), (11, []), (12, []), (13, []), (14, []), (15, [])]
@[simp] theorem f154d10_u {X κ e h K p} : Run X κ f154d10 e h K p ↔ RIs X κ f154r10 e h K ⟨⟩ := Run_regD rfl
@[simp] def f154r12 : List AIns := [⟨some 87, .mov (.t 0), none⟩,
  ⟨some 88, .mov (.t 12), none⟩,
  ⟨some 89, .mov (.t 0), none⟩,
  ⟨some 90, .mov (.t 13), none⟩,
  ⟨some 91, .mov (.t 0), none⟩,
  ⟨some 92, .mov (.t 13), none⟩,
  ⟨some 93, .idxA 4 (.t 91) (.t 92), none⟩,
  ⟨some 94, .loadN 4 (.t 93), none⟩,
  ⟨some 95, .mov (.t 0), none⟩,
  ⟨some 96, .mov (.t 12), none⟩,
  ⟨some 97, .idxA 4 (.t 95) (.t 96), none⟩,
  ⟨some 98, .loadN 4 (.t 97), none⟩,
  ⟨some 99, .idxA 4 (.t 87) (.t 88), none⟩,
  ⟨none, .store 4 (.t 99) (.t 94), none⟩,
  ⟨some 100, .idxA 4 (.t 89) (.t 90), none⟩,
  ⟨none, .store 4 (.t 100) (.t 98), none⟩]
def f154d12 : ACode := .regD f154r12 [(0, []), (1, []), (2, []), (3, []), (4, []), (5, []), (6, []), (7, []), (8, []), (9, []), (10, []), (11, []), (12, []), (13, []), (14, []), (15, [])]
@[simp] theorem f154d12_u {X κ e h K p} : Run X κ f154d12 e h K p ↔ RIs X κ f154r12 e h K ⟨⟩ := Run_regD rfl
@[simp] def f154r15 : List AIns := [⟨some 105, .mov (.t 12), none⟩,
  ⟨some 106, .mov (.t 13), none⟩,
  ⟨some 107, .bin .leq (.t 105) (.t 106), none⟩,
  ⟨some 108, .mov (.t 107), none⟩,
  ⟨some 109, .mov (.t 4), some (108, true)⟩,
  ⟨some 110, .mov (.t 0), some (108, true)⟩,
  ⟨some 111, .mov (.t 12), some (108, true)⟩,
  ⟨some 112, .idxA 4 (.t 110) (.t 111), some (108, true)⟩,
  ⟨some 113, .loadN 4 (.t 112), some (108, true)⟩,
  ⟨some 114, .mov (.t 0), some (108, true)⟩,
  ⟨some 115, .mov (.t 1), some (108, true)⟩,
  ⟨some 116, .idxA 4 (.t 114) (.t 115), some (108, true)⟩,
  ⟨some 117, .loadN 4 (.t 116), some (108, true)⟩,
  ⟨some 118, .call (.t 109) [(.t 113), (.t 117)], some (108, true)⟩,
  ⟨some 119, .bin .lss (.t 118) (.c (.int .i64 0)), some (108, true)⟩,
  ⟨some 120, .pick (.t 108) (.t 119) (.c (.bool false)), none⟩]
def f154d15 : ACode := .regD f154r15 [(0, []), (1, []), (2, []), (3, []), (4, []), (5, []), (6, []), (7, []), (8, []), (9, []), (10, []), (11, []), (12, []), (13, []), (14, []), (15, [])]
@[simp] theorem f154d15_u {X κ e h K p} : Run X κ f154d15 e h K p ↔ RIs X κ f154r15 e h K ⟨⟩ := Run_regD rfl
@[simp] def f154r18 : List AIns := [⟨some 123, .mov (.t 12), none⟩,
  ⟨some 124, .mov (.t 13), none⟩,
  ⟨some 125, .bin .leq (.t 123) (.t 124), none⟩,
  ⟨some 126, .mov (.t 125), none⟩,
  ⟨some 127, .mov (.t 4), some (126, true)⟩,
  ⟨some 128, .mov (.t 0), some (126, true)⟩,
  ⟨some 129, .mov (.t 13), some (126, true)⟩,
  ⟨some 130, .idxA 4 (.t 128) (.t 129), some (126, true)⟩,
  ⟨some 131, .loadN 4 (.t 130), some (126, true)⟩,
  ⟨some 132, .mov (.t 0), some (126, true)⟩,
  ⟨some 133, .mov (.t 1), some (126, true)⟩,
  ⟨some 134, .idxA 4 (.t 132) (.t 133), some (126, true)⟩,
  ⟨some 135, .loadN 4 (.t 134), some (126, true)⟩,
  ⟨some 136, .call (.t 127) [(.t 131), (.t 135)], some (126, true)⟩,
  ⟨some 137, .bin .lss (.t 136) (.c (.int .i64 0)), some (126, true)⟩,
  ⟨some 138, .un .not (.t 137), some (126, true)⟩,
  ⟨some 139, .pick (.t 126) (.t 138) (.c (.bool false)), none⟩]
def f154d18 : ACode := .regD f154r18 [(0, []), (1, []), (2, []), (3, []), (4, []), (5, []), (6, []), (7, []), (8, []), (9, []), (10, []), (11, []), (12, []), (13, []), (14, []), (15, []), (16, [])]
@[simp] theorem f154d18_u {X κ e h K p} : Run X κ f154d18 e h K p ↔ RIs X κ f154r18 e h K ⟨⟩ := Run_regD rfl
@[simp] def f154r22 : List AIns := [⟨some 145, .mov (.t 0), none⟩,
  ⟨some 146, .mov (.t 12), none⟩,
  ⟨some 147, .mov (.t 0), none⟩,
  ⟨some 148, .mov (.t 13), none⟩,
  ⟨some 149, .mov (.t 0), none⟩,
  ⟨some 150, .mov (.t 13), none⟩,
  ⟨some 151, .idxA 4 (.t 149) (.t 150), none⟩,
  ⟨some 152, .loadN 4 (.t 151), none⟩,
  ⟨some 153, .mov (.t 0), none⟩,
  ⟨some 154, .mov (.t 12), none⟩,
  ⟨some 155, .idxA 4 (.t 153) (.t 154), none⟩,
  ⟨some 156, .loadN 4 (.t 155), none⟩,
  ⟨some 157, .idxA 4 (.t 145) (.t 146), none⟩,
  ⟨none, .store 4 (.t 157) (.t 152), none⟩,
  ⟨some 158, .idxA 4 (.t 147) (.t 148), none⟩,
  ⟨none, .store 4 (.t 158) (.t 156), none⟩]
def f154d22 : ACode := .regD f154r22 [(0, []), (1, []), (2, []), (3, []), (4, []), (5, []), (6, []), (7, []), (8, []), (9, []), (10, []), (11, []), (12, []), (13, []), (14, []), (15, [])]
@[simp] theorem f154d22_u {X κ e h K p} : Run X κ f154d22 e h K p ↔ RIs X κ f154r22 e h K ⟨⟩ := Run_regD rfl
@[simp] def f154r26 : List AIns := [⟨some 163, .mov (.t 0), none⟩,
  ⟨some 164, .mov (.t 13), none⟩,
  ⟨some 165, .mov (.t 0), none⟩,
  ⟨some 166, .mov (.t 1), none⟩,
  ⟨some 167, .mov (.t 0), none⟩,
  ⟨some 168, .mov (.t 1), none⟩,
  ⟨some 169, .idxA 4 (.t 167) (.t 168), none⟩,
  ⟨some 170, .loadN 4 (.t 169), none⟩,
  ⟨some 171, .mov (.t 0), none⟩,
  ⟨some 172, .mov (.t 13), none⟩,
  ⟨some 173, .idxA 4 (.t 171) (.t 172), none⟩,
  ⟨some 174, .loadN 4 (.t 173), none⟩,
  ⟨some 175, .idxA 4 (.t 163) (.t 164), none⟩,
  ⟨none, .store 4 (.t 175) (.t 170), none⟩,
  ⟨some 176, .idxA 4 (.t 165) (.t 166), none⟩,
  ⟨none, .store 4 (.t 176) (.t 174), none⟩]
def f154d26 : ACode := .regD f154r26 [(0, []), (1, []), (2, []), (3, []), (4, []), (5, []), (6, []), (7, []), (8, []), (9, []), (10, []), (11, []), (12, []), (13, []), (14, []), (15, [])]
@[simp] theorem f154d26_u {X κ e h K p} : Run X κ f154d26 e h K p ↔ RIs X κ f154r26 e h K ⟨⟩ := Run_regD rfl
@[simp] def f157r0 : List AIns := [⟨some 2, .box 44 (.t 0), none⟩,
  ⟨some 3, .box 44 (.t 1), none⟩,
  ⟨some 4, .alloc 46 [(.int .i64 0), (.int .i64 0), (.int .i64 0), (.int .i64 0)], none⟩,
  ⟨some 5, .mov (.c (.int .i64 0)), none⟩]
@[simp] def f157r1 : List AIns := [⟨some 7, .loadN 2 (.t 2), none⟩,
  ⟨some 8, .call (.c (.func (.func 104) #[] #[])) [(.t 7)], none⟩,
  ⟨some 9, .loadN 2 (.t 3), none⟩,
  ⟨some 10, .call (.c (.func (.func 104) #[] #[])) [(.t 9)], none⟩,
  ⟨some 11, .build [(.int .i64 0), (.int .i64 0), (.int .i64 0), (.int .i64 0)] [(0, 2, (.t 8)), (2, 2, (.t 10))], none⟩,
  ⟨some 6, .alloc 46 [(.int .i64 0), (.int .i64 0), (.int .i64 0), (.int .i64 0)], none⟩,
  ⟨none, .store 4 (.t 6) (.t 11), none⟩]
@[simp] def f157d1 : ACode := .regD f157r1 [(0, []), (2, []), (5, []), (1, [2]), (3, []), (4, []), (6, [])]
@[simp] def f157r2 : List AIns := [⟨some 12, .loadN 4 (.t 6), none⟩,
  ⟨some 13, .call (.c (.func (.func 71) #[] #[])) [(.t 12)], none⟩,
  ⟨some 14, .un .not (.t 13), none⟩]
@[simp] def f157r3 : List AIns := [⟨some 15, .build [(.int .i64 0), (.int .i64 0), (.int .i64 0), (.int .i64 0)] [], none⟩,
  ⟨none, .store 4 (.t 4) (.t 15), none⟩,
  ⟨some 5, .mov (.c (.int .i64 30)), none⟩]
@[simp] def f157r4 : List AIns := [⟨some 16, .loadN 4 (.t 6), none⟩,
  ⟨none, .store 4 (.t 4) (.t 16), none⟩,
  ⟨some 5, .mov (.c (.int .i64 0)), none⟩]
@[simp] def f157b : ACode := (.seq (.reg f157r0) (.seq f157d1 (.seq (.seq (.reg f157r2) (.cond (.t 14) (.seq (.reg f157r3) .ret) .skip)) (.seq (.reg f157r4) .ret))))
def f157 : AFn := ⟨17, f157b, [.cellN 4 4, .tmp 5], .pure⟩
theorem f157_is : cFn Try.prog .pure 157 = some f157 := by kernel_rfl
@[simp] def f158r0 : List AIns := [⟨some 2, .mov (.c (.bool false)), none⟩]
@[simp] def f158r1 : List AIns := [⟨some 3, .mov (.t 0), none⟩,
  ⟨some 4, .mov (.t 0), none⟩,
  ⟨some 5, .bin .neq (.t 3) (.t 4), none⟩,
  ⟨some 2, .mov (.t 5), none⟩]
@[simp] def f158b : ACode := (.seq (.reg f158r0) (.seq (.reg f158r1) .ret))
def f158 : AFn := ⟨6, f158b, [.tmp 2], .pure⟩
theorem f158_is : cFn Try.prog .pure 158 = some f158 := by kernel_rfl
@[simp] def f159r0 : List AIns := [⟨some 2, .mov (.c (.bool false)), none⟩]
@[simp] def f159r1 : List AIns := [⟨some 3, .mov (.t 0), none⟩,
  ⟨some 4, .mov (.t 0), none⟩,
  ⟨some 5, .bin .neq (.t 3) (.t 4), none⟩,
  ⟨some 2, .mov (.t 5), none⟩]
@[simp] def f159b : ACode := (.seq (.reg f159r0) (.seq (.reg f159r1) .ret))
def f159 : AFn := ⟨6, f159b, [.tmp 2], .pure⟩
theorem f159_is : cFn Try.prog .pure 159 = some f159 := by kernel_rfl
@[simp] def f160r3 : List AIns := [⟨some 18, .mov (.t 9), none⟩,
  ⟨some 19, .mov (.t 1), none⟩,
  ⟨some 20, .bin .gtr (.t 18) (.t 19), none⟩,
  ⟨some 21, .mov (.t 20), none⟩,
  ⟨some 22, .mov (.t 3), some (21, true)⟩,
  ⟨some 23, .mov (.t 0), some (21, true)⟩,
  ⟨some 24, .mov (.t 9), some (21, true)⟩,
  ⟨some 25, .idxA 2 (.t 23) (.t 24), some (21, true)⟩,
  ⟨some 26, .loadN 2 (.t 25), some (21, true)⟩,
  ⟨some 27, .mov (.t 0), some (21, true)⟩,
  ⟨some 28, .mov (.t 9), some (21, true)⟩,
  ⟨some 29, .bin .sub (.t 28) (.c (.int .i64 1)), some (21, true)⟩,
  ⟨some 30, .idxA 2 (.t 27) (.t 29), some (21, true)⟩,
  ⟨some 31, .loadN 2 (.t 30), some (21, true)⟩,
  ⟨some 32, .call (.t 22) [(.t 26), (.t 31)], some (21, true)⟩,
  ⟨some 33, .bin .lss (.t 32) (.c (.int .i64 0)), some (21, true)⟩,
  ⟨some 34, .pick (.t 21) (.t 33) (.c (.bool false)), none⟩]
def f160d3 : ACode := .regD f160r3 [(0, []), (1, []), (2, []), (3, []), (4, []), (5, []), (6, []), (7, []), (8, []), (9, []), (10, []), (11, []), (12, []), (13, []), (14, []), (15, []), (16, [])]
@[simp] theorem f160d3_u {X κ e h K p} : Run X κ f160d3 e h K p ↔ RIs X κ f160r3 e h K ⟨⟩ := Run_regD rfl
@[simp] def f160r4 : List AIns := [⟨some 37, .mov (.t 0), none⟩,
  ⟨some 38, .mov (.t 9), none⟩,
  ⟨some 39, .mov (.t 0), none⟩,
  ⟨some 40, .mov (.t 9), none⟩,
  ⟨some 41, .bin .sub (.t 40) (.c (.int .i64 1)), none⟩,
  ⟨some 42, .mov (.t 0), none⟩,
  ⟨some 43, .mov (.t 9), none⟩,
  ⟨some 44, .bin .sub (.t 43) (.c (.int .i64 1)), none⟩,
  ⟨some 45, .idxA 2 (.t 42) (.t 44), none⟩,
  ⟨some 46, .loadN 2 (.t 45), none⟩,
  ⟨some 47, .mov (.t 0), none⟩,
  ⟨some 48, .mov (.t 9), none⟩,
  ⟨some 49, .idxA 2 (.t 47) (.t 48), none⟩,
  ⟨some 50, .loadN 2 (.t 49), none⟩,
  ⟨some 51, .idxA 2 (.t 37) (.t 38), none⟩,
  ⟨none, .store 2 (.t 51) (.t 46), none⟩,
  ⟨some 52, .idxA 2 (.t 39) (.t 41), none⟩,
  ⟨none, .store 2 (.t 52) (.t 50), none⟩]
def f160d4 : ACode := .regD f160r4 [(0, []), (1, []), (2, []), (3, []), (4, []), (5, []), (6, []), (7, []), (8, []), (9, []), (10, []), (11, []), (12, []), (13, []), (14, []), (15, []), (16, []), (17, [])]
@[simp] theorem f160d4_u {X κ e h K p} : Run X κ f160d4 e h K p ↔ RIs X κ f160r4 e h K ⟨⟩ := Run_regD rfl
@[simp] def f161r10 : List AIns := [⟨some 36, .mov (.t 0), none⟩,
  ⟨some 37, .mov (.t 8), none⟩,
  ⟨some 38, .mov (.t 0), none⟩,
  ⟨some 39, .mov (.t 8), none⟩,
  ⟨some 40, .mov (.t 12), none⟩,
  ⟨some 41, .bin .add (.t 39) (.t 40), none⟩,
  ⟨some 42, .mov (.t 0), none⟩,
  ⟨some 43, .mov (.t 8), none⟩,
  ⟨some 44, .mov (.t 12), none⟩,
  ⟨some 45, .bin .add (.t 43) (.t 44), none⟩,
  ⟨some 46, .idxA 2 (.t 42) (.t 45), none⟩,
  ⟨some 47, .loadN 2 (.t 46), none⟩,
  ⟨some 48, .mov (.t 0), none⟩,
  ⟨some 49, .mov (.t 8), none⟩,
  ⟨some 50, .idxA 2 (.t 48) (.t 49), none⟩,
  ⟨some 51, .loadN 2 (.t 50), none⟩,
  ⟨some 52, .idxA 2 (.t 36) (.t 37), none⟩,
  ⟨none, .store 2 (.t 52) (.t 47), none⟩,
  ⟨some 53, .idxA 2 (.t 38) (.t 41), none⟩,
  ⟨none, .store 2 (.t 53) (.t 51), none⟩]
def f161d10 : ACode := .regD f161r10 [(0, []), (1, []), (2, []), (3, []), (4, []), (5, []), (6, []), (7, []), (8, []), (9, []), (10, []), (11, []), (12, []), (13, []), (14, []), (15, []), (16, []), (17, []), (18, []), (19, [])]
@[simp] theorem f161d10_u {X κ e h K p} : Run X κ f161d10 e h K p ↔ RIs X κ f161r10 e h K ⟨⟩ := Run_regD rfl
@[simp] def f162r9 : List AIns := [⟨some 49, .mov (.t 0), none⟩,
  ⟨some 50, .mov (.t 11), none⟩,
  ⟨some 51, .mov (.t 0), none⟩,
  ⟨some 52, .mov (.t 1), none⟩,
  ⟨some 53, .mov (.t 12), none⟩,
  ⟨some 54, .bin .add (.t 52) (.t 53), none⟩,
  ⟨some 55, .mov (.t 0), none⟩,
  ⟨some 56, .mov (.t 1), none⟩,
  ⟨some 57, .mov (.t 12), none⟩,
  ⟨some 58, .bin .add (.t 56) (.t 57), none⟩,
  ⟨some 59, .idxA 2 (.t 55) (.t 58), none⟩,
  ⟨some 60, .loadN 2 (.t 59), none⟩,
  ⟨some 61, .mov (.t 0), none⟩,
  ⟨some 62, .mov (.t 11), none⟩,
  ⟨some 63, .idxA 2 (.t 61) (.t 62), none⟩,
  ⟨some 64, .loadN 2 (.t 63), none⟩,
  ⟨some 65, .idxA 2 (.t 49) (.t 50), none⟩,
  ⟨none, .store 2 (.t 65) (.t 60), none⟩,
  ⟨some 66, .idxA 2 (.t 51) (.t 54), none⟩,
  ⟨none, .store 2 (.t 66) (.t 64), none⟩]
def f162d9 : ACode := .regD f162r9 [(0, []), (1, []), (2, []), (3, []), (4, []), (5, []), (6, []), (7, []), (8, []), (9, []), (10, []), (11, []), (12, []), (13, []), (14, []), (15, []), (16, []), (17, []), (18, []), (19, [])]
@[simp] theorem f162d9_u {X κ e h K p} : Run X κ f162d9 e h K p ↔ RIs X κ f162r9 e h K ⟨⟩ := Run_regD rfl
@[simp] def f164r3 : List AIns := [⟨some 16, .mov (.t 0), none⟩,
  ⟨some 17, .mov (.t 8), none⟩,
  ⟨some 18, .mov (.t 0), none⟩,
  ⟨some 19, .mov (.t 9), none⟩,
  ⟨some 20, .mov (.t 0), none⟩,
  ⟨some 21, .mov (.t 9), none⟩,
  ⟨some 22, .idxA 2 (.t 20) (.t 21), none⟩,
  ⟨some 23, .loadN 2 (.t 22), none⟩,
  ⟨some 24, .mov (.t 0), none⟩,
  ⟨some 25, .mov (.t 8), none⟩,
  ⟨some 26, .idxA 2 (.t 24) (.t 25), none⟩,
  ⟨some 27, .loadN 2 (.t 26), none⟩,
  ⟨some 28, .idxA 2 (.t 16) (.t 17), none⟩,
  ⟨none, .store 2 (.t 28) (.t 23), none⟩,
  ⟨some 29, .idxA 2 (.t 18) (.t 19), none⟩,
  ⟨none, .store 2 (.t 29) (.t 27), none⟩]
def f164d3 : ACode := .regD f164r3 [(0, []), (1, []), (2, []), (3, []), (4, []), (5, []), (6, []), (7, []), (8, []), (9, []), (10, []), (11, []), (12, []), (13, []), (14, []), (15, [])]
@[simp] theorem f164d3_u {X κ e h K p} : Run X κ f164d3 e h K p ↔ RIs X κ f164r3 e h K ⟨⟩ := Run_regD rfl
@[simp] def f165r4 : List AIns := [⟨some 19, .mov (.t 9), none⟩,
  ⟨some 20, .mov (.t 2), none⟩,
  ⟨some 21, .bin .lss (.t 19) (.t 20), none⟩,
  ⟨some 22, .mov (.t 21), none⟩,
  ⟨some 23, .mov (.t 3), some (22, true)⟩,
  ⟨some 24, .mov (.t 0), some (22, true)⟩,
  ⟨some 25, .mov (.t 9), some (22, true)⟩,
  ⟨some 26, .idxA 2 (.t 24) (.t 25), some (22, true)⟩,
  ⟨some 27, .loadN 2 (.t 26), some (22, true)⟩,
  ⟨some 28, .mov (.t 0), some (22, true)⟩,
  ⟨some 29, .mov (.t 9), some (22, true)⟩,
  ⟨some 30, .bin .sub (.t 29) (.c (.int .i64 1)), some (22, true)⟩,
  ⟨some 31, .idxA 2 (.t 28) (.t 30), some (22, true)⟩,
  ⟨some 32, .loadN 2 (.t 31), some (22, true)⟩,
  ⟨some 33, .call (.t 23) [(.t 27), (.t 32)], some (22, true)⟩,
  ⟨some 34, .bin .lss (.t 33) (.c (.int .i64 0)), some (22, true)⟩,
  ⟨some 35, .un .not (.t 34), some (22, true)⟩,
  ⟨some 36, .pick (.t 22) (.t 35) (.c (.bool false)), none⟩]
def f165d4 : ACode := .regD f165r4 [(0, []), (1, []), (2, []), (3, []), (4, []), (5, []), (6, []), (7, []), (8, []), (9, []), (10, []), (11, []), (12, []), (13, []), (14, []), (15, []), (16, []), (17, [])]
@[simp] theorem f165d4_u {X κ e h K p} : Run X κ f165d4 e h K p ↔ RIs X κ f165r4 e h K ⟨⟩ := Run_regD rfl
@[simp] def f165r11 : List AIns := [⟨some 46, .mov (.t 0), none⟩,
  ⟨some 47, .mov (.t 9), none⟩,
  ⟨some 48, .mov (.t 0), none⟩,
  ⟨some 49, .mov (.t 9), none⟩,
  ⟨some 50, .bin .sub (.t 49) (.c (.int .i64 1)), none⟩,
  ⟨some 51, .mov (.t 0), none⟩,
  ⟨some 52, .mov (.t 9), none⟩,
  ⟨some 53, .bin .sub (.t 52) (.c (.int .i64 1)), none⟩,
  ⟨some 54, .idxA 2 (.t 51) (.t 53), none⟩,
  ⟨some 55, .loadN 2 (.t 54), none⟩,
  ⟨some 56, .mov (.t 0), none⟩,
  ⟨some 57, .mov (.t 9), none⟩,
  ⟨some 58, .idxA 2 (.t 56) (.t 57), none⟩,
  ⟨some 59, .loadN 2 (.t 58), none⟩,
  ⟨some 60, .idxA 2 (.t 46) (.t 47), none⟩,
  ⟨none, .store 2 (.t 60) (.t 55), none⟩,
  ⟨some 61, .idxA 2 (.t 48) (.t 50), none⟩,
  ⟨none, .store 2 (.t 61) (.t 59), none⟩]
def f165d11 : ACode := .regD f165r11 [(0, []), (1, []), (2, []), (3, []), (4, []), (5, []), (6, []), (7, []), (8, []), (9, []), (10, []), (11, []), (12, []), (13, []), (14, []), (15, []), (16, []), (17, [])]
@[simp] theorem f165d11_u {X κ e h K p} : Run X κ f165d11 e h K p ↔ RIs X κ f165r11 e h K ⟨⟩ := Run_regD rfl
@[simp] def f165r15 : List AIns := [⟨some 72, .mov (.t 3), none⟩,
  ⟨some 73, .mov (.t 0), none⟩,
  ⟨some 74, .mov (.t 11), none⟩,
  ⟨some 75, .idxA 2 (.t 73) (.t 74), none⟩,
  ⟨some 76, .loadN 2 (.t 75), none⟩,
  ⟨some 77, .mov (.t 0), none⟩,
  ⟨some 78, .mov (.t 11), none⟩,
  ⟨some 79, .bin .sub (.t 78) (.c (.int .i64 1)), none⟩,
  ⟨some 80, .idxA 2 (.t 77) (.t 79), none⟩,
  ⟨some 81, .loadN 2 (.t 80), none⟩,
  ⟨some 82, .call (.t 72) [(.t 76), (.t 81)], none⟩,
  ⟨some 83, .bin .lss (.t 82) (.c (.int .i64 0)), none⟩,
  ⟨some 84, .un .not (.t 83), none⟩]
def f165d15 : ACode := .regD f165r15 [(0, []), (1, []), (2, []), (3, []), (4, []), (5, []), (6, []), (7, []), (8, []), (9, []), (10, []), (11, []), (12, [])]
@[simp] theorem f165d15_u {X κ e h K p} : Run X κ f165d15 e h K p ↔ RIs X κ f165r15 e h K ⟨⟩ := Run_regD rfl
@[simp] def f165r16 : List AIns := [⟨some 85, .mov (.t 0), none⟩,
  ⟨some 86, .mov (.t 11), none⟩,
  ⟨some 87, .mov (.t 0), none⟩,
  ⟨some 88, .mov (.t 11), none⟩,
  ⟨some 89, .bin .sub (.t 88) (.c (.int .i64 1)), none⟩,
  ⟨some 90, .mov (.t 0), none⟩,
  ⟨some 91, .mov (.t 11), none⟩,
  ⟨some 92, .bin .sub (.t 91) (.c (.int .i64 1)), none⟩,
  ⟨some 93, .idxA 2 (.t 90) (.t 92), none⟩,
  ⟨some 94, .loadN 2 (.t 93), none⟩,
  ⟨some 95, .mov (.t 0), none⟩,
  ⟨some 96, .mov (.t 11), none⟩,
  ⟨some 97, .idxA 2 (.t 95) (.t 96), none⟩,
  ⟨some 98, .loadN 2 (.t 97), none⟩,
  ⟨some 99, .idxA 2 (.t 85) (.t 86), none⟩,
  ⟨none, .store 2 (.t 99) (.t 94), none⟩,
  ⟨some 100, .idxA 2 (.t 87) (.t 89), none⟩,
  ⟨none, .store 2 (.t 100) (.t 98), none⟩]
def f165d16 : ACode := .regD f165r16 [(0, []), (1, []), (2, []), (3, []), (4, []), (5, []), (6, []), (7, []), (8, []), (9, []), (10, []), (11, []), (12, []), (13, []), (14, []), (15, []), (16, []), (17, [])]
@[simp] theorem f165d16_u {X κ e h K p} : Run X κ f165d16 e h K p ↔ RIs X κ f165r16 e h K ⟨⟩ := Run_regD rfl
@[simp] def f165r22 : List AIns := [⟨some 112, .mov (.t 3), none⟩,
  ⟨some 113, .mov (.t 0), none⟩,
  ⟨some 114, .mov (.t 12), none⟩,
  ⟨some 115, .idxA 2 (.t 113) (.t 114), none⟩,
  ⟨some 116, .loadN 2 (.t 115), none⟩,
  ⟨some 117, .mov (.t 0), none⟩,
  ⟨some 118, .mov (.t 12), none⟩,
  ⟨some 119, .bin .sub (.t 118) (.c (.int .i64 1)), none⟩,
  ⟨some 120, .idxA 2 (.t 117) (.t 119), none⟩,
  ⟨some 121, .loadN 2 (.t 120), none⟩,
  ⟨some 122, .call (.t 112) [(.t 116), (.t 121)], none⟩,
  ⟨some 123, .bin .lss (.t 122) (.c (.int .i64 0)), none⟩,
  ⟨some 124, .un .not (.t 123), none⟩]
def f165d22 : ACode := .regD f165r22 [(0, []), (1, []), (2, []), (3, []), (4, []), (5, []), (6, []), (7, []), (8, []), (9, []), (10, []), (11, []), (12, [])]
@[simp] theorem f165d22_u {X κ e h K p} : Run X κ f165d22 e h K p ↔ RIs X κ f165r22 e h K ⟨⟩ := Run_regD rfl
@[simp] def f165r23 : List AIns := [⟨some 125, .mov (.t 0), none⟩,
  ⟨some 126, .mov (.t 12), none⟩,
  ⟨some 127, .mov (.t 0), none⟩,
  ⟨some 128, .mov (.t 12), none⟩,
  ⟨some 129, .bin .sub (.t 128) (.c (.int .i64 1)), none⟩,
  ⟨some 130, .mov (.t 0), none⟩,
  ⟨some 131, .mov (.t 12), none⟩,
  ⟨some 132, .bin .sub (.t 131) (.c (.int .i64 1)), none⟩,
  ⟨some 133, .idxA 2 (.t 130) (.t 132), none⟩,
  ⟨some 134, .loadN 2 (.t 133), none⟩,
  ⟨some 135, .mov (.t 0), none⟩,
  ⟨some 136, .mov (.t 12), none⟩,
  ⟨some 137, .idxA 2 (.t 135) (.t 136), none⟩,
  ⟨some 138, .loadN 2 (.t 137), none⟩,
  ⟨some 139, .idxA 2 (.t 125) (.t 126), none⟩,
  ⟨none, .store 2 (.t 139) (.t 134), none⟩,
  ⟨some 140, .idxA 2 (.t 127) (.t 129), none⟩,
  ⟨none, .store 2 (.t 140) (.t 138), none⟩]
def f165d23 : ACode := .regD f165r23 [(0, []), (1, []), (2, []), (3, []), (4, []), (5, []), (6, []), (7, []), (8, []), (9, []), (10, []), (11, []), (12, []), (13, []), (14, []), (15, []), (16, []), (17, [])]
@[simp] theorem f165d23_u {X κ e h K p} : Run X κ f165d23 e h K p ↔ RIs X κ f165r23 e h K ⟨⟩ := Run_regD rfl
@[simp] def f166r1 : List AIns := [⟨some 13, .mov (.t 0), none⟩,
  ⟨some 14, .mov (.t 1), none⟩,
  ⟨some 15, .mov (.t 0), none⟩,
  ⟨some 16, .mov (.t 3), none⟩,
  ⟨some 17, .mov (.t 0), none⟩,
  ⟨some 18, .mov (.t 3), none⟩,
  ⟨some 19, .idxA 2 (.t 17) (.t 18), none⟩,
  ⟨some 20, .loadN 2 (.t 19), none⟩,
  ⟨some 21, .mov (.t 0), none⟩,
  ⟨some 22, .mov (.t 1), none⟩,
  ⟨some 23, .idxA 2 (.t 21) (.t 22), none⟩,
  ⟨some 24, .loadN 2 (.t 23), none⟩,
  ⟨some 25, .idxA 2 (.t 13) (.t 14), none⟩,
  ⟨none, .store 2 (.t 25) (.t 20), none⟩,
  ⟨some 26, .idxA 2 (.t 15) (.t 16), none⟩,
  ⟨none, .store 2 (.t 26) (.t 24), none⟩]
def f166d1 : ACode := .regD f166r1 [(0, []), (1, []), (2, []), (3, []), (4, []), (5, []), (6, []), (7, []), (8, []), (9, []), (10, []), (11, []), (12, []), (13, []), (14, []), (15, [])]
@[simp] theorem f166d1_u {X κ e h K p} : Run X κ f166d1 e h K p ↔ RIs X κ f166r1 e h K ⟨⟩ := Run_regD rfl
@[simp] def f166r3 : List AIns := [⟨some 31, .mov (.t 11), none⟩,
  ⟨some 32, .mov (.t 12), none⟩,
  ⟨some 33, .bin .leq (.t 31) (.t 32), none⟩,
  ⟨some 34, .mov (.t 33), none⟩,
  ⟨some 35, .mov (.t 4), some (34, true)⟩,
  ⟨some 36, .mov (.t 0), some (34, true)⟩,
  ⟨some 37, .mov (.t 1), some (34, true)⟩,
  ⟨some 38, .idxA 2 (.t 36) (.t 37), some (34, true)⟩,
  ⟨some 39, .loadN 2 (.t 38), some (34, true)⟩,
  ⟨some 40, .mov (.t 0), some (34, true)⟩,
  ⟨some 41, .mov (.t 11), some (34, true)⟩,
  ⟨some 42, .idxA 2 (.t 40) (.t 41), some (34, true)⟩,
  ⟨some 43, .loadN 2 (.t 42), some (34, true)⟩,
  ⟨some 44, .call (.t 35) [(.t 39), (.t 43)], some (34, true)⟩,
  ⟨some 45, .bin .lss (.t 44) (.c (.int .i64 0)), some (34, true)⟩,
  ⟨some 46, .un .not (.t 45), some (34, true)⟩,
  ⟨some 47, .pick (.t 34) (.t 46) (.c (.bool false)), none⟩]
def f166d3 : ACode := .regD f166r3 [(0, []), (1, []), (2, []), (3, []), (4, []), (5, []), (6, []), (7, []), (8, []), (9, []), (10, []), (11, []), (12, []), (13, []), (14, []), (15, []), (16, [])]
@[simp] theorem f166d3_u {X κ e h K p} : Run X κ f166d3 e h K p ↔ RIs X κ f166r3 e h K ⟨⟩ := Run_regD rfl
@[simp] def f166r6 : List AIns := [⟨some 50, .mov (.t 11), none⟩,
  ⟨some 51, .mov (.t 12), none⟩,
  ⟨some 52, .bin .leq (.t 50) (.t 51), none⟩,
  ⟨some 53, .mov (.t 52), none⟩,
  ⟨some 54, .mov (.t 4), some (53, true)⟩,
  ⟨some 55, .mov (.t 0), some (53, true)⟩,
  ⟨some 56, .mov (.t 1), some (53, true)⟩,
  ⟨some 57, .idxA 2 (.t 55) (.t 56), some (53, true)⟩,
  ⟨some 58, .loadN 2 (.t 57), some (53, true)⟩,
  ⟨some 59, .mov (.t 0), some (53, true)⟩,
  ⟨some 60, .mov (.t 12), some (53, true)⟩,
  ⟨some 61, .idxA 2 (.t 59) (.t 60), some (53, true)⟩,
  ⟨some 62, .loadN 2 (.t 61), some (53, true)⟩,
  ⟨some 63, .call (.t 54) [(.t 58), (.t 62)], some (53, true)⟩,
  ⟨some 64, .bin .lss (.t 63) (.c (.int .i64 0)), some (53, true)⟩,
  ⟨some 65, .pick (.t 53) (.t 64) (.c (.bool false)), none⟩]
def f166d6 : ACode := .regD f166r6 [(0, []), (1, []), (2, []), (3, []), (4, []), (5, []), (6, []), (7, []), (8, []), (9, []), (10, []), (11, []), (12, []), (13, []), (14, []), (15, [])]
@[simp] theorem f166d6_u {X κ e h K p} : Run X κ f166d6 e h K p ↔ RIs X κ f166r6 e h K ⟨⟩ := Run_regD rfl
@[simp] def f166r10 : List AIns := [⟨some 71, .mov (.t 0), none⟩,
  ⟨some 72, .mov (.t 11), none⟩,
  ⟨some 73, .mov (.t 0), none⟩,
  ⟨some 74, .mov (.t 12), none⟩,
  ⟨some 75, .mov (.t 0), none⟩,
  ⟨some 76, .mov (.t 12), none⟩,
  ⟨some 77, .idxA 2 (.t 75) (.t 76), none⟩,
  ⟨some 78, .loadN 2 (.t 77), none⟩,
  ⟨some 79, .mov (.t 0), none⟩,
  ⟨some 80, .mov (.t 11), none⟩,
  ⟨some 81, .idxA 2 (.t 79) (.t 80), none⟩,
  ⟨some 82, .loadN 2 (.t 81), none⟩,
  ⟨some 83, .idxA 2 (.t 71) (.t 72), none⟩,
  ⟨none, .store 2 (.t 83) (.t 78), none⟩,
  ⟨some 84, .idxA 2 (.t 73) (.t 74), none⟩,
  ⟨none, .store 2 (.t 84) (.t 82), none⟩]
def f166d10 : ACode := .regD f166r10 [(0, []), (1, []), (2, []), (3, []), (4, []), (5, []), (6, []), (7, []), (8, []), (9, []), (10, []), (11, []), (12, []), (13, []), (14, []), (15, [])]
@[simp] theorem f166d10_u {X κ e h K p} : Run X κ f166d10 e h K p ↔ RIs X κ f166r10 e h K ⟨⟩ := Run_regD rfl
@[simp] def f167r1 : List AIns := [⟨some 14, .mov (.t 0), none⟩,
  ⟨some 15, .mov (.t 1), none⟩,
  ⟨some 16, .mov (.t 0), none⟩,
  ⟨some 17, .mov (.t 3), none⟩,
  ⟨some 18, .mov (.t 0), none⟩,
  ⟨some 19, .mov (.t 3), none⟩,
  ⟨some 20, .idxA 2 (.t 18) (.t 19), none⟩,
  ⟨some 21, .loadN 2 (.t 20), none⟩,
  ⟨some 22, .mov (.t 0), none⟩,
  ⟨some 23, .mov (.t 1), none⟩,
  ⟨some 24, .idxA 2 (.t 22) (.t 23), none⟩,
  ⟨some 25, .loadN 2 (.t 24), none⟩,
  ⟨some 26, .idxA 2 (.t 14) (.t 15), none⟩,
  ⟨none, .store 2 (.t 26) (.t 21), none⟩,
  ⟨some 27, .idxA 2 (.t 16) (.t 17), none⟩,
  ⟨none, .store 2 (.t 27) (.t 25), none⟩]
def f167d1 : ACode := .regD f167r1 [(0, []), (1, []), (2, []), (3, []), (4, []), (5, []), (6, []), (7, []), (8, []), (9, []), (10, []), (11, []), (12, []), (13, []), (14, []), (15, [])]
@[simp] theorem f167d1_u {X κ e h K p} : Run X κ f167d1 e h K p ↔ RIs X κ f167r1 e h K ⟨⟩ := Run_regD rfl
@[simp] def f167r3 : List AIns := [⟨some 32, .mov (.t 12), none⟩,
  ⟨some 33, .mov (.t 13), none⟩,
  ⟨some 34, .bin .leq (.t 32) (.t 33), none⟩,
  ⟨some 35, .mov (.t 34), none⟩,
  ⟨some 36, .mov (.t 4), some (35, true)⟩,
  ⟨some 37, .mov (.t 0), some (35, true)⟩,
  ⟨some 38, .mov (.t 12), some (35, true)⟩,
  ⟨some 39, .idxA 2 (.t 37) (.t 38), some (35, true)⟩,
  ⟨some 40, .loadN 2 (.t 39), some (35, true)⟩,
  ⟨some 41, .mov (.t 0), some (35, true)⟩,
  ⟨some 42, .mov (.t 1), some (35, true)⟩,
  ⟨some 43, .idxA 2 (.t 41) (.t 42), some (35, true)⟩,
  ⟨some 44, .loadN 2 (.t 43), some (35, true)⟩,
  ⟨some 45, .call (.t 36) [(.t 40), (.t 44)], some (35, true)⟩,
  ⟨some 46, .bin .lss (.t 45) (.c (.int .i64 0)), some (35, true)⟩,
  ⟨some 47, .pick (.t 35) (.t 46) (.c (.bool false)), none⟩]
def f167d3 : ACode := .regD f167r3 [(0, []), (1, []), (2, []), (3, []), (4, []), (5, []), (6, []), (7, []), (8, []), (9, []), (10, []), (11, []), (12, []), (13, []), (14, []), (15, [])]
@[simp] theorem f167d3_u {X κ e h K p} : Run X κ f167d3 e h K p ↔ RIs X κ f167r3 e h K ⟨⟩ := Run_regD rfl
@[simp] def f167r6 : List AIns := [⟨some 50, .mov (.t 12), none⟩,
  ⟨some 51, .mov (.t 13), none⟩,
  ⟨some 52, .bin .leq (.t 50) (.t 51), none⟩,
  ⟨some 53, .mov (.t 52), none⟩,
  ⟨some 54, .mov (.t 4), some (53, true)⟩,
  ⟨some 55, .mov (.t 0), some (53, true)⟩,
  ⟨some 56, .mov (.t 13), some (53, true)⟩,
  ⟨some 57, .idxA 2 (.t 55) (.t 56), some (53, true)⟩,
  ⟨some 58, .loadN 2 (.t 57), some (53, true)⟩,
  ⟨some 59, .mov (.t 0), some (53, true)⟩,
  ⟨some 60, .mov (.t 1), some (53, true)⟩,
  ⟨some 61, .idxA 2 (.t 59) (.t 60), some (53, true)⟩,
  ⟨some 62, .loadN 2 (.t 61), some (53, true)⟩,
  ⟨some 63, .call (.t 54) [(.t 58), (.t 62)], some (53, true)⟩,
  ⟨some 64, .bin .lss (.t 63) (.c (.int .i64 0)), some (53, true)⟩,
  ⟨some 65, .un .not (.t 64), some (53, true)⟩,
  ⟨some 66, .pick (.t 53) (.t 65) (.c (.bool false)), none⟩]
def f167d6 : ACode := .regD f167r6 [(0, []), (1, []), (2, []), (3, []), (4, []), (5, []), (6, []), (7, []), (8, []), (9, []), (10, []), (11, []), (12, []), (13, []), (14, []), (15, []), (16, [])]
@[simp] theorem f167d6_u {X κ e h K p} : Run X κ f167d6 e h K p ↔ RIs X κ f167r6 e h K ⟨⟩ := Run_regD rfl
@[simp] def f167r10 : List AIns := [⟨some 72, .mov (.t 0), none⟩,
  ⟨some 73, .mov (.t 13), none⟩,
  ⟨some 74, .mov (.t 0), none⟩,
  ⟨some 75, .mov (.t 1), none⟩,
  ⟨some 76, .mov (.t 0), none⟩,
  ⟨some 77, .mov (.t 1), none⟩,
  ⟨some 78, .idxA 2 (.t 76) (.t 77), none⟩,
  ⟨some 79, .loadN 2 (.t 78), none⟩,
  ⟨some 80, .mov (.t 0), none⟩,
  ⟨some 81, .mov (.t 13), none⟩,
  ⟨some 82, .idxA 2 (.t 80) (.t 81), none⟩,
  ⟨some 83, .loadN 2 (.t 82), none⟩,
  ⟨some 84, .idxA 2 (.t 72) (.t 73), none⟩,
  ⟨none, .store 2 (.t 84) (.t 79), none⟩,
  ⟨some 85, .idxA 2 (.t 74) (.t 75), none⟩,
  ⟨none, .store 2 (.t 85) (.t 83), none⟩]
def f167d10 : ACode := .regD f167r10 [(0, []), (1, []), (2, []), (3, []), (4, []), (5, []), (6, []), (7, []), (8, []), (9, []), (10, []), (11, []), (12, []), (13, []), (14, []), (15, [])]
@[simp] theorem f167d10_u {X κ e h K p} : Run X κ f167d10 e h K p ↔ RIs X κ f167r10 e h K ⟨⟩ := Run_regD rfl
@[simp] def f167r12 : List AIns := [⟨some 87, .mov (.t 0), none⟩,
  ⟨some 88, .mov (.t 12), none⟩,
  ⟨some 89, .mov (.t 0), none⟩,
  ⟨some 90, .mov (.t 13), none⟩,
  ⟨some 91, .mov (.t 0), none⟩,
  ⟨some 92, .mov (.t 13), none⟩,
  ⟨some 93, .idxA 2 (.t 91) (.t 92), none⟩,
  ⟨some 94, .loadN 2 (.t 93), none⟩,
  ⟨some 95, .mov (.t 0), none⟩,
  ⟨some 96, .mov (.t 12), none⟩,
  ⟨some 97, .idxA 2 (.t 95) (.t 96), none⟩,
  ⟨some 98, .loadN 2 (.t 97), none⟩,
  ⟨some 99, .idxA 2 (.t 87) (.t 88), none⟩,
  ⟨none, .store 2 (.t 99) (.t 94), none⟩,
  ⟨some 100, .idxA 2 (.t 89) (.t 90), none⟩,
  ⟨none, .store 2 (.t 100) (.t 98), none⟩]
def f167d12 : ACode := .regD f167r12 [(0, []), (1, []), (2, []), (3, []), (4, []), (5, []), (6, []), (7, []), (8, []), (9, []), (10, []), (11, []), (12, []), (13, []), (14, []), (15, [])]
@[simp] theorem f167d12_u {X κ e h K p} : Run X κ f167d12 e h K p ↔ RIs X κ f167r12 e h K ⟨⟩ := Run_regD rfl
@[simp] def f167r15 : List AIns := [⟨some 105, .mov (.t 12), none⟩,
  ⟨some 106, .mov (.t 13), none⟩,
  ⟨some 107, .bin .leq (.t 105) (.t 106), none⟩,
  ⟨some 108, .mov (.t 107), none⟩,
  ⟨some 109, .mov (.t 4), some (108, true)⟩,
  ⟨some 110, .mov (.t 0), some (108, true)⟩,
  ⟨some 111, .mov (.t 12), some (108, true)⟩,
  ⟨some 112, .idxA 2 (.t 110) (.t 111), some (108, true)⟩,
  ⟨some 113, .loadN 2 (.t 112), some (108, true)⟩,
  ⟨some 114, .mov (.t 0), some (108, true)⟩,
  ⟨some 115, .mov (.t 1), some (108, true)⟩,
  ⟨some 116, .idxA 2 (.t 114) (.t 115), some (108, true)⟩,
  ⟨some 117, .loadN 2 (.t 116), some (108, true)⟩,
  ⟨some 118, .call (.t 109) [(.t 113), (.t 117)], some (108, true)⟩,
  ⟨some 119, .bin .lss (.t 118) (.c (.int .i64 0)), some (108, true)⟩,
  ⟨some 120, .pick (.t 108) (.t 119) (.c (.bool false)), none⟩]
def f167d15 : ACode := .regD f167r15 [(0, []), (1, []), (2, []), (3, []), (4, []), (5, []), (6, []), (7, []), (8, []), (9, []), (10, []), (11, []), (12, []), (13, []), (14, []), (15, [])]
@[simp] theorem f167d15_u {X κ e h K p} : Run X κ f167d15 e h K p ↔ RIs X κ f167r15 e h K ⟨⟩ := Run_regD rfl
@[simp] def f167r18 : List AIns := [⟨some 123, .mov (.t 12), none⟩,
  ⟨some 124, .mov (.t 13), none⟩,
  ⟨some 125, .bin .leq (.t 123) (.t 124), none⟩,
  ⟨some 126, .mov (.t 125), none⟩,
  ⟨some 127, .mov (.t 4), some (126, true)⟩,
  ⟨some 128, .mov (.t 0), some (126, true)⟩,
  ⟨some 129, .mov (.t 13), some (126, true)⟩,
  ⟨some 130, .idxA 2 (.t 128) (.t 129), some (126, true)⟩,
  ⟨some 131, .loadN 2 (.t 130), some (126, true)⟩,
  ⟨some 132, .mov (.t 0), some (126, true)⟩,
  ⟨some 133, .mov (.t 1), some (126, true)⟩,
  ⟨some 134, .idxA 2 (.t 132) (.t 133), some (126, true)⟩,
  ⟨some 135, .loadN 2 (.t 134), some (126, true)⟩,
  ⟨some 136, .call (.t 127) [(.t 131), (.t 135)], some (126, true)⟩,
  ⟨some 137, .bin .lss (.t 136) (.c (.int .i64 0)), some (126, true)⟩,
  ⟨some 138, .un .not (.t 137), some (126, true)⟩,
  ⟨some 139, .pick (.t 126) (.t 138) (.c (.bool false)), none⟩]
def f167d18 : ACode := .regD f167r18 [(0, []), (1, []), (2, []), (3, []), (4, []), (5, []), (6, []), (7, []), (8, []), (9, []), (10, []), (11, []), (12, []), (13, []), (14, []), (15, []), (16, [])]
@[simp] theorem f167d18_u {X κ e h K p} : Run X κ f167d18 e h K p ↔ RIs X κ f167r18 e h K ⟨⟩ := Run_regD rfl
@[simp] def f167r22 : List AIns := [⟨some 145, .mov (.t 0), none⟩,
  ⟨some 146, .mov (.t 12), none⟩,
  ⟨some 147, .mov (.t 0), none⟩,
  ⟨some 148, .mov (.t 13), none⟩,
  ⟨some 149, .mov (.t 0), none⟩,
  ⟨some 150, .mov (.t 13), none⟩,
  ⟨some 151, .idxA 2 (.t 149) (.t 150), none⟩,
  ⟨some 152, .loadN 2 (.t 151), none⟩,
  ⟨some 153, .mov (.t 0), none⟩,
  ⟨some 154, .mov (.t 12), none⟩,
  ⟨some 155, .idxA 2 (.t 153) (.t 154), none⟩,
  ⟨some 156, .loadN 2 (.t 155), none⟩,
  ⟨some 157, .idxA 2 (.t 145) (.t 146), none⟩,
  ⟨none, .store 2 (.t 157) (.t 152), none⟩,
  ⟨some 158, .idxA 2 (.t 147) (.t 148), none⟩,
  ⟨none, .store 2 (.t 158) (.t 156), none⟩]
def f167d22 : ACode := .regD f167r22 [(0, []), (1, []), (2, []), (3, []), (4, []), (5, []), (6, []), (7, []), (8, []), (9, []), (10, []), (11, []), (12, []), (13, []), (14, []), (15, [])]
@[simp] theorem f167d22_u {X κ e h K p} : Run X κ f167d22 e h K p ↔ RIs X κ f167r22 e h K ⟨⟩ := Run_regD rfl
@[simp] def f167r26 : List AIns := [⟨some 163, .mov (.t 0), none⟩,
  ⟨some 164, .mov (.t 13), none⟩,
  ⟨some 165, .mov (.t 0), none⟩,
  ⟨some 166, .mov (.t 1), none⟩,
  ⟨some 167, .mov (.t 0), none⟩,
  ⟨some 168, .mov (.t 1), none⟩,
  ⟨some 169, .idxA 2 (.t 167) (.t 168), none⟩,
  ⟨some 170, .loadN 2 (.t 169), none⟩,
  ⟨some 171, .mov (.t 0), none⟩,
  ⟨some 172, .mov (.t 13), none⟩,
  ⟨some 173, .idxA 2 (.t 171) (.t 172), none⟩,
  ⟨some 174, .loadN 2 (.t 173), none⟩,
  ⟨some 175, .idxA 2 (.t 163) (.t 164), none⟩,
  ⟨none, .store 2 (.t 175) (.t 170), none⟩,
  ⟨some 176, .idxA 2 (.t 165) (.t 166), none⟩,
  ⟨none, .store 2 (.t 176) (.t 174), none⟩]
def f167d26 : ACode := .regD f167r26 [(0, []), (1, []), (2, []), (3, []), (4, []), (5, []), (6, []), (7, []), (8, []), (9, []), (10, []), (11, []), (12, []), (13, []), (14, []), (15, [])]
@[simp] theorem f167d26_u {X κ e h K p} : Run X κ f167d26 e h K p ↔ RIs X κ f167r26 e h K ⟨⟩ := Run_regD rfl
@[simp] def f176r3 : List AIns := [⟨some 19, .mov (.t 11), none⟩,
  ⟨some 20, .bin .add (.t 19) (.c (.int .i64 1)), none⟩,
  ⟨some 21, .mov (.t 2), none⟩,
  ⟨some 22, .bin .lss (.t 20) (.t 21), none⟩,
  ⟨some 23, .mov (.t 22), none⟩,
  ⟨some 24, .mov (.t 4), some (23, true)⟩,
  ⟨some 25, .mov (.t 0), some (23, true)⟩,
  ⟨some 26, .mov (.t 3), some (23, true)⟩,
  ⟨some 27, .mov (.t 11), some (23, true)⟩,
  ⟨some 28, .bin .add (.t 26) (.t 27), some (23, true)⟩,
  ⟨some 29, .idxA 4 (.t 25) (.t 28), some (23, true)⟩,
  ⟨some 30, .loadN 4 (.t 29), some (23, true)⟩,
  ⟨some 31, .mov (.t 0), some (23, true)⟩,
  ⟨some 32, .mov (.t 3), some (23, true)⟩,
  ⟨some 33, .mov (.t 11), some (23, true)⟩,
  ⟨some 34, .bin .add (.t 32) (.t 33), some (23, true)⟩,
  ⟨some 35, .bin .add (.t 34) (.c (.int .i64 1)), some (23, true)⟩,
  ⟨some 36, .idxA 4 (.t 31) (.t 35), some (23, true)⟩,
  ⟨some 37, .loadN 4 (.t 36), some (23, true)⟩,
  ⟨some 38, .call (.t 24) [(.t 30), (.t 37)], some (23, true)⟩,
  ⟨some 39, .bin .lss (.t 38) (.c (.int .i64 0)), some (23, true)⟩,
  ⟨some 40, .pick (.t 23) (.t 39) (.c (.bool false)), none⟩]
def f176d3 : ACode := .regD f176r3 [(0, []), (1, []), (2, []), (3, []), (4, []), (5, []), (6, []), (7, []), (8, []), (9, []), (10, []), (11, []), (12, []), (13, []), (14, []), (15, []), (16, []), (17, []), (18, []), (19, []), (20, []), (21, [])]
@[simp] theorem f176d3_u {X κ e h K p} : Run X κ f176d3 e h K p ↔ RIs X κ f176r3 e h K ⟨⟩ := Run_regD rfl
@[simp] def f176r5 : List AIns := [⟨some 43, .mov (.t 4), none⟩,
  ⟨some 44, .mov (.t 0), none⟩,
  ⟨some 45, .mov (.t 3), none⟩,
  ⟨some 46, .mov (.t 10), none⟩,
  ⟨some 47, .bin .add (.t 45) (.t 46), none⟩,
  ⟨some 48, .idxA 4 (.t 44) (.t 47), none⟩,
  ⟨some 49, .loadN 4 (.t 48), none⟩,
  ⟨some 50, .mov (.t 0), none⟩,
  ⟨some 51, .mov (.t 3), none⟩,
  ⟨some 52, .mov (.t 11), none⟩,
  ⟨some 53, .bin .add (.t 51) (.t 52), none⟩,
  ⟨some 54, .idxA 4 (.t 50) (.t 53), none⟩,
  ⟨some 55, .loadN 4 (.t 54), none⟩,
  ⟨some 56, .call (.t 43) [(.t 49), (.t 55)], none⟩,
  ⟨some 57, .bin .lss (.t 56) (.c (.int .i64 0)), none⟩,
  ⟨some 58, .un .not (.t 57), none⟩]
def f176d5 : ACode := .regD f176r5 [(0, []), (1, []), (2, []), (3, []), (4, []), (5, []), (6, []), (7, []), (8, []), (9, []), (10, []), (11, []), (12, []), (13, []), (14, []), (15, [])]
@[simp] theorem f176d5_u {X κ e h K p} : Run X κ f176d5 e h K p ↔ RIs X κ f176r5 e h K ⟨⟩ := Run_regD rfl
@[simp] def f176r6 : List AIns := [⟨some 59, .mov (.t 0), none⟩,
  ⟨some 60, .mov (.t 3), none⟩,
  ⟨some 61, .mov (.t 10), none⟩,
  ⟨some 62, .bin .add (.t 60) (.t 61), none⟩,
  ⟨some 63, .mov (.t 0), none⟩,
  ⟨some 64, .mov (.t 3), none⟩,
  ⟨some 65, .mov (.t 11), none⟩,
  ⟨some 66, .bin .add (.t 64) (.t 65), none⟩,
  ⟨some 67, .mov (.t 0), none⟩,
  ⟨some 68, .mov (.t 3), none⟩,
  ⟨some 69, .mov (.t 11), none⟩,
  ⟨some 70, .bin .add (.t 68) (.t 69), none⟩,
  ⟨some 71, .idxA 4 (.t 67) (.t 70), none⟩,
  ⟨some 72, .loadN 4 (.t 71), none⟩,
  ⟨some 73, .mov (.t 0), none⟩,
  ⟨some 74, .mov (.t 3), none⟩,
  ⟨some 75, .mov (.t 10), none⟩,
  ⟨some 76, .bin .add (.t 74) (.t 75), none⟩,
  ⟨some 77, .idxA 4 (.t 73) (.t 76), none⟩,
  ⟨some 78, .loadN 4 (.t 77), none⟩,
  ⟨some 79, .idxA 4 (.t 59) (.t 62), none⟩,
  ⟨none, .store 4 (.t 79) (.t 72), none⟩,
  ⟨some 80, .idxA 4 (.t 63) (.t 66), none⟩,
  ⟨none, .store 4 (.t 80) (.t 78), none⟩]
def f176d6 : ACode := .regD f176r6 [(0, []), (1, []), (2, []), (3, []), (4, []), (5, []), (6, []), (7, []), (8, []), (9, []), (10, []), (11, []), (12, []), (13, []), (14, []), (15, []), (16, []), (17, []), (18, []), (19, []), (20, []), (21, []), (22, []), (23, [])]
@[simp] theorem f176d6_u {X κ e h K p} : Run X κ f176d6 e h K p ↔ RIs X κ f176r6 e h K ⟨⟩ := Run_regD rfl
@[simp] def f178r1 : List AIns := [⟨some 3, .mov (.t 0), none⟩,
  ⟨some 4, .nilCheck (.t 3), none⟩,
  ⟨some 5, .load1 (.t 4), none⟩,
  ⟨some 6, .mov (.t 0), none⟩,
  ⟨some 7, .nilCheck (.t 6), none⟩,
  ⟨some 8, .load1 (.t 7), none⟩,
  ⟨some 9, .bin .shl (.t 8) (.c (.int .u64 13)), none⟩,
  ⟨some 10, .bin .xor (.t 5) (.t 9), none⟩,
  ⟨some 11, .nilCheck (.t 3), none⟩,
  ⟨none, .store 1 (.t 11) (.t 10), none⟩]
def f178d1 : ACode := .regD f178r1 [(0, []), (1, []), (2, []), (3, []), (4, []), (5, []), (6, []), (7, []), (8, []), (9, [])]
@[simp] theorem f178d1_u {X κ e h K p} : Run X κ f178d1 e h K p ↔ RIs X κ f178r1 e h K ⟨⟩ := Run_regD rfl
@[simp] def f178r2 : List AIns := [⟨some 12, .mov (.t 0), none⟩,
  ⟨some 13, .nilCheck (.t 12), none⟩,
  ⟨some 14, .load1 (.t 13), none⟩,
  ⟨some 15, .mov (.t 0), none⟩,
  ⟨some 16, .nilCheck (.t 15), none⟩,
  ⟨some 17, .load1 (.t 16), none⟩,
  ⟨some 18, .bin .shr (.t 17) (.c (.int .u64 7)), none⟩,
  ⟨some 19, .bin .xor (.t 14) (.t 18), none⟩,
  ⟨some 20, .nilCheck (.t 12), none⟩,
  ⟨none, .store 1 (.t 20) (.t 19), none⟩]
def f178d2 : ACode := .regD f178r2 [(0, []), (1, []), (2, []), (3, []), (4, []), (5, []), (6, []), (7, []), (8, []), (9, [])]
@[simp] theorem f178d2_u {X κ e h K p} : Run X κ f178d2 e h K p ↔ RIs X κ f178r2 e h K ⟨⟩ := Run_regD rfl
@[simp] def f178r3 : List AIns := [⟨some 21, .mov (.t 0), none⟩,
  ⟨some 22, .nilCheck (.t 21), none⟩,
  ⟨some 23, .load1 (.t 22), none⟩,
  ⟨some 24, .mov (.t 0), none⟩,
  ⟨some 25, .nilCheck (.t 24), none⟩,
  ⟨some 26, .load1 (.t 25), none⟩,
  ⟨some 27, .bin .shl (.t 26) (.c (.int .u64 17)), none⟩,
  ⟨some 28, .bin .xor (.t 23) (.t 27), none⟩,
  ⟨some 29, .nilCheck (.t 21), none⟩,
  ⟨none, .store 1 (.t 29) (.t 28), none⟩]
def f178d3 : ACode := .regD f178r3 [(0, []), (1, []), (2, []), (3, []), (4, []), (5, []), (6, []), (7, []), (8, []), (9, [])]
@[simp] theorem f178d3_u {X κ e h K p} : Run X κ f178d3 e h K p ↔ RIs X κ f178r3 e h K ⟨⟩ := Run_regD rfl
@[simp] def f181r3 : List AIns := [⟨some 19, .mov (.t 11), none⟩,
  ⟨some 20, .bin .add (.t 19) (.c (.int .i64 1)), none⟩,
  ⟨some 21, .mov (.t 2), none⟩,
  ⟨some 22, .bin .lss (.t 20) (.t 21), none⟩,
  ⟨some 23, .mov (.t 22), none⟩,
  ⟨some 24, .mov (.t 4), some (23, true)⟩,
  ⟨some 25, .mov (.t 0), some (23, true)⟩,
  ⟨some 26, .mov (.t 3), some (23, true)⟩,
  ⟨some 27, .mov (.t 11), some (23, true)⟩,
  ⟨some 28, .bin .add (.t 26) (.t 27), some (23, true)⟩,
  ⟨some 29, .idxA 2 (.t 25) (.t 28), some (23, true)⟩,
  ⟨some 30, .loadN 2 (.t 29), some (23, true)⟩,
  ⟨some 31, .mov (.t 0), some (23, true)⟩,
  ⟨some 32, .mov (.t 3), some (23, true)⟩,
  ⟨some 33, .mov (.t 11), some (23, true)⟩,
  ⟨some 34, .bin .add (.t 32) (.t 33), some (23, true)⟩,
  ⟨some 35, .bin .add (.t 34) (.c (.int .i64 1)), some (23, true)⟩,
  ⟨some 36, .idxA 2 (.t 31) (.t 35), some (23, true)⟩,
  ⟨some 37, .loadN 2 (.t 36), some (23, true)⟩,
  ⟨some 38, .call (.t 24) [(.t 30), (.t 37)], some (23, true)⟩,
  ⟨some 39, .bin .lss (.t 38) (.c (.int .i64 0)), some (23, true)⟩,
  ⟨some 40, .pick (.t 23) (.t 39) (.c (.bool false)), none⟩]
def f181d3 : ACode := .regD f181r3 [(0, []), (1, []), (2, []), (3, []), (4, []), (5, []), (6, []), (7, []), (8, []), (9, []), (10, []), (11, []), (12, []), (13, []), (14, []), (15, []), (16, []), (17, []), (18, []), (19, []), (20, []), (21, [])]
@[simp] theorem f181d3_u {X κ e h K p} : Run X κ f181d3 e h K p ↔ RIs X κ f181r3 e h K ⟨⟩ := Run_regD rfl
@[simp] def f181r5 : List AIns := [⟨some 43, .mov (.t 4), none⟩,
  ⟨some 44, .mov (.t 0), none⟩,
  ⟨some 45, .mov (.t 3), none⟩,
  ⟨some 46, .mov (.t 10), none⟩,
  ⟨some 47, .bin .add (.t 45) (.t 46), none⟩,
  ⟨some 48, .idxA 2 (.t 44) (.t 47), none⟩,
  ⟨some 49, .loadN 2 (.t 48), none⟩,
  ⟨some 50, .mov (.t 0), none⟩,
  ⟨some 51, .mov (.t 3), none⟩,
  ⟨some 52, .mov (.t 11), none⟩,
  ⟨some 53, .bin .add (.t 51) (.t 52), none⟩,
  ⟨some 54, .idxA 2 (.t 50) (.t 53), none⟩,
  ⟨some 55, .loadN 2 (.t 54), none⟩,
  ⟨some 56, .call (.t 43) [(.t 49), (.t 55)], none⟩,
  ⟨some 57, .bin .lss (.t 56) (.c (.int .i64 0)), none⟩,
  ⟨some 58, .un .not (.t 57), none⟩]
def f181d5 : ACode := .regD f181r5 [(0, []), (1, []), (2, []), (3, []), (4, []), (5, []), (6, []), (7, []), (8, []), (9, []), (10, []), (11, []), (12, []), (13, []), (14, []), (15, [])]
@[simp] theorem f181d5_u {X κ e h K p} : Run X κ f181d5 e h K p ↔ RIs X κ f181r5 e h K ⟨⟩ := Run_regD rfl
@[simp] def f181r6 : List AIns := [⟨some 59, .mov (.t 0), none⟩,
  ⟨some 60, .mov (.t 3), none⟩,
  ⟨some 61, .mov (.t 10), none⟩,
  ⟨some 62, .bin .add (.t 60) (.t 61), none⟩,
  ⟨some 63, .mov (.t 0), none⟩,
  ⟨some 64, .mov (.t 3), none⟩,
  ⟨some 65, .mov (.t 11), none⟩,
  ⟨some 66, .bin .add (.t 64) (.t 65), none⟩,
  ⟨some 67, .mov (.t 0), none⟩,
  ⟨some 68, .mov (.t 3), none⟩,
  ⟨some 69, .mov (.t 11), none⟩,
  ⟨some 70, .bin .add (.t 68) (.t 69), none⟩,
  ⟨some 71, .idxA 2 (.t 67) (.t 70), none⟩,
  ⟨some 72, .loadN 2 (.t 71), none⟩,
  ⟨some 73, .mov (.t 0), none⟩,
  ⟨some 74, .mov (.t 3), none⟩,
  ⟨some 75, .mov (.t 10), none⟩,
  ⟨some 76, .bin .add (.t 74) (.t 75), none⟩,
  ⟨some 77, .idxA 2 (.t 73) (.t 76), none⟩,
  ⟨some 78, .loadN 2 (.t 77), none⟩,
  ⟨some 79, .idxA 2 (.t 59) (.t 62), none⟩,
  ⟨none, .store 2 (.t 79) (.t 72), none⟩,
  ⟨some 80, .idxA 2 (.t 63) (.t 66), none⟩,
  ⟨none, .store 2 (.t 80) (.t 78), none⟩]
def f181d6 : ACode := .regD f181r6 [(0, []), (1, []), (2, []), (3, []), (4, []), (5, []), (6, []), (7, []), (8, []), (9, []), (10, []), (11, []), (12, []), (13, []), (14, []), (15, []), (16, []), (17, []), (18, []), (19, []), (20, []), (21, []), (22, []), (23, [])]
@[simp] theorem f181d6_u {X κ e h K p} : Run X κ f181d6 e h K p ↔ RIs X κ f181r6 e h K ⟨⟩ := Run_regD rfl
@[simp] def f190r1 : List AIns := [⟨some 12, .mov (.t 4), none⟩,
  ⟨some 13, .mov (.t 0), none⟩,
  ⟨some 14, .mov (.t 2), none⟩,
  ⟨some 15, .idxA 4 (.t 13) (.t 14), none⟩,
  ⟨some 16, .loadN 4 (.t 15), none⟩,
  ⟨some 17, .mov (.t 0), none⟩,
  ⟨some 18, .mov (.t 1), none⟩,
  ⟨some 19, .idxA 4 (.t 17) (.t 18), none⟩,
  ⟨some 20, .loadN 4 (.t 19), none⟩,
  ⟨some 21, .call (.t 12) [(.t 16), (.t 20)], none⟩,
  ⟨some 22, .bin .lss (.t 21) (.c (.int .i64 0)), none⟩]
def f190d1 : ACode := .regD f190r1 [(0, []), (1, []), (2, []), (3, []), (4, []), (5, []), (6, []), (7, []), (8, []), (9, []), (10, [])]
@[simp] theorem f190d1_u {X κ e h K p} : Run X κ f190d1 e h K p ↔ RIs X κ f190r1 e h K ⟨⟩ := Run_regD rfl
@[simp] def f191r1 : List AIns := [⟨some 12, .mov (.t 4), none⟩,
  ⟨some 13, .mov (.t 0), none⟩,
  ⟨some 14, .mov (.t 2), none⟩,
  ⟨some 15, .idxA 2 (.t 13) (.t 14), none⟩,
  ⟨some 16, .loadN 2 (.t 15), none⟩,
  ⟨some 17, .mov (.t 0), none⟩,
  ⟨some 18, .mov (.t 1), none⟩,
  ⟨some 19, .idxA 2 (.t 17) (.t 18), none⟩,
  ⟨some 20, .loadN 2 (.t 19), none⟩,
  ⟨some 21, .call (.t 12) [(.t 16), (.t 20)], none⟩,
  ⟨some 22, .bin .lss (.t 21) (.c (.int .i64 0)), none⟩]
def f191d1 : ACode := .regD f191r1 [(0, []), (1, []), (2, []), (3, []), (4, []), (5, []), (6, []), (7, []), (8, []), (9, []), (10, [])]
@[simp] theorem f191d1_u {X κ e h K p} : Run X κ f191d1 e h K p ↔ RIs X κ f191r1 e h K ⟨⟩ := Run_regD rfl
def flS (g : FuncId) : Flag := if [47, 50, 77, 78, 84, 85, 87, 88, 93, 96, 101, 105, 106, 109, 110, 118, 125, 127, 130, 132, 133, 134, 137, 138, 147, 148, 149, 150, 151, 152, 153, 154, 160, 161, 162, 163, 164, 165, 166, 167, 176, 178, 179, 180, 181, 182, 183, 190, 191].contains g then .plain else if [].contains g then .state else .pure
end Go.Proofs.Ytlgbeekhaoiggaa
end
