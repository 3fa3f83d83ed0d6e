import Derived.Test.YtmjaanhphkbkeaaAmG
import Derived.Test.YtmjaanhphkbkeaaAmA
import Derived.Test.YtmjaanhphkbkeaaRows
set_option linter.all false
section
namespace Go.Proofs.Ytmjaanhphkbkeaa
open Go.AM
/-- bocage/bocagelaw19.CodecSets -/
def f3r0 : List AIns := [⟨some 4, .mov (.c (.bool false)), none⟩]
def f3r1 : List AIns := [⟨some 13, .mov (.t 1), none⟩,
  ⟨some 14, .len (.t 13), none⟩,
  ⟨some 15, .bin .gtr (.t 14) (.c (.int .i64 50)), none⟩]
def f3r2 : List AIns := [⟨some 16, .call (.c (.func (.func 4) #[] #[])) [], none⟩,
  ⟨some 4, .mov (.t 16), none⟩]
def f3r3 : List AIns := [⟨some 17, .mov (.t 0), none⟩,
  ⟨some 18, .build [(.int .i64 0), (.bool false), (.int .i64 0)] [(0, 1, (.t 17))], none⟩,
  ⟨some 19, .build [(.bool false), (.int .i64 0), (.bool false), (.int .i64 0), (.slice none 0 0)] [(1, 3, (.t 18))], none⟩,
  ⟨some 5, .alloc 28 [(.bool false), (.int .i64 0), (.bool false), (.int .i64 0), (.slice none 0 0)], none⟩,
  ⟨none, .store 5 (.t 5) (.t 19), none⟩]
def f3r4 : List AIns := [⟨some 20, .mov (.t 1), none⟩,
  ⟨some 21, .len (.t 20), none⟩,
  ⟨some 22, .mov (.c (.int .i64 0)), none⟩]
def f3r5 : List AIns := [⟨some 23, .bin .lss (.t 22) (.t 21), none⟩]
def f3r6 : List AIns := [⟨some 24, .idxA 4 (.t 20) (.t 22), none⟩,
  ⟨some 25, .loadN 4 (.t 24), none⟩,
  ⟨some 7, .alloc 32 [(.int .i64 0), (.int .i64 0), (.int .i64 0), (.int .i64 0)], none⟩,
  ⟨none, .store 4 (.t 7) (.t 25), none⟩]
def f3r7 : List AIns := [⟨some 26, .addOff 4 (.t 5), none⟩,
  ⟨some 27, .load1 (.t 26), none⟩,
  ⟨some 28, .loadN 4 (.t 7), none⟩,
  ⟨some 29, .build [(.int .i64 0), (.int .i64 0), (.int .i64 0), (.int .i64 0), (.int .i64 0)] [(0, 4, (.t 28))], none⟩,
  ⟨some 30, .buildSlice 34 1 [(.int .i64 0), (.int .i64 0), (.int .i64 0), (.int .i64 0), (.int .i64 0)] [(0, 5, (.t 29))], none⟩,
  ⟨some 31, .append 34 5 40 (.t 27) (.t 30), none⟩,
  ⟨some 32, .addOff 4 (.t 5), none⟩,
  ⟨none, .store 1 (.t 32) (.t 31), none⟩]
def f3r8 : List AIns := [⟨some 33, .bin .add (.t 22) (.c (.int .i64 1)), none⟩,
  ⟨some 22, .mov (.t 33), none⟩]
def f3l9 : ACode := (.seq (.reg f3r5) (.seq (.cond (.t 23) .skip (.exit 0)) (.seq (.block 1 (.seq (.reg f3r6) (.reg f3r7))) (.reg f3r8))))
def f3r10 : List AIns := [⟨some 34, .mov (.t 0), none⟩,
  ⟨some 35, .mov (.t 1), none⟩,
  ⟨some 36, .call (.c (.func (.func 5) #[] #[])) [(.t 34), (.t 35)], none⟩,
  ⟨some 8, .mov (.t 36), none⟩]
def f3r11 : List AIns := [⟨some 37, .mov (.t 8), none⟩,
  ⟨some 38, .bytesStr (.t 37), none⟩,
  ⟨some 39, .loadN 5 (.t 5), none⟩,
  ⟨some 40, .call (.c (.func (.func 6) #[] #[])) [(.t 39)], none⟩,
  ⟨some 41, .bin .neq (.t 38) (.t 40), none⟩]
def f3r12 : List AIns := [⟨some 4, .mov (.c (.bool false)), none⟩]
def f3r13 : List AIns := [⟨some 42, .mov (.t 8), none⟩,
  ⟨some 43, .len (.t 42), none⟩,
  ⟨some 44, .bin .eql (.t 43) (.c (.int .i64 0)), none⟩]
def f3r14 : List AIns := [⟨some 45, .call (.c (.func (.func 4) #[] #[])) [], none⟩,
  ⟨some 46, .mov (.t 45), none⟩,
  ⟨some 47, .loadN 5 (.t 5), some (46, true)⟩,
  ⟨some 48, .call (.c (.func (.func 7) #[] #[])) [(.t 47)], some (46, true)⟩,
  ⟨some 49, .un .not (.t 48), some (46, true)⟩,
  ⟨some 50, .pick (.t 46) (.t 49) (.c (.bool false)), none⟩,
  ⟨some 4, .mov (.t 50), none⟩]
def f3r15 : List AIns := [⟨some 52, .mov (.t 8), none⟩,
  ⟨some 53, .call (.c (.func (.func 8) #[] #[])) [(.t 52)], none⟩,
  ⟨some 51, .mov (.t 53), none⟩,
  ⟨some 54, .extract (.t 51) 0, none⟩,
  ⟨some 55, .extract (.t 51) 1, none⟩,
  ⟨some 56, .extract (.t 51) 2, none⟩,
  ⟨some 57, .extract (.t 51) 3, none⟩,
  ⟨some 9, .mov (.t 54), none⟩,
  ⟨some 10, .mov (.t 55), none⟩,
  ⟨some 11, .mov (.t 56), none⟩,
  ⟨some 12, .mov (.t 57), none⟩]
def f3r16 : List AIns := [⟨some 58, .call (.c (.func (.func 4) #[] #[])) [], none⟩,
  ⟨some 59, .mov (.t 58), none⟩,
  ⟨some 60, .mov (.t 9), some (59, true)⟩,
  ⟨some 61, .mov (.t 0), some (59, true)⟩,
  ⟨some 62, .bin .eql (.t 60) (.t 61), some (59, true)⟩,
  ⟨some 63, .pick (.t 59) (.t 62) (.c (.bool false)), none⟩,
  ⟨some 64, .mov (.t 63), none⟩,
  ⟨some 65, .mov (.t 10), some (64, true)⟩,
  ⟨some 66, .mov (.t 1), some (64, true)⟩,
  ⟨some 67, .call (.c (.func (.func 9) #[] #[])) [(.t 65), (.t 66)], some (64, true)⟩,
  ⟨some 68, .pick (.t 64) (.t 67) (.c (.bool false)), none⟩,
  ⟨some 69, .mov (.t 68), none⟩,
  ⟨some 70, .mov (.t 11), some (69, true)⟩,
  ⟨some 71, .mov (.t 8), some (69, true)⟩,
  ⟨some 72, .len (.t 71), some (69, true)⟩,
  ⟨some 73, .bin .eql (.t 70) (.t 72), some (69, true)⟩,
  ⟨some 74, .pick (.t 69) (.t 73) (.c (.bool false)), none⟩,
  ⟨some 75, .mov (.t 74), none⟩,
  ⟨some 76, .mov (.t 12), some (75, true)⟩,
  ⟨some 77, .bin .eql (.t 76) (.c (.int .i64 0)), some (75, true)⟩,
  ⟨some 78, .pick (.t 75) (.t 77) (.c (.bool false)), none⟩,
  ⟨some 4, .mov (.t 78), none⟩]
def f3b : ACode := (.seq (.reg f3r0) (.seq (.seq (.reg f3r1) (.cond (.t 15) (.seq (.reg f3r2) .ret) .skip)) (.seq (.reg f3r3) (.seq (.seq (.reg f3r4) (.block 0 (.loop f3l9))) (.seq (.reg f3r10) (.seq (.seq (.regD f3r11 [(0, []), (1, []), (2, []), (3, [1]), (4, [])]) (.cond (.t 41) (.seq (.reg f3r12) .ret) .skip)) (.seq (.seq (.reg f3r13) (.cond (.t 44) (.seq (.reg f3r14) .ret) .skip)) (.seq (.reg f3r15) (.seq (.reg f3r16) .ret)))))))))
def f3 : AFn := ⟨79, f3b, [.tmp 4], .pure⟩
theorem f3_is : cFn Try.prog .pure 3 = some f3 := by kernel_rfl

/-- bocage/codec.Set -/
def f5r0 : List AIns := [⟨some 4, .mov (.c (.slice none 0 0)), none⟩]
def f5r1 : List AIns := [⟨some 8, .mov (.t 0), none⟩,
  ⟨some 9, .bin .lss (.t 8) (.c (.int .i64 0)), none⟩,
  ⟨some 10, .mov (.t 9), none⟩,
  ⟨some 11, .mov (.t 0), some (10, false)⟩,
  ⟨some 12, .bin .gtr (.t 11) (.c (.int .i64 2)), some (10, false)⟩,
  ⟨some 13, .pick (.t 10) (.c (.bool true)) (.t 12), none⟩,
  ⟨some 14, .mov (.t 13), none⟩,
  ⟨some 15, .mov (.t 0), some (14, false)⟩,
  ⟨some 16, .mov (.t 1), some (14, false)⟩,
  ⟨some 17, .call (.c (.func (.func 13) #[] #[])) [(.t 15), (.t 16)], some (14, false)⟩,
  ⟨some 18, .un .not (.t 17), some (14, false)⟩,
  ⟨some 19, .pick (.t 14) (.c (.bool true)) (.t 18), none⟩]
def f5r2 : List AIns := [⟨some 4, .mov (.c (.slice none 0 0)), none⟩]
def f5r3 : List AIns := [⟨some 20, .mov (.t 0), none⟩,
  ⟨some 21, .convInt .u8 (.t 20), none⟩,
  ⟨some 22, .buildSlice 5 2 [(.int .u8 0), (.int .u8 0)] [(0, 1, (.c (.int .u8 1))), (1, 1, (.t 21))], none⟩,
  ⟨some 23, .mov (.t 1), none⟩,
  ⟨some 24, .len (.t 23), none⟩,
  ⟨some 25, .call (.c (.func (.func 12) #[] #[])) [(.t 22), (.t 24)], none⟩,
  ⟨some 5, .mov (.t 25), none⟩]
def f5r4 : List AIns := [⟨some 26, .mov (.t 1), none⟩,
  ⟨some 27, .len (.t 26), none⟩,
  ⟨some 28, .mov (.c (.int .i64 0)), none⟩]
def f5r5 : List AIns := [⟨some 29, .bin .lss (.t 28) (.t 27), none⟩]
def f5r6 : List AIns := [⟨some 30, .idxA 4 (.t 26) (.t 28), none⟩,
  ⟨some 31, .loadN 4 (.t 30), none⟩,
  ⟨some 7, .alloc 32 [(.int .i64 0), (.int .i64 0), (.int .i64 0), (.int .i64 0)], none⟩,
  ⟨none, .store 4 (.t 7) (.t 31), none⟩]
def f5r7 : List AIns := [⟨some 32, .mov (.t 5), none⟩,
  ⟨some 33, .addOff 0 (.t 7), none⟩,
  ⟨some 34, .loadN 2 (.t 33), none⟩,
  ⟨some 35, .call (.c (.func (.func 14) #[] #[])) [(.t 32), (.t 34)], none⟩,
  ⟨some 36, .addOff 2 (.t 7), none⟩,
  ⟨some 37, .loadN 2 (.t 36), none⟩,
  ⟨some 38, .call (.c (.func (.func 14) #[] #[])) [(.t 35), (.t 37)], none⟩,
  ⟨some 5, .mov (.t 38), none⟩]
def f5r8 : List AIns := [⟨some 39, .bin .add (.t 28) (.c (.int .i64 1)), none⟩,
  ⟨some 28, .mov (.t 39), none⟩]
def f5l9 : ACode := (.seq (.reg f5r5) (.seq (.cond (.t 29) .skip (.exit 0)) (.seq (.block 1 (.seq (.reg f5r6) (.regD f5r7 [(0, []), (1, []), (2, []), (4, []), (5, []), (3, [5]), (6, []), (7, [])]))) (.reg f5r8))))
def f5r10 : List AIns := [⟨some 40, .mov (.t 5), none⟩,
  ⟨some 41, .call (.c (.func (.func 15) #[] #[])) [(.t 40)], none⟩,
  ⟨some 4, .mov (.t 41), none⟩]
def f5b : ACode := (.seq (.reg f5r0) (.seq (.seq (.reg f5r1) (.cond (.t 19) (.seq (.reg f5r2) .ret) .skip)) (.seq (.reg f5r3) (.seq (.seq (.reg f5r4) (.block 0 (.loop f5l9))) (.seq (.reg f5r10) .ret)))))
def f5 : AFn := ⟨42, f5b, [.tmp 4], .pure⟩
theorem f5_is : cFn Try.prog .pure 5 = some f5 := by kernel_rfl

/-- bocage/bocageref19.Write -/
def f6r0 : List AIns := [⟨some 1, .box 28 (.t 0), none⟩,
  ⟨some 2, .mov (.c (.string ⟨#[]⟩)), none⟩]
def f6r1 : List AIns := [⟨some 5, .loadN 5 (.t 1), none⟩,
  ⟨some 6, .call (.c (.func (.func 7) #[] #[])) [(.t 5)], none⟩,
  ⟨some 7, .un .not (.t 6), none⟩]
def f6r2 : List AIns := [⟨some 2, .mov (.c (.string ⟨#[]⟩)), none⟩]
def f6r3 : List AIns := [⟨some 8, .addOff 1 (.t 1), none⟩,
  ⟨some 9, .addOff 0 (.t 8), none⟩,
  ⟨some 10, .load1 (.t 9), none⟩,
  ⟨some 11, .convInt .u8 (.t 10), none⟩,
  ⟨some 12, .buildSlice 5 1 [(.int .u8 0)] [(0, 1, (.t 11))], none⟩,
  ⟨some 13, .bytesStr (.t 12), none⟩,
  ⟨some 14, .bin .add (.c (.string ⟨#[1]⟩)) (.t 13), none⟩,
  ⟨some 3, .mov (.t 14), none⟩]
def f6r4 : List AIns := [⟨some 15, .addOff 0 (.t 1), none⟩,
  ⟨some 16, .load1 (.t 15), none⟩]
def f6r5 : List AIns := [⟨some 17, .addOff 1 (.t 1), none⟩,
  ⟨some 18, .addOff 0 (.t 17), none⟩,
  ⟨some 19, .load1 (.t 18), none⟩,
  ⟨some 20, .convInt .u8 (.t 19), none⟩,
  ⟨some 21, .buildSlice 5 1 [(.int .u8 0)] [(0, 1, (.t 20))], none⟩,
  ⟨some 22, .bytesStr (.t 21), none⟩,
  ⟨some 23, .bin .add (.c (.string ⟨#[2]⟩)) (.t 22), none⟩,
  ⟨some 3, .mov (.t 23), none⟩]
def f6r6 : List AIns := [⟨some 24, .addOff 1 (.t 1), none⟩,
  ⟨some 25, .addOff 1 (.t 24), none⟩,
  ⟨some 26, .load1 (.t 25), none⟩]
def f6r7 : List AIns := [⟨some 27, .mov (.t 3), none⟩,
  ⟨some 28, .bin .add (.t 27) (.c (.string ⟨#[1]⟩)), none⟩,
  ⟨some 29, .addOff 1 (.t 1), none⟩,
  ⟨some 30, .addOff 2 (.t 29), none⟩,
  ⟨some 31, .load1 (.t 30), none⟩,
  ⟨some 32, .call (.c (.func (.func 16) #[] #[])) [(.t 31)], none⟩,
  ⟨some 33, .bin .add (.t 28) (.t 32), none⟩,
  ⟨some 3, .mov (.t 33), none⟩]
def f6r8 : List AIns := [⟨some 34, .mov (.t 3), none⟩,
  ⟨some 35, .bin .add (.t 34) (.c (.string ⟨#[0]⟩)), none⟩,
  ⟨some 3, .mov (.t 35), none⟩]
def f6r9 : List AIns := [⟨some 36, .mov (.t 3), none⟩,
  ⟨some 37, .addOff 4 (.t 1), none⟩,
  ⟨some 38, .load1 (.t 37), none⟩,
  ⟨some 39, .len (.t 38), none⟩,
  ⟨some 40, .call (.c (.func (.func 16) #[] #[])) [(.t 39)], none⟩,
  ⟨some 41, .bin .add (.t 36) (.t 40), none⟩,
  ⟨some 3, .mov (.t 41), none⟩]
def f6r10 : List AIns := [⟨some 4, .mov (.c (.int .i64 0)), none⟩]
def f6r11 : List AIns := [⟨some 42, .mov (.t 4), none⟩,
  ⟨some 43, .addOff 4 (.t 1), none⟩,
  ⟨some 44, .load1 (.t 43), none⟩,
  ⟨some 45, .len (.t 44), none⟩,
  ⟨some 46, .bin .lss (.t 42) (.t 45), none⟩]
def f6r12 : List AIns := [⟨some 49, .mov (.t 3), none⟩,
  ⟨some 50, .addOff 4 (.t 1), none⟩,
  ⟨some 51, .load1 (.t 50), none⟩,
  ⟨some 52, .mov (.t 4), none⟩,
  ⟨some 53, .idxA 5 (.t 51) (.t 52), none⟩,
  ⟨some 54, .addOff 0 (.t 53), none⟩,
  ⟨some 55, .addOff 0 (.t 54), none⟩,
  ⟨some 56, .loadN 2 (.t 55), none⟩,
  ⟨some 57, .call (.c (.func (.func 17) #[] #[])) [(.t 56)], none⟩,
  ⟨some 58, .bin .add (.t 49) (.t 57), none⟩,
  ⟨some 59, .addOff 4 (.t 1), none⟩,
  ⟨some 60, .load1 (.t 59), none⟩,
  ⟨some 61, .mov (.t 4), none⟩,
  ⟨some 62, .idxA 5 (.t 60) (.t 61), none⟩,
  ⟨some 63, .addOff 0 (.t 62), none⟩,
  ⟨some 64, .addOff 2 (.t 63), none⟩,
  ⟨some 65, .loadN 2 (.t 64), none⟩,
  ⟨some 66, .call (.c (.func (.func 17) #[] #[])) [(.t 65)], none⟩,
  ⟨some 67, .bin .add (.t 58) (.t 66), none⟩,
  ⟨some 3, .mov (.t 67), none⟩]
def f6r13 : List AIns := [⟨some 68, .addOff 0 (.t 1), none⟩,
  ⟨some 69, .load1 (.t 68), none⟩]
def f6r14 : List AIns := [⟨some 70, .mov (.t 3), none⟩,
  ⟨some 71, .addOff 4 (.t 1), none⟩,
  ⟨some 72, .load1 (.t 71), none⟩,
  ⟨some 73, .mov (.t 4), none⟩,
  ⟨some 74, .idxA 5 (.t 72) (.t 73), none⟩,
  ⟨some 75, .addOff 4 (.t 74), none⟩,
  ⟨some 76, .load1 (.t 75), none⟩,
  ⟨some 77, .call (.c (.func (.func 16) #[] #[])) [(.t 76)], none⟩,
  ⟨some 78, .bin .add (.t 70) (.t 77), none⟩,
  ⟨some 3, .mov (.t 78), none⟩]
def f6r15 : List AIns := [⟨some 47, .mov (.t 4), none⟩,
  ⟨some 48, .bin .add (.t 47) (.c (.int .i64 1)), none⟩,
  ⟨some 4, .mov (.t 48), none⟩]
def f6l16 : ACode := (.seq (.seq (.reg f6r11) (.cond (.t 46) .skip (.exit 0))) (.seq (.block 1 (.seq (.regD f6r12 [(0, []), (1, []), (2, []), (3, []), (4, []), (5, []), (6, []), (7, []), (10, []), (11, []), (12, []), (13, []), (14, []), (15, []), (16, []), (8, [16, 11]), (9, []), (17, []), (18, []), (19, [])]) (.seq (.reg f6r13) (.cond (.t 69) (.reg f6r14) .skip)))) (.reg f6r15)))
def f6r17 : List AIns := [⟨some 79, .mov (.t 3), none⟩,
  ⟨some 80, .lenStr (.t 79), none⟩,
  ⟨some 81, .call (.c (.func (.func 16) #[] #[])) [(.t 80)], none⟩,
  ⟨some 82, .mov (.t 3), none⟩,
  ⟨some 83, .bin .add (.t 81) (.t 82), none⟩,
  ⟨some 2, .mov (.t 83), none⟩]
def f6b : ACode := (.seq (.reg f6r0) (.seq (.seq (.reg f6r1) (.cond (.t 7) (.seq (.reg f6r2) .ret) .skip)) (.seq (.reg f6r3) (.seq (.seq (.reg f6r4) (.cond (.t 16) (.seq (.reg f6r5) (.seq (.reg f6r6) (.cond (.t 26) (.reg f6r7) (.reg f6r8)))) .skip)) (.seq (.reg f6r9) (.seq (.seq (.reg f6r10) (.block 0 (.loop f6l16))) (.seq (.reg f6r17) .ret)))))))
def f6 : AFn := ⟨84, f6b, [.tmp 2], .pure⟩
theorem f6_is : cFn Try.prog .pure 6 = some f6 := by kernel_rfl

/-- bocage/bocageref19.Fine -/
def f7r0 : List AIns := [⟨some 1, .box 28 (.t 0), none⟩,
  ⟨some 2, .mov (.c (.bool false)), none⟩]
def f7r1 : List AIns := [⟨some 3, .addOff 0 (.t 1), none⟩,
  ⟨some 4, .load1 (.t 3), none⟩]
def f7r2 : List AIns := [⟨some 5, .addOff 1 (.t 1), none⟩,
  ⟨some 6, .loadN 3 (.t 5), none⟩,
  ⟨some 7, .call (.c (.func (.func 18) #[] #[])) [(.t 6), (.c (.int .i64 0)), (.c (.int .i64 0))], none⟩,
  ⟨some 8, .mov (.t 7), none⟩,
  ⟨some 9, .addOff 1 (.t 1), some (8, true)⟩,
  ⟨some 10, .loadN 3 (.t 9), some (8, true)⟩,
  ⟨some 11, .addOff 4 (.t 1), some (8, true)⟩,
  ⟨some 12, .load1 (.t 11), some (8, true)⟩,
  ⟨some 13, .call (.c (.func (.func 19) #[] #[])) [(.t 10), (.t 12)], some (8, true)⟩,
  ⟨some 14, .pick (.t 8) (.t 13) (.c (.bool false)), none⟩,
  ⟨some 2, .mov (.t 14), none⟩]
def f7r3 : List AIns := [⟨some 15, .addOff 1 (.t 1), none⟩,
  ⟨some 16, .addOff 0 (.t 15), none⟩,
  ⟨some 17, .load1 (.t 16), none⟩,
  ⟨some 18, .call (.c (.func (.func 20) #[] #[])) [(.t 17), (.c (.int .i64 0)), (.c (.int .i64 0))], none⟩,
  ⟨some 19, .mov (.t 18), none⟩,
  ⟨some 20, .addOff 1 (.t 1), some (19, true)⟩,
  ⟨some 21, .addOff 0 (.t 20), some (19, true)⟩,
  ⟨some 22, .load1 (.t 21), some (19, true)⟩,
  ⟨some 23, .addOff 4 (.t 1), some (19, true)⟩,
  ⟨some 24, .load1 (.t 23), some (19, true)⟩,
  ⟨some 25, .call (.c (.func (.func 22) #[] #[])) [(.t 24)], some (19, true)⟩,
  ⟨some 26, .call (.c (.func (.func 21) #[] #[])) [(.t 22), (.t 25)], some (19, true)⟩,
  ⟨some 27, .pick (.t 19) (.t 26) (.c (.bool false)), none⟩,
  ⟨some 2, .mov (.t 27), none⟩]
def f7b : ACode := (.seq (.reg f7r0) (.seq (.seq (.reg f7r1) (.cond (.t 4) (.seq (.reg f7r2) .ret) .skip)) (.seq (.regD f7r3 [(0, []), (1, []), (2, []), (3, []), (4, []), (5, []), (6, []), (7, []), (8, []), (9, []), (10, [7]), (11, []), (12, []), (13, [])]) .ret)))
def f7 : AFn := ⟨28, f7b, [.tmp 2], .pure⟩
theorem f7_is : cFn Try.prog .pure 7 = some f7 := by kernel_rfl

/-- bocage/codec.ReadSet -/
def f8r0 : List AIns := [⟨some 2, .mov (.c (.int .i64 0)), none⟩,
  ⟨some 3, .mov (.c (.slice none 0 0)), none⟩,
  ⟨some 4, .mov (.c (.int .i64 0)), none⟩,
  ⟨some 5, .mov (.c (.int .i64 0)), none⟩]
def f8r1 : List AIns := [⟨some 12, .mov (.t 0), none⟩,
  ⟨some 13, .build [(.slice none 0 0), (.int .i64 0), (.bool false)] [(0, 1, (.t 12))], none⟩,
  ⟨some 14, .box 58 (.t 13), none⟩,
  ⟨some 6, .mov (.t 14), none⟩]
def f8r2 : List AIns := [⟨some 15, .mov (.t 6), none⟩,
  ⟨some 16, .call (.c (.func (.func 23) #[] #[])) [(.t 15)], none⟩]
def f8r3 : List AIns := [⟨some 17, .mov (.t 6), none⟩,
  ⟨some 18, .buildSlice 5 1 [(.int .u8 0)] [(0, 1, (.c (.int .u8 1)))], none⟩,
  ⟨some 19, .call (.c (.func (.func 24) #[] #[])) [(.t 17), (.t 18)], none⟩]
def f8r4 : List AIns := [⟨some 20, .mov (.t 6), none⟩,
  ⟨some 21, .buildSlice 5 3 [(.int .u8 0), (.int .u8 0), (.int .u8 0)] [(0, 1, (.c (.int .u8 0))), (1, 1, (.c (.int .u8 1))), (2, 1, (.c (.int .u8 2)))], none⟩,
  ⟨some 22, .call (.c (.func (.func 24) #[] #[])) [(.t 20), (.t 21)], none⟩,
  ⟨some 7, .alloc 3 [(.int .i64 0)], none⟩,
  ⟨none, .store 1 (.t 7) (.t 22), none⟩]
def f8r5 : List AIns := [⟨some 24, .mov (.t 6), none⟩,
  ⟨some 25, .mov (.t 6), none⟩,
  ⟨some 26, .mkFunc (.func 26) [(.t 25)] [], none⟩,
  ⟨some 27, .call (.c (.func (.func 25) #[] #[])) [(.t 24), (.t 26)], none⟩,
  ⟨some 23, .mov (.t 27), none⟩,
  ⟨some 28, .extract (.t 23) 0, none⟩,
  ⟨some 29, .extract (.t 23) 1, none⟩,
  ⟨some 8, .alloc 22 [(.slice none 0 0)], none⟩,
  ⟨none, .store 1 (.t 8) (.t 28), none⟩,
  ⟨some 9, .mov (.t 29), none⟩]
def f8r6 : List AIns := [⟨some 31, .mov (.t 6), none⟩,
  ⟨some 32, .mov (.t 9), none⟩,
  ⟨some 33, .mkFunc (.func 28) [] [(.t 7), (.t 8)], none⟩,
  ⟨some 34, .call (.c (.func (.func 27) #[] #[])) [(.t 31), (.t 32), (.t 33)], none⟩,
  ⟨some 30, .mov (.t 34), none⟩,
  ⟨some 35, .extract (.t 30) 0, none⟩,
  ⟨some 36, .extract (.t 30) 1, none⟩,
  ⟨some 10, .mov (.t 35), none⟩,
  ⟨some 11, .mov (.t 36), none⟩]
def f8r7 : List AIns := [⟨some 37, .mov (.t 11), none⟩,
  ⟨some 38, .bin .neq (.t 37) (.c (.int .i64 0)), none⟩]
def f8r8 : List AIns := [⟨some 39, .mov (.t 10), none⟩,
  ⟨some 40, .mov (.t 11), none⟩,
  ⟨some 2, .mov (.c (.int .i64 0)), none⟩,
  ⟨some 3, .mov (.c (.slice none 0 0)), none⟩,
  ⟨some 4, .mov (.t 39), none⟩,
  ⟨some 5, .mov (.t 40), none⟩]
def f8r9 : List AIns := [⟨some 41, .load1 (.t 7), none⟩,
  ⟨some 42, .load1 (.t 8), none⟩,
  ⟨some 43, .mov (.t 10), none⟩,
  ⟨some 2, .mov (.t 41), none⟩,
  ⟨some 3, .mov (.t 42), none⟩,
  ⟨some 4, .mov (.t 43), none⟩,
  ⟨some 5, .mov (.c (.int .i64 0)), none⟩]
def f8b : ACode := (.seq (.reg f8r0) (.seq (.reg f8r1) (.seq (.reg f8r2) (.seq (.reg f8r3) (.seq (.reg f8r4) (.seq (.reg f8r5) (.seq (.reg f8r6) (.seq (.seq (.reg f8r7) (.cond (.t 38) (.seq (.reg f8r8) .ret) .skip)) (.seq (.regD f8r9 [(0, []), (1, []), (2, []), (3, []), (4, []), (5, []), (6, [])]) .ret)))))))))
def f8 : AFn := ⟨44, f8b, [.tmp 2, .tmp 3, .tmp 4, .tmp 5], .pure⟩
theorem f8_is : cFn Try.prog .pure 8 = some f8 := by kernel_rfl

/-- bocage/bocageref03.Same -/
def f9r0 : List AIns := [⟨some 4, .mov (.c (.bool false)), none⟩]
def f9r1 : List AIns := [⟨some 6, .mov (.t 0), none⟩,
  ⟨some 7, .len (.t 6), none⟩,
  ⟨some 8, .mov (.t 1), none⟩,
  ⟨some 9, .len (.t 8), none⟩,
  ⟨some 10, .bin .neq (.t 7) (.t 9), none⟩]
def f9r2 : List AIns := [⟨some 4, .mov (.c (.bool false)), none⟩]
def f9r3 : List AIns := [⟨some 5, .mov (.c (.int .i64 0)), none⟩]
def f9r4 : List AIns := [⟨some 11, .mov (.t 5), none⟩,
  ⟨some 12, .mov (.t 0), none⟩,
  ⟨some 13, .len (.t 12), none⟩,
  ⟨some 14, .bin .lss (.t 11) (.t 13), none⟩]
def f9r5 : List AIns := [⟨some 17, .mov (.t 0), none⟩,
  ⟨some 18, .mov (.t 5), none⟩,
  ⟨some 19, .idxA 4 (.t 17) (.t 18), none⟩,
  ⟨some 20, .loadN 4 (.t 19), none⟩,
  ⟨some 21, .mov (.t 1), none⟩,
  ⟨some 22, .mov (.t 5), none⟩,
  ⟨some 23, .idxA 4 (.t 21) (.t 22), none⟩,
  ⟨some 24, .loadN 4 (.t 23), none⟩,
  ⟨some 25, .eqv true [.i, .i, .i, .i] true (.t 20) (.t 24), none⟩]
def f9r6 : List AIns := [⟨some 4, .mov (.c (.bool false)), none⟩]
def f9r7 : List AIns := [⟨some 15, .mov (.t 5), none⟩,
  ⟨some 16, .bin .add (.t 15) (.c (.int .i64 1)), none⟩,
  ⟨some 5, .mov (.t 16), none⟩]
def f9l8 : ACode := (.seq (.seq (.reg f9r4) (.cond (.t 14) .skip (.exit 0))) (.seq (.block 1 (.seq (.regD f9r5 [(0, []), (1, []), (2, []), (3, []), (4, []), (5, []), (6, []), (7, []), (8, [])]) (.cond (.t 25) (.seq (.reg f9r6) .ret) .skip))) (.reg f9r7)))
def f9r9 : List AIns := [⟨some 4, .mov (.c (.bool true)), none⟩]
def f9b : ACode := (.seq (.reg f9r0) (.seq (.seq (.reg f9r1) (.cond (.t 10) (.seq (.reg f9r2) .ret) .skip)) (.seq (.seq (.reg f9r3) (.block 0 (.loop f9l8))) (.seq (.reg f9r9) .ret))))
def f9 : AFn := ⟨26, f9b, [.tmp 4], .pure⟩
theorem f9_is : cFn Try.prog .pure 9 = some f9 := by kernel_rfl

/-- bocage/bocagelaw19.to -/
def f10r0 : List AIns := [⟨some 4, .alloc 32 [(.int .i64 0), (.int .i64 0), (.int .i64 0), (.int .i64 0)], none⟩]
def f10r1 : List AIns := [⟨some 5, .mov (.t 0), none⟩,
  ⟨some 6, .build [(.int .i64 0), (.int .i64 0)] [(1, 1, (.t 5))], none⟩,
  ⟨some 7, .mov (.t 1), none⟩,
  ⟨some 8, .build [(.int .i64 0), (.int .i64 0)] [(1, 1, (.t 7))], none⟩,
  ⟨some 9, .build [(.int .i64 0), (.int .i64 0), (.int .i64 0), (.int .i64 0)] [(0, 2, (.t 6)), (2, 2, (.t 8))], none⟩,
  ⟨none, .store 4 (.t 4) (.t 9), none⟩]
def f10b : ACode := (.seq (.reg f10r0) (.seq (.reg f10r1) .ret))
def f10 : AFn := ⟨10, f10b, [.cellN 4 4], .pure⟩
theorem f10_is : cFn Try.prog .pure 10 = some f10 := by kernel_rfl

/-- bocage/codec.ReadNum -/
def f11r0 : List AIns := [⟨some 2, .mov (.c (.int .i64 0)), none⟩,
  ⟨some 3, .mov (.c (.int .i64 0)), none⟩]
def f11r1 : List AIns := [⟨some 4, .mov (.c (.int .u64 0)), none⟩]
def f11r2 : List AIns := [⟨some 5, .mov (.c (.int .i64 0)), none⟩]
def f11r3 : List AIns := [⟨some 7, .mov (.t 5), none⟩,
  ⟨some 8, .mov (.t 0), none⟩,
  ⟨some 9, .len (.t 8), none⟩,
  ⟨some 10, .bin .lss (.t 7) (.t 9), none⟩,
  ⟨some 11, .mov (.t 10), none⟩,
  ⟨some 12, .mov (.t 5), some (11, true)⟩,
  ⟨some 13, .bin .lss (.t 12) (.c (.int .i64 10)), some (11, true)⟩,
  ⟨some 14, .pick (.t 11) (.t 13) (.c (.bool false)), none⟩]
def f11r4 : List AIns := [⟨some 17, .mov (.t 4), none⟩,
  ⟨some 18, .mov (.t 0), none⟩,
  ⟨some 19, .mov (.t 5), none⟩,
  ⟨some 20, .idxA 1 (.t 18) (.t 19), none⟩,
  ⟨some 21, .load1 (.t 20), none⟩,
  ⟨some 22, .bin .and (.t 21) (.c (.int .u8 127)), none⟩,
  ⟨some 23, .convInt .u64 (.t 22), none⟩,
  ⟨some 24, .mov (.t 5), none⟩,
  ⟨some 25, .bin .mul (.c (.int .i64 7)) (.t 24), none⟩,
  ⟨some 26, .bin .shl (.t 23) (.t 25), none⟩,
  ⟨some 27, .bin .or (.t 17) (.t 26), none⟩,
  ⟨some 4, .mov (.t 27), none⟩]
def f11r5 : List AIns := [⟨some 28, .mov (.t 0), none⟩,
  ⟨some 29, .mov (.t 5), none⟩,
  ⟨some 30, .idxA 1 (.t 28) (.t 29), none⟩,
  ⟨some 31, .load1 (.t 30), none⟩,
  ⟨some 32, .bin .geq (.t 31) (.c (.int .u8 128)), none⟩]
def f11r6 : List AIns := [⟨some 33, .mov (.t 4), none⟩,
  ⟨some 34, .bin .shr (.t 33) (.c (.int .u64 1)), none⟩,
  ⟨some 35, .convInt .i64 (.t 34), none⟩,
  ⟨some 36, .mov (.t 4), none⟩,
  ⟨some 37, .bin .and (.t 36) (.c (.int .u64 1)), none⟩,
  ⟨some 38, .convInt .i64 (.t 37), none⟩,
  ⟨some 39, .un .neg (.t 38), none⟩,
  ⟨some 40, .bin .xor (.t 35) (.t 39), none⟩,
  ⟨some 6, .mov (.t 40), none⟩]
def f11r7 : List AIns := [⟨some 41, .mov (.t 6), none⟩,
  ⟨some 42, .call (.c (.func (.func 12) #[] #[])) [(.c (.slice none 0 0)), (.t 41)], none⟩,
  ⟨some 43, .mov (.t 0), none⟩,
  ⟨some 44, .mov (.t 5), none⟩,
  ⟨some 45, .bin .add (.t 44) (.c (.int .i64 1)), none⟩,
  ⟨some 46, .slice 5 1 (.t 43) none (some (.t 45)) none, none⟩,
  ⟨some 47, .call (.c (.func (.func 29) #[] #[])) [(.t 42), (.t 46)], none⟩,
  ⟨some 48, .un .not (.t 47), none⟩]
def f11r8 : List AIns := [⟨some 2, .mov (.c (.int .i64 0)), none⟩,
  ⟨some 3, .mov (.c (.int .i64 0)), none⟩]
def f11r9 : List AIns := [⟨some 49, .mov (.t 6), none⟩,
  ⟨some 50, .mov (.t 5), none⟩,
  ⟨some 51, .bin .add (.t 50) (.c (.int .i64 1)), none⟩,
  ⟨some 2, .mov (.t 49), none⟩,
  ⟨some 3, .mov (.t 51), none⟩]
def f11r10 : List AIns := [⟨some 15, .mov (.t 5), none⟩,
  ⟨some 16, .bin .add (.t 15) (.c (.int .i64 1)), none⟩,
  ⟨some 5, .mov (.t 16), none⟩]
def f11l11 : ACode := (.seq (.seq (.reg f11r3) (.cond (.t 14) .skip (.exit 0))) (.seq (.block 1 (.seq (.reg f11r4) (.seq (.seq (.reg f11r5) (.cond (.t 32) (.exit 1) .skip)) (.seq (.reg f11r6) (.seq (.seq (.regD f11r7 [(0, []), (2, []), (3, []), (4, []), (5, []), (1, [5]), (6, []), (7, [])]) (.cond (.t 48) (.seq (.reg f11r8) .ret) .skip)) (.seq (.reg f11r9) .ret)))))) (.reg f11r10)))
def f11r12 : List AIns := [⟨some 2, .mov (.c (.int .i64 0)), none⟩,
  ⟨some 3, .mov (.c (.int .i64 0)), none⟩]
def f11b : ACode := (.seq (.reg f11r0) (.seq (.reg f11r1) (.seq (.seq (.reg f11r2) (.block 0 (.loop f11l11))) (.seq (.reg f11r12) .ret))))
def f11 : AFn := ⟨52, f11b, [.tmp 2, .tmp 3], .pure⟩
theorem f11_is : cFn Try.prog .pure 11 = some f11 := by kernel_rfl

/-- bocage/codec.Num -/
def f12r0 : List AIns := [⟨some 4, .mov (.c (.slice none 0 0)), none⟩]
def f12r1 : List AIns := [⟨some 6, .mov (.t 1), none⟩,
  ⟨some 7, .convInt .u64 (.t 6), none⟩,
  ⟨some 8, .bin .shl (.t 7) (.c (.int .u64 1)), none⟩,
  ⟨some 9, .mov (.t 1), none⟩,
  ⟨some 10, .bin .shr (.t 9) (.c (.int .u64 63)), none⟩,
  ⟨some 11, .convInt .u64 (.t 10), none⟩,
  ⟨some 12, .bin .xor (.t 8) (.t 11), none⟩,
  ⟨some 5, .mov (.t 12), none⟩]
def f12r2 : List AIns := [⟨some 13, .mov (.t 5), none⟩,
  ⟨some 14, .bin .geq (.t 13) (.c (.int .u64 128)), none⟩]
def f12r3 : List AIns := [⟨some 15, .mov (.t 0), none⟩,
  ⟨some 16, .mov (.t 5), none⟩,
  ⟨some 17, .convInt .u8 (.t 16), none⟩,
  ⟨some 18, .bin .or (.t 17) (.c (.int .u8 128)), none⟩,
  ⟨some 19, .buildSlice 5 1 [(.int .u8 0)] [(0, 1, (.t 18))], none⟩,
  ⟨some 20, .append 5 1 1 (.t 15) (.t 19), none⟩,
  ⟨some 0, .mov (.t 20), none⟩]
def f12r4 : List AIns := [⟨some 21, .mov (.t 5), none⟩,
  ⟨some 22, .bin .shr (.t 21) (.c (.int .u64 7)), none⟩,
  ⟨some 5, .mov (.t 22), none⟩]
def f12l5 : ACode := (.seq (.seq (.reg f12r2) (.cond (.t 14) .skip (.exit 0))) (.block 1 (.seq (.reg f12r3) (.reg f12r4))))
def f12r6 : List AIns := [⟨some 23, .mov (.t 0), none⟩,
  ⟨some 24, .mov (.t 5), none⟩,
  ⟨some 25, .convInt .u8 (.t 24), none⟩,
  ⟨some 26, .buildSlice 5 1 [(.int .u8 0)] [(0, 1, (.t 25))], none⟩,
  ⟨some 27, .append 5 1 1 (.t 23) (.t 26), none⟩,
  ⟨some 4, .mov (.t 27), none⟩]
def f12b : ACode := (.seq (.reg f12r0) (.seq (.reg f12r1) (.seq (.block 0 (.loop f12l5)) (.seq (.reg f12r6) .ret))))
def f12 : AFn := ⟨28, f12b, [.tmp 4], .plain⟩
theorem f12_is : cFn Try.prog .plain 12 = some f12 := by kernel_rfl

/-- bocage/iset.Fine -/
def f13r0 : List AIns := [⟨some 4, .mov (.c (.bool false)), none⟩]
def f13r1 : List AIns := [⟨some 6, .mov (.t 1), none⟩,
  ⟨some 7, .call (.c (.func (.func 30) #[] #[])) [(.t 6)], none⟩,
  ⟨some 8, .un .not (.t 7), none⟩]
def f13r2 : List AIns := [⟨some 4, .mov (.c (.bool false)), none⟩]
def f13r3 : List AIns := [⟨some 5, .mov (.c (.int .i64 1)), none⟩]
def f13r4 : List AIns := [⟨some 9, .mov (.t 5), none⟩,
  ⟨some 10, .mov (.t 1), none⟩,
  ⟨some 11, .len (.t 10), none⟩,
  ⟨some 12, .bin .lss (.t 9) (.t 11), none⟩,
  ⟨some 13, .mov (.t 12), none⟩,
  ⟨some 14, .mov (.t 0), some (13, true)⟩,
  ⟨some 15, .bin .eql (.t 14) (.c (.int .i64 0)), some (13, true)⟩,
  ⟨some 16, .pick (.t 13) (.t 15) (.c (.bool false)), none⟩]
def f13r5 : List AIns := [⟨some 19, .mov (.t 1), none⟩,
  ⟨some 20, .mov (.t 5), none⟩,
  ⟨some 21, .bin .sub (.t 20) (.c (.int .i64 1)), none⟩,
  ⟨some 22, .idxA 4 (.t 19) (.t 21), none⟩,
  ⟨some 23, .loadN 4 (.t 22), none⟩,
  ⟨some 24, .mov (.t 1), none⟩,
  ⟨some 25, .mov (.t 5), none⟩,
  ⟨some 26, .idxA 4 (.t 24) (.t 25), none⟩,
  ⟨some 27, .loadN 4 (.t 26), none⟩,
  ⟨some 28, .call (.c (.func (.func 31) #[] #[])) [(.t 23), (.t 27)], none⟩]
def f13r6 : List AIns := [⟨some 4, .mov (.c (.bool false)), none⟩]
def f13r7 : List AIns := [⟨some 17, .mov (.t 5), none⟩,
  ⟨some 18, .bin .add (.t 17) (.c (.int .i64 1)), none⟩,
  ⟨some 5, .mov (.t 18), none⟩]
def f13l8 : ACode := (.seq (.seq (.reg f13r4) (.cond (.t 16) .skip (.exit 0))) (.seq (.block 1 (.seq (.regD f13r5 [(0, []), (1, []), (2, []), (3, []), (4, []), (5, []), (6, []), (7, []), (8, []), (9, [])]) (.cond (.t 28) (.seq (.reg f13r6) .ret) .skip))) (.reg f13r7)))
def f13r9 : List AIns := [⟨some 4, .mov (.c (.bool true)), none⟩]
def f13b : ACode := (.seq (.reg f13r0) (.seq (.seq (.reg f13r1) (.cond (.t 8) (.seq (.reg f13r2) .ret) .skip)) (.seq (.seq (.reg f13r3) (.block 0 (.loop f13l8))) (.seq (.reg f13r9) .ret))))
def f13 : AFn := ⟨29, f13b, [.tmp 4], .pure⟩
theorem f13_is : cFn Try.prog .pure 13 = some f13 := by kernel_rfl

/-- bocage/codec.Cut -/
def f14r0 : List AIns := [⟨some 3, .box 30 (.t 1), none⟩,
  ⟨some 4, .mov (.c (.slice none 0 0)), none⟩]
def f14r1 : List AIns := [⟨some 5, .loadN 2 (.t 3), none⟩,
  ⟨some 6, .call (.c (.func (.func 32) #[] #[])) [(.t 5)], none⟩,
  ⟨none, .store 2 (.t 3) (.t 6), none⟩]
def f14r2 : List AIns := [⟨some 7, .addOff 0 (.t 3), none⟩,
  ⟨some 8, .load1 (.t 7), none⟩]
def f14r3 : List AIns := [⟨some 10, .bin .eql (.t 8) (.c (.int .i64 (-1))), none⟩,
  ⟨some 9, .mov (.t 10), none⟩]
def f14r4 : List AIns := [⟨some 11, .mov (.t 0), none⟩,
  ⟨some 12, .buildSlice 5 1 [(.int .u8 0)] [(0, 1, (.c (.int .u8 0)))], none⟩,
  ⟨some 13, .append 5 1 1 (.t 11) (.t 12), none⟩,
  ⟨some 4, .mov (.t 13), none⟩]
def f14r5 : List AIns := [⟨some 15, .bin .eql (.t 8) (.c (.int .i64 1)), none⟩,
  ⟨some 14, .mov (.t 15), none⟩]
def f14r6 : List AIns := [⟨some 16, .mov (.t 0), none⟩,
  ⟨some 17, .buildSlice 5 1 [(.int .u8 0)] [(0, 1, (.c (.int .u8 2)))], none⟩,
  ⟨some 18, .append 5 1 1 (.t 16) (.t 17), none⟩,
  ⟨some 4, .mov (.t 18), none⟩]
def f14r7 : List AIns := [⟨some 19, .mov (.t 0), none⟩,
  ⟨some 20, .buildSlice 5 1 [(.int .u8 0)] [(0, 1, (.c (.int .u8 1)))], none⟩,
  ⟨some 21, .append 5 1 1 (.t 19) (.t 20), none⟩,
  ⟨some 22, .addOff 1 (.t 3), none⟩,
  ⟨some 23, .load1 (.t 22), none⟩,
  ⟨some 24, .call (.c (.func (.func 12) #[] #[])) [(.t 21), (.t 23)], none⟩,
  ⟨some 4, .mov (.t 24), none⟩]
def f14b : ACode := (.seq (.reg f14r0) (.seq (.seq (.reg f14r1) (.seq (.reg f14r2) (.block 0 (.seq (.reg f14r3) (.cond (.t 9) (.seq (.reg f14r4) .ret) (.seq (.reg f14r5) (.cond (.t 14) (.seq (.reg f14r6) .ret) .skip))))))) (.seq (.regD f14r7 [(0, []), (1, []), (3, []), (4, []), (2, [4]), (5, []), (6, [])]) .ret)))
def f14 : AFn := ⟨25, f14b, [.tmp 4], .plain⟩
theorem f14_is : cFn Try.prog .plain 14 = some f14 := by kernel_rfl

/-- bocage/codec.sized -/
def f15r0 : List AIns := [⟨some 2, .mov (.c (.slice none 0 0)), none⟩]
def f15r1 : List AIns := [⟨some 3, .mov (.t 0), none⟩,
  ⟨some 4, .len (.t 3), none⟩,
  ⟨some 5, .call (.c (.func (.func 12) #[] #[])) [(.c (.slice none 0 0)), (.t 4)], none⟩,
  ⟨some 6, .mov (.t 0), none⟩,
  ⟨some 7, .append 5 1 1 (.t 5) (.t 6), none⟩,
  ⟨some 2, .mov (.t 7), none⟩]
def f15b : ACode := (.seq (.reg f15r0) (.seq (.reg f15r1) .ret))
def f15 : AFn := ⟨8, f15b, [.tmp 2], .plain⟩
theorem f15_is : cFn Try.prog .plain 15 = some f15 := by kernel_rfl

/-- bocage/bocageref19.Num -/
def f16r0 : List AIns := [⟨some 2, .mov (.c (.string ⟨#[]⟩)), none⟩]
def f16r1 : List AIns := [⟨some 3, .mov (.c (.int .u64 0)), none⟩]
def f16r2 : List AIns := [⟨some 5, .mov (.t 0), none⟩,
  ⟨some 6, .bin .geq (.t 5) (.c (.int .i64 0)), none⟩]
def f16r3 : List AIns := [⟨some 7, .mov (.t 0), none⟩,
  ⟨some 8, .convInt .u64 (.t 7), none⟩,
  ⟨some 9, .bin .mul (.c (.int .u64 2)) (.t 8), none⟩,
  ⟨some 3, .mov (.t 9), none⟩]
def f16r4 : List AIns := [⟨some 10, .mov (.t 0), none⟩,
  ⟨some 11, .bin .add (.t 10) (.c (.int .i64 1)), none⟩,
  ⟨some 12, .un .neg (.t 11), none⟩,
  ⟨some 13, .convInt .u64 (.t 12), none⟩,
  ⟨some 14, .bin .mul (.c (.int .u64 2)) (.t 13), none⟩,
  ⟨some 15, .bin .add (.t 14) (.c (.int .u64 1)), none⟩,
  ⟨some 3, .mov (.t 15), none⟩]
def f16r5 : List AIns := [⟨some 4, .mov (.c (.string ⟨#[]⟩)), none⟩]
def f16r6 : List AIns := [⟨some 16, .mov (.t 3), none⟩,
  ⟨some 17, .bin .geq (.t 16) (.c (.int .u64 128)), none⟩]
def f16r7 : List AIns := [⟨some 18, .mov (.t 4), none⟩,
  ⟨some 19, .mov (.t 3), none⟩,
  ⟨some 20, .bin .rem (.t 19) (.c (.int .u64 128)), none⟩,
  ⟨some 21, .bin .add (.t 20) (.c (.int .u64 128)), none⟩,
  ⟨some 22, .convInt .u8 (.t 21), none⟩,
  ⟨some 23, .buildSlice 5 1 [(.int .u8 0)] [(0, 1, (.t 22))], none⟩,
  ⟨some 24, .bytesStr (.t 23), none⟩,
  ⟨some 25, .bin .add (.t 18) (.t 24), none⟩,
  ⟨some 4, .mov (.t 25), none⟩]
def f16r8 : List AIns := [⟨some 26, .mov (.t 3), none⟩,
  ⟨some 27, .bin .quo (.t 26) (.c (.int .u64 128)), none⟩,
  ⟨some 3, .mov (.t 27), none⟩]
def f16l9 : ACode := (.seq (.seq (.reg f16r6) (.cond (.t 17) .skip (.exit 0))) (.block 1 (.seq (.reg f16r7) (.reg f16r8))))
def f16r10 : List AIns := [⟨some 28, .mov (.t 4), none⟩,
  ⟨some 29, .mov (.t 3), none⟩,
  ⟨some 30, .convInt .u8 (.t 29), none⟩,
  ⟨some 31, .buildSlice 5 1 [(.int .u8 0)] [(0, 1, (.t 30))], none⟩,
  ⟨some 32, .bytesStr (.t 31), none⟩,
  ⟨some 33, .bin .add (.t 28) (.t 32), none⟩,
  ⟨some 2, .mov (.t 33), none⟩]
def f16b : ACode := (.seq (.reg f16r0) (.seq (.reg f16r1) (.seq (.seq (.reg f16r2) (.cond (.t 6) (.reg f16r3) (.reg f16r4))) (.seq (.reg f16r5) (.seq (.block 0 (.loop f16l9)) (.seq (.reg f16r10) .ret))))))
def f16 : AFn := ⟨34, f16b, [.tmp 2], .pure⟩
theorem f16_is : cFn Try.prog .pure 16 = some f16 := by kernel_rfl

/-- bocage/bocageref19.Cut -/
def f17r0 : List AIns := [⟨some 1, .box 30 (.t 0), none⟩,
  ⟨some 2, .mov (.c (.string ⟨#[]⟩)), none⟩]
def f17r1 : List AIns := [⟨some 3, .loadN 2 (.t 1), none⟩,
  ⟨some 4, .call (.c (.func (.func 33) #[] #[])) [(.t 3)], none⟩,
  ⟨none, .store 2 (.t 1) (.t 4), none⟩]
def f17r2 : List AIns := [⟨some 5, .addOff 0 (.t 1), none⟩,
  ⟨some 6, .load1 (.t 5), none⟩,
  ⟨some 7, .bin .lss (.t 6) (.c (.int .i64 0)), none⟩]
def f17r3 : List AIns := [⟨some 2, .mov (.c (.string ⟨#[0]⟩)), none⟩]
def f17r4 : List AIns := [⟨some 8, .addOff 0 (.t 1), none⟩,
  ⟨some 9, .load1 (.t 8), none⟩,
  ⟨some 10, .bin .gtr (.t 9) (.c (.int .i64 0)), none⟩]
def f17r5 : List AIns := [⟨some 2, .mov (.c (.string ⟨#[2]⟩)), none⟩]
def f17r6 : List AIns := [⟨some 11, .addOff 1 (.t 1), none⟩,
  ⟨some 12, .load1 (.t 11), none⟩,
  ⟨some 13, .call (.c (.func (.func 16) #[] #[])) [(.t 12)], none⟩,
  ⟨some 14, .bin .add (.c (.string ⟨#[1]⟩)) (.t 13), none⟩,
  ⟨some 2, .mov (.t 14), none⟩]
def f17b : ACode := (.seq (.reg f17r0) (.seq (.reg f17r1) (.seq (.seq (.reg f17r2) (.cond (.t 7) (.seq (.reg f17r3) .ret) .skip)) (.seq (.seq (.reg f17r4) (.cond (.t 10) (.seq (.reg f17r5) .ret) .skip)) (.seq (.reg f17r6) .ret)))))
def f17 : AFn := ⟨15, f17b, [.tmp 2], .pure⟩
theorem f17_is : cFn Try.prog .pure 17 = some f17 := by kernel_rfl

/-- bocage/bocageref14.Right -/
def f18r0 : List AIns := [⟨some 3, .box 25 (.t 0), none⟩,
  ⟨some 6, .mov (.c (.bool false)), none⟩]
def f18r1 : List AIns := [⟨some 7, .addOff 0 (.t 3), none⟩,
  ⟨some 8, .load1 (.t 7), none⟩,
  ⟨some 9, .bin .neq (.t 8) (.c (.int .i64 0)), none⟩,
  ⟨some 10, .mov (.t 9), none⟩,
  ⟨some 11, .addOff 0 (.t 3), some (10, true)⟩,
  ⟨some 12, .load1 (.t 11), some (10, true)⟩,
  ⟨some 13, .bin .neq (.t 12) (.c (.int .i64 2)), some (10, true)⟩,
  ⟨some 14, .pick (.t 10) (.t 13) (.c (.bool false)), none⟩,
  ⟨some 15, .mov (.t 14), none⟩,
  ⟨some 16, .addOff 1 (.t 3), some (15, false)⟩,
  ⟨some 17, .load1 (.t 16), some (15, false)⟩,
  ⟨some 18, .un .not (.t 17), some (15, false)⟩,
  ⟨some 19, .mov (.t 18), some (15, false)⟩,
  ⟨some 20, .addOff 2 (.t 3), some (19, true)⟩,
  ⟨some 21, .load1 (.t 20), some (19, true)⟩,
  ⟨some 22, .bin .neq (.t 21) (.c (.int .i64 0)), some (19, true)⟩,
  ⟨some 23, .pick (.t 19) (.t 22) (.c (.bool false)), some (15, false)⟩,
  ⟨some 24, .pick (.t 15) (.c (.bool true)) (.t 23), none⟩]
def f18r2 : List AIns := [⟨some 6, .mov (.c (.bool false)), none⟩]
def f18r3 : List AIns := [⟨some 25, .mov (.t 1), none⟩,
  ⟨some 26, .bin .eql (.t 25) (.c (.int .i64 0)), none⟩,
  ⟨some 27, .mov (.t 26), none⟩,
  ⟨some 28, .mov (.t 1), some (27, false)⟩,
  ⟨some 29, .bin .geq (.t 28) (.c (.int .i64 2)), some (27, false)⟩,
  ⟨some 30, .mov (.t 29), some (27, false)⟩,
  ⟨some 31, .mov (.t 1), some (30, true)⟩,
  ⟨some 32, .bin .leq (.t 31) (.c (.int .i64 64)), some (30, true)⟩,
  ⟨some 33, .pick (.t 30) (.t 32) (.c (.bool false)), some (27, false)⟩,
  ⟨some 34, .pick (.t 27) (.c (.bool true)) (.t 33), none⟩,
  ⟨some 35, .mov (.t 34), none⟩,
  ⟨some 36, .mov (.t 2), some (35, true)⟩,
  ⟨some 37, .bin .geq (.t 36) (.c (.int .i64 0)), some (35, true)⟩,
  ⟨some 38, .pick (.t 35) (.t 37) (.c (.bool false)), none⟩,
  ⟨some 39, .mov (.t 38), none⟩,
  ⟨some 40, .mov (.t 2), some (39, true)⟩,
  ⟨some 41, .bin .leq (.t 40) (.c (.int .i64 4096)), some (39, true)⟩,
  ⟨some 42, .pick (.t 39) (.t 41) (.c (.bool false)), none⟩,
  ⟨some 6, .mov (.t 42), none⟩]
def f18b : ACode := (.seq (.reg f18r0) (.seq (.seq (.reg f18r1) (.cond (.t 24) (.seq (.reg f18r2) .ret) .skip)) (.seq (.reg f18r3) .ret)))
def f18 : AFn := ⟨43, f18b, [.tmp 6], .pure⟩
theorem f18_is : cFn Try.prog .pure 18 = some f18 := by kernel_rfl

/-- bocage/bocageref14.Fine -/
def f19r0 : List AIns := [⟨some 2, .box 25 (.t 0), none⟩,
  ⟨some 4, .mov (.c (.bool false)), none⟩]
def f19r1 : List AIns := [⟨some 5, .mov (.t 1), none⟩,
  ⟨some 6, .call (.c (.func (.func 34) #[] #[])) [(.t 5)], none⟩,
  ⟨some 7, .mov (.t 6), none⟩,
  ⟨some 8, .loadN 3 (.t 2), some (7, true)⟩,
  ⟨some 9, .mov (.t 1), some (7, true)⟩,
  ⟨some 10, .call (.c (.func (.func 36) #[] #[])) [(.t 8), (.t 9)], some (7, true)⟩,
  ⟨some 11, .mov (.t 1), some (7, true)⟩,
  ⟨some 12, .call (.c (.func (.func 35) #[] #[])) [(.t 10), (.t 11)], some (7, true)⟩,
  ⟨some 13, .pick (.t 7) (.t 12) (.c (.bool false)), none⟩,
  ⟨some 4, .mov (.t 13), none⟩]
def f19b : ACode := (.seq (.reg f19r0) (.seq (.reg f19r1) .ret))
def f19 : AFn := ⟨14, f19b, [.tmp 4], .pure⟩
theorem f19_is : cFn Try.prog .pure 19 = some f19 := by kernel_rfl

/-- bocage/bocageref10.Right -/
def f20r0 : List AIns := [⟨some 6, .mov (.c (.bool false)), none⟩]
def f20r1 : List AIns := [⟨some 7, .mov (.t 0), none⟩,
  ⟨some 8, .bin .geq (.t 7) (.c (.int .i64 0)), none⟩,
  ⟨some 9, .mov (.t 8), none⟩,
  ⟨some 10, .mov (.t 0), some (9, true)⟩,
  ⟨some 11, .bin .leq (.t 10) (.c (.int .i64 2)), some (9, true)⟩,
  ⟨some 12, .pick (.t 9) (.t 11) (.c (.bool false)), none⟩,
  ⟨some 13, .mov (.t 12), none⟩,
  ⟨some 14, .mov (.t 1), some (13, true)⟩,
  ⟨some 15, .bin .eql (.t 14) (.c (.int .i64 0)), some (13, true)⟩,
  ⟨some 16, .mov (.t 15), some (13, true)⟩,
  ⟨some 17, .mov (.t 1), some (16, false)⟩,
  ⟨some 18, .bin .geq (.t 17) (.c (.int .i64 2)), some (16, false)⟩,
  ⟨some 19, .mov (.t 18), some (16, false)⟩,
  ⟨some 20, .mov (.t 1), some (19, true)⟩,
  ⟨some 21, .bin .leq (.t 20) (.c (.int .i64 64)), some (19, true)⟩,
  ⟨some 22, .pick (.t 19) (.t 21) (.c (.bool false)), some (16, false)⟩,
  ⟨some 23, .pick (.t 16) (.c (.bool true)) (.t 22), some (13, true)⟩,
  ⟨some 24, .pick (.t 13) (.t 23) (.c (.bool false)), none⟩,
  ⟨some 25, .mov (.t 24), none⟩,
  ⟨some 26, .mov (.t 2), some (25, true)⟩,
  ⟨some 27, .bin .geq (.t 26) (.c (.int .i64 0)), some (25, true)⟩,
  ⟨some 28, .pick (.t 25) (.t 27) (.c (.bool false)), none⟩,
  ⟨some 29, .mov (.t 28), none⟩,
  ⟨some 30, .mov (.t 2), some (29, true)⟩,
  ⟨some 31, .bin .leq (.t 30) (.c (.int .i64 4096)), some (29, true)⟩,
  ⟨some 32, .pick (.t 29) (.t 31) (.c (.bool false)), none⟩,
  ⟨some 6, .mov (.t 32), none⟩]
def f20b : ACode := (.seq (.reg f20r0) (.seq (.reg f20r1) .ret))
def f20 : AFn := ⟨33, f20b, [.tmp 6], .pure⟩
theorem f20_is : cFn Try.prog .pure 20 = some f20 := by kernel_rfl

/-- bocage/bocageref10.Fine -/
def f21r0 : List AIns := [⟨some 4, .mov (.c (.bool false)), none⟩]
def f21r1 : List AIns := [⟨some 5, .mov (.c (.int .i64 1)), none⟩]
def f21r2 : List AIns := [⟨some 6, .mov (.t 5), none⟩,
  ⟨some 7, .mov (.t 1), none⟩,
  ⟨some 8, .len (.t 7), none⟩,
  ⟨some 9, .bin .lss (.t 6) (.t 8), none⟩]
def f21r3 : List AIns := [⟨some 12, .mov (.t 0), none⟩,
  ⟨some 13, .bin .eql (.t 12) (.c (.int .i64 0)), none⟩,
  ⟨some 14, .mov (.t 13), none⟩,
  ⟨some 15, .mov (.t 1), some (14, true)⟩,
  ⟨some 16, .mov (.t 5), some (14, true)⟩,
  ⟨some 17, .bin .sub (.t 16) (.c (.int .i64 1)), some (14, true)⟩,
  ⟨some 18, .idxA 4 (.t 15) (.t 17), some (14, true)⟩,
  ⟨some 19, .addOff 2 (.t 18), some (14, true)⟩,
  ⟨some 20, .loadN 2 (.t 19), some (14, true)⟩,
  ⟨some 21, .mov (.t 1), some (14, true)⟩,
  ⟨some 22, .mov (.t 5), some (14, true)⟩,
  ⟨some 23, .idxA 4 (.t 21) (.t 22), some (14, true)⟩,
  ⟨some 24, .addOff 0 (.t 23), some (14, true)⟩,
  ⟨some 25, .loadN 2 (.t 24), some (14, true)⟩,
  ⟨some 26, .eqv false [.i, .i] true (.t 20) (.t 25), some (14, true)⟩,
  ⟨some 27, .pick (.t 14) (.t 26) (.c (.bool false)), none⟩]
def f21r4 : List AIns := [⟨some 4, .mov (.c (.bool false)), none⟩]
def f21r5 : List AIns := [⟨some 10, .mov (.t 5), none⟩,
  ⟨some 11, .bin .add (.t 10) (.c (.int .i64 1)), none⟩,
  ⟨some 5, .mov (.t 11), none⟩]
def f21l6 : ACode := (.seq (.seq (.reg f21r2) (.cond (.t 9) .skip (.exit 0))) (.seq (.block 1 (.seq (.regD f21r3 [(0, []), (1, []), (2, []), (3, []), (4, []), (5, []), (6, []), (7, []), (8, []), (9, []), (10, []), (11, []), (12, []), (13, []), (14, []), (15, [])]) (.cond (.t 27) (.seq (.reg f21r4) .ret) .skip))) (.reg f21r5)))
def f21r7 : List AIns := [⟨some 28, .mov (.t 1), none⟩,
  ⟨some 29, .call (.c (.func (.func 37) #[] #[])) [(.t 28)], none⟩,
  ⟨some 4, .mov (.t 29), none⟩]
def f21b : ACode := (.seq (.reg f21r0) (.seq (.seq (.reg f21r1) (.block 0 (.loop f21l6))) (.seq (.reg f21r7) .ret)))
def f21 : AFn := ⟨30, f21b, [.tmp 4], .pure⟩
theorem f21_is : cFn Try.prog .pure 21 = some f21 := by kernel_rfl

/-- bocage/bocageref09.Spans -/
def f22r0 : List AIns := [⟨some 2, .mov (.c (.slice none 0 0)), none⟩]
def f22r1 : List AIns := [⟨some 3, .mov (.c (.slice none 0 0)), none⟩]
def f22r2 : List AIns := [⟨some 4, .mov (.c (.int .i64 0)), none⟩]
def f22r3 : List AIns := [⟨some 5, .mov (.t 4), none⟩,
  ⟨some 6, .mov (.t 0), none⟩,
  ⟨some 7, .len (.t 6), none⟩,
  ⟨some 8, .bin .lss (.t 5) (.t 7), none⟩]
def f22r4 : List AIns := [⟨some 11, .mov (.t 3), none⟩,
  ⟨some 12, .mov (.t 0), none⟩,
  ⟨some 13, .mov (.t 4), none⟩,
  ⟨some 14, .idxA 5 (.t 12) (.t 13), none⟩,
  ⟨some 15, .addOff 0 (.t 14), none⟩,
  ⟨some 16, .loadN 4 (.t 15), none⟩,
  ⟨some 17, .buildSlice 32 1 [(.int .i64 0), (.int .i64 0), (.int .i64 0), (.int .i64 0)] [(0, 4, (.t 16))], none⟩,
  ⟨some 18, .append 32 4 32 (.t 11) (.t 17), none⟩,
  ⟨some 3, .mov (.t 18), none⟩]
def f22r5 : List AIns := [⟨some 9, .mov (.t 4), none⟩,
  ⟨some 10, .bin .add (.t 9) (.c (.int .i64 1)), none⟩,
  ⟨some 4, .mov (.t 10), none⟩]
def f22l6 : ACode := (.seq (.seq (.reg f22r3) (.cond (.t 8) .skip (.exit 0))) (.seq (.block 1 (.reg f22r4)) (.reg f22r5)))
def f22r7 : List AIns := [⟨some 19, .mov (.t 3), none⟩,
  ⟨some 2, .mov (.t 19), none⟩]
def f22b : ACode := (.seq (.reg f22r0) (.seq (.reg f22r1) (.seq (.seq (.reg f22r2) (.block 0 (.loop f22l6))) (.seq (.reg f22r7) .ret))))
def f22 : AFn := ⟨20, f22b, [.tmp 2], .pure⟩
theorem f22_is : cFn Try.prog .pure 22 = some f22 := by kernel_rfl

/-- (*bocage/codec.reader).length -/
def f23r0 : List AIns := [⟨some 5, .mov (.t 0), none⟩,
  ⟨some 6, .nilCheck (.t 5), none⟩,
  ⟨some 7, .addOff 0 (.t 6), none⟩,
  ⟨some 8, .load1 (.t 7), none⟩,
  ⟨some 9, .call (.c (.func (.func 11) #[] #[])) [(.t 8)], none⟩,
  ⟨some 4, .mov (.t 9), none⟩,
  ⟨some 10, .extract (.t 4) 0, none⟩,
  ⟨some 11, .extract (.t 4) 1, none⟩,
  ⟨some 2, .mov (.t 10), none⟩,
  ⟨some 3, .mov (.t 11), none⟩]
def f23r1 : List AIns := [⟨some 12, .mov (.t 3), none⟩,
  ⟨some 13, .bin .gtr (.t 12) (.c (.int .i64 0)), none⟩,
  ⟨some 14, .mov (.t 13), none⟩,
  ⟨some 15, .mov (.t 2), some (14, true)⟩,
  ⟨some 16, .mov (.t 0), some (14, true)⟩,
  ⟨some 17, .nilCheck (.t 16), some (14, true)⟩,
  ⟨some 18, .addOff 0 (.t 17), some (14, true)⟩,
  ⟨some 19, .load1 (.t 18), some (14, true)⟩,
  ⟨some 20, .len (.t 19), some (14, true)⟩,
  ⟨some 21, .mov (.t 3), some (14, true)⟩,
  ⟨some 22, .bin .sub (.t 20) (.t 21), some (14, true)⟩,
  ⟨some 23, .bin .neq (.t 15) (.t 22), some (14, true)⟩,
  ⟨some 24, .pick (.t 14) (.t 23) (.c (.bool false)), none⟩]
def f23r2 : List AIns := [⟨some 3, .mov (.c (.int .i64 0)), none⟩]
def f23r3 : List AIns := [⟨some 25, .mov (.t 0), none⟩,
  ⟨some 26, .mov (.t 3), none⟩,
  ⟨some 27, .call (.c (.func (.func 38) #[] #[])) [(.t 25), (.t 26)], none⟩]
def f23b : ACode := (.seq (.reg f23r0) (.seq (.seq (.reg f23r1) (.cond (.t 24) (.reg f23r2) .skip)) (.reg f23r3)))
def f23 : AFn := ⟨28, f23b, [], .plain⟩
theorem f23_is : cFn Try.prog .plain 23 = some f23 := by kernel_rfl

/-- (*bocage/codec.reader).sign -/
def f24r0 : List AIns := [⟨some 4, .mov (.c (.int .i64 0)), none⟩]
def f24r1 : List AIns := [⟨some 6, .mov (.t 0), none⟩,
  ⟨some 7, .nilCheck (.t 6), none⟩,
  ⟨some 8, .addOff 1 (.t 7), none⟩,
  ⟨some 9, .load1 (.t 8), none⟩,
  ⟨some 10, .mov (.t 0), none⟩,
  ⟨some 11, .nilCheck (.t 10), none⟩,
  ⟨some 12, .addOff 0 (.t 11), none⟩,
  ⟨some 13, .load1 (.t 12), none⟩,
  ⟨some 14, .len (.t 13), none⟩,
  ⟨some 15, .bin .geq (.t 9) (.t 14), none⟩,
  ⟨some 16, .mov (.t 15), none⟩,
  ⟨some 17, .mov (.t 1), some (16, false)⟩,
  ⟨some 18, .mov (.t 0), some (16, false)⟩,
  ⟨some 19, .nilCheck (.t 18), some (16, false)⟩,
  ⟨some 20, .addOff 0 (.t 19), some (16, false)⟩,
  ⟨some 21, .load1 (.t 20), some (16, false)⟩,
  ⟨some 22, .mov (.t 0), some (16, false)⟩,
  ⟨some 23, .nilCheck (.t 22), some (16, false)⟩,
  ⟨some 24, .addOff 1 (.t 23), some (16, false)⟩,
  ⟨some 25, .load1 (.t 24), some (16, false)⟩,
  ⟨some 26, .idxA 1 (.t 21) (.t 25), some (16, false)⟩,
  ⟨some 27, .load1 (.t 26), some (16, false)⟩,
  ⟨some 28, .call (.c (.func (.func 39) #[] #[])) [(.t 17), (.t 27)], some (16, false)⟩,
  ⟨some 29, .un .not (.t 28), some (16, false)⟩,
  ⟨some 30, .pick (.t 16) (.c (.bool true)) (.t 29), none⟩]
def f24r2 : List AIns := [⟨some 31, .mov (.t 0), none⟩,
  ⟨some 32, .call (.c (.func (.func 38) #[] #[])) [(.t 31), (.c (.int .i64 0))], none⟩]
def f24r3 : List AIns := [⟨some 4, .mov (.c (.int .i64 0)), none⟩]
def f24r4 : List AIns := [⟨some 33, .mov (.t 0), none⟩,
  ⟨some 34, .nilCheck (.t 33), none⟩,
  ⟨some 35, .addOff 0 (.t 34), none⟩,
  ⟨some 36, .load1 (.t 35), none⟩,
  ⟨some 37, .mov (.t 0), none⟩,
  ⟨some 38, .nilCheck (.t 37), none⟩,
  ⟨some 39, .addOff 1 (.t 38), none⟩,
  ⟨some 40, .load1 (.t 39), none⟩,
  ⟨some 41, .idxA 1 (.t 36) (.t 40), none⟩,
  ⟨some 42, .load1 (.t 41), none⟩,
  ⟨some 5, .mov (.t 42), none⟩]
def f24r5 : List AIns := [⟨some 43, .mov (.t 0), none⟩,
  ⟨some 44, .call (.c (.func (.func 38) #[] #[])) [(.t 43), (.c (.int .i64 1))], none⟩]
def f24r6 : List AIns := [⟨some 45, .mov (.t 5), none⟩,
  ⟨some 46, .convInt .i64 (.t 45), none⟩,
  ⟨some 4, .mov (.t 46), none⟩]
def f24b : ACode := (.seq (.reg f24r0) (.seq (.seq (.regD f24r1 [(0, []), (1, []), (2, []), (3, []), (4, []), (5, []), (6, []), (7, []), (8, []), (9, []), (10, []), (11, []), (12, []), (13, []), (14, []), (15, []), (16, []), (17, []), (18, []), (19, []), (20, []), (21, []), (22, []), (23, []), (24, [])]) (.cond (.t 30) (.seq (.reg f24r2) (.seq (.reg f24r3) .ret)) .skip)) (.seq (.regD f24r4 [(0, []), (1, []), (2, []), (3, []), (4, []), (5, []), (6, []), (7, []), (8, []), (9, []), (10, [])]) (.seq (.reg f24r5) (.seq (.reg f24r6) .ret)))))
def f24 : AFn := ⟨47, f24b, [.tmp 4], .plain⟩
theorem f24_is : cFn Try.prog .plain 24 = some f24 := by kernel_rfl

/-- bocage/codec.rows[bocage/api.Span] -/
def f25r0 : List AIns := [⟨some 4, .mov (.c (.slice none 0 0)), none⟩,
  ⟨some 5, .mov (.c (.int .i64 0)), none⟩]
def f25r1 : List AIns := [⟨some 12, .mov (.t 0), none⟩,
  ⟨some 13, .nilCheck (.t 12), none⟩,
  ⟨some 14, .addOff 0 (.t 13), none⟩,
  ⟨some 15, .load1 (.t 14), none⟩,
  ⟨some 16, .mov (.t 0), none⟩,
  ⟨some 17, .nilCheck (.t 16), none⟩,
  ⟨some 18, .addOff 1 (.t 17), none⟩,
  ⟨some 19, .load1 (.t 18), none⟩,
  ⟨some 20, .slice 5 1 (.t 15) (some (.t 19)) none none, none⟩,
  ⟨some 21, .call (.c (.func (.func 11) #[] #[])) [(.t 20)], none⟩,
  ⟨some 11, .mov (.t 21), none⟩,
  ⟨some 22, .extract (.t 11) 0, none⟩,
  ⟨some 23, .extract (.t 11) 1, none⟩,
  ⟨some 6, .mov (.t 22), none⟩,
  ⟨some 7, .mov (.t 23), none⟩]
def f25r2 : List AIns := [⟨some 24, .mov (.t 6), none⟩,
  ⟨some 25, .bin .lss (.t 24) (.c (.int .i64 0)), none⟩]
def f25r3 : List AIns := [⟨some 7, .mov (.c (.int .i64 0)), none⟩]
def f25r4 : List AIns := [⟨some 26, .mov (.t 0), none⟩,
  ⟨some 27, .mov (.t 7), none⟩,
  ⟨some 28, .call (.c (.func (.func 38) #[] #[])) [(.t 26), (.t 27)], none⟩]
def f25r5 : List AIns := [⟨some 29, .mov (.t 0), none⟩,
  ⟨some 30, .nilCheck (.t 29), none⟩,
  ⟨some 31, .addOff 2 (.t 30), none⟩,
  ⟨some 32, .load1 (.t 31), none⟩]
def f25r6 : List AIns := [⟨some 33, .mov (.t 0), none⟩,
  ⟨some 34, .nilCheck (.t 33), none⟩,
  ⟨some 35, .addOff 1 (.t 34), none⟩,
  ⟨some 36, .load1 (.t 35), none⟩,
  ⟨some 4, .mov (.c (.slice none 0 0)), none⟩,
  ⟨some 5, .mov (.t 36), none⟩]
def f25r7 : List AIns := [⟨some 37, .mov (.t 0), none⟩,
  ⟨some 38, .nilCheck (.t 37), none⟩,
  ⟨some 39, .addOff 1 (.t 38), none⟩,
  ⟨some 40, .load1 (.t 39), none⟩,
  ⟨some 8, .mov (.t 40), none⟩]
def f25r8 : List AIns := [⟨some 9, .mov (.c (.slice none 0 0)), none⟩]
def f25r9 : List AIns := [⟨some 41, .mov (.t 6), none⟩,
  ⟨some 42, .mov (.c (.int .i64 0)), none⟩]
def f25r10 : List AIns := [⟨some 43, .bin .lss (.t 42) (.t 41), none⟩]
def f25r11 : List AIns := [⟨some 44, .mov (.t 1), none⟩,
  ⟨some 45, .call (.t 44) [], none⟩,
  ⟨some 10, .alloc 32 [(.int .i64 0), (.int .i64 0), (.int .i64 0), (.int .i64 0)], none⟩,
  ⟨none, .store 4 (.t 10) (.t 45), none⟩]
def f25r12 : List AIns := [⟨some 46, .mov (.t 0), none⟩,
  ⟨some 47, .nilCheck (.t 46), none⟩,
  ⟨some 48, .addOff 2 (.t 47), none⟩,
  ⟨some 49, .load1 (.t 48), none⟩]
def f25r13 : List AIns := [⟨some 50, .mov (.t 8), none⟩,
  ⟨some 4, .mov (.c (.slice none 0 0)), none⟩,
  ⟨some 5, .mov (.t 50), none⟩]
def f25r14 : List AIns := [⟨some 51, .mov (.t 9), none⟩,
  ⟨some 52, .loadN 4 (.t 10), none⟩,
  ⟨some 53, .buildSlice 32 1 [(.int .i64 0), (.int .i64 0), (.int .i64 0), (.int .i64 0)] [(0, 4, (.t 52))], none⟩,
  ⟨some 54, .append 32 4 32 (.t 51) (.t 53), none⟩,
  ⟨some 9, .mov (.t 54), none⟩]
def f25r15 : List AIns := [⟨some 55, .bin .add (.t 42) (.c (.int .i64 1)), none⟩,
  ⟨some 42, .mov (.t 55), none⟩]
def f25l16 : ACode := (.seq (.reg f25r10) (.seq (.cond (.t 43) .skip (.exit 0)) (.seq (.block 1 (.seq (.reg f25r11) (.seq (.seq (.reg f25r12) (.cond (.t 49) (.seq (.reg f25r13) .ret) .skip)) (.reg f25r14)))) (.reg f25r15))))
def f25r17 : List AIns := [⟨some 56, .mov (.t 9), none⟩,
  ⟨some 57, .mov (.t 8), none⟩,
  ⟨some 4, .mov (.t 56), none⟩,
  ⟨some 5, .mov (.t 57), none⟩]
def f25b : ACode := (.seq (.reg f25r0) (.seq (.regD f25r1 [(0, []), (1, []), (2, []), (3, []), (4, []), (5, []), (6, []), (7, []), (8, []), (9, []), (10, []), (11, []), (12, []), (13, []), (14, [])]) (.seq (.seq (.reg f25r2) (.cond (.t 25) (.reg f25r3) .skip)) (.seq (.reg f25r4) (.seq (.seq (.reg f25r5) (.cond (.t 32) (.seq (.regD f25r6 [(0, []), (1, []), (2, []), (3, []), (4, []), (5, [])]) .ret) .skip)) (.seq (.reg f25r7) (.seq (.reg f25r8) (.seq (.seq (.reg f25r9) (.block 0 (.loop f25l16))) (.seq (.reg f25r17) .ret)))))))))
def f25 : AFn := ⟨58, f25b, [.tmp 4, .tmp 5], .plain⟩
theorem f25_is : cFn Try.prog .plain 25 = some f25 := by kernel_rfl

/-- (*bocage/codec.reader).span -/
def f26r0 : List AIns := [⟨some 2, .alloc 32 [(.int .i64 0), (.int .i64 0), (.int .i64 0), (.int .i64 0)], none⟩]
def f26r1 : List AIns := [⟨some 4, .mov (.t 0), none⟩,
  ⟨some 5, .call (.c (.func (.func 40) #[] #[])) [(.t 4)], none⟩,
  ⟨some 3, .alloc 30 [(.int .i64 0), (.int .i64 0)], none⟩,
  ⟨none, .store 2 (.t 3) (.t 5), none⟩]
def f26r2 : List AIns := [⟨some 6, .loadN 2 (.t 3), none⟩,
  ⟨some 7, .mov (.t 0), none⟩,
  ⟨some 8, .call (.c (.func (.func 40) #[] #[])) [(.t 7)], none⟩,
  ⟨some 9, .build [(.int .i64 0), (.int .i64 0), (.int .i64 0), (.int .i64 0)] [(0, 2, (.t 6)), (2, 2, (.t 8))], none⟩,
  ⟨none, .store 4 (.t 2) (.t 9), none⟩]
def f26b : ACode := (.seq (.reg f26r0) (.seq (.reg f26r1) (.seq (.regD f26r2 [(0, []), (1, []), (2, [0]), (3, []), (4, [])]) .ret)))
def f26 : AFn := ⟨10, f26b, [.cellN 2 4], .plain⟩
theorem f26_is : cFn Try.prog .plain 26 = some f26 := by kernel_rfl

/-- (*bocage/codec.reader).end -/
def f27r0 : List AIns := [⟨some 6, .mov (.c (.int .i64 0)), none⟩,
  ⟨some 7, .mov (.c (.int .i64 0)), none⟩]
def f27r1 : List AIns := [⟨some 9, .mov (.t 0), none⟩,
  ⟨some 10, .nilCheck (.t 9), none⟩,
  ⟨some 11, .addOff 2 (.t 10), none⟩,
  ⟨some 12, .load1 (.t 11), none⟩,
  ⟨some 13, .mov (.t 12), none⟩,
  ⟨some 14, .mov (.t 0), some (13, false)⟩,
  ⟨some 15, .nilCheck (.t 14), some (13, false)⟩,
  ⟨some 16, .addOff 1 (.t 15), some (13, false)⟩,
  ⟨some 17, .load1 (.t 16), some (13, false)⟩,
  ⟨some 18, .mov (.t 0), some (13, false)⟩,
  ⟨some 19, .nilCheck (.t 18), some (13, false)⟩,
  ⟨some 20, .addOff 0 (.t 19), some (13, false)⟩,
  ⟨some 21, .load1 (.t 20), some (13, false)⟩,
  ⟨some 22, .len (.t 21), some (13, false)⟩,
  ⟨some 23, .bin .lss (.t 17) (.t 22), some (13, false)⟩,
  ⟨some 24, .pick (.t 13) (.c (.bool true)) (.t 23), none⟩,
  ⟨some 8, .mov (.t 24), none⟩]
def f27r2 : List AIns := [⟨some 25, .mov (.t 0), none⟩,
  ⟨some 26, .nilCheck (.t 25), none⟩,
  ⟨some 27, .addOff 1 (.t 26), none⟩,
  ⟨some 28, .load1 (.t 27), none⟩,
  ⟨some 6, .mov (.t 28), none⟩,
  ⟨some 7, .mov (.c (.int .i64 190)), none⟩]
def f27r3 : List AIns := [⟨some 30, .mov (.t 2), none⟩,
  ⟨some 31, .call (.t 30) [], none⟩,
  ⟨some 32, .un .not (.t 31), none⟩,
  ⟨some 29, .mov (.t 32), none⟩]
def f27r4 : List AIns := [⟨some 33, .mov (.t 1), none⟩,
  ⟨some 6, .mov (.t 33), none⟩,
  ⟨some 7, .mov (.c (.int .i64 190)), none⟩]
def f27r5 : List AIns := [⟨some 34, .mov (.t 0), none⟩,
  ⟨some 35, .nilCheck (.t 34), none⟩,
  ⟨some 36, .addOff 1 (.t 35), none⟩,
  ⟨some 37, .load1 (.t 36), none⟩,
  ⟨some 6, .mov (.t 37), none⟩,
  ⟨some 7, .mov (.c (.int .i64 0)), none⟩]
def f27b : ACode := (.seq (.reg f27r0) (.seq (.block 0 (.seq (.regD f27r1 [(0, []), (1, []), (2, []), (3, []), (4, []), (5, []), (6, []), (7, []), (8, []), (9, []), (10, []), (11, []), (12, []), (13, []), (14, []), (15, []), (16, [])]) (.cond (.t 8) (.seq (.reg f27r2) .ret) (.seq (.reg f27r3) (.cond (.t 29) (.seq (.reg f27r4) .ret) .skip))))) (.seq (.reg f27r5) .ret)))
def f27 : AFn := ⟨38, f27b, [.tmp 6, .tmp 7], .plain⟩
theorem f27_is : cFn Try.prog .plain 27 = some f27 := by kernel_rfl

/-- bocage/codec.ReadSet$1 -/
def f28r0 : List AIns := [⟨some 2, .mov (.c (.bool false)), none⟩]
def f28r1 : List AIns := [⟨some 3, .load1 (.t 0), none⟩,
  ⟨some 4, .load1 (.t 1), none⟩,
  ⟨some 5, .call (.c (.func (.func 13) #[] #[])) [(.t 3), (.t 4)], none⟩,
  ⟨some 2, .mov (.t 5), none⟩]
def f28b : ACode := (.seq (.reg f28r0) (.seq (.reg f28r1) .ret))
def f28 : AFn := ⟨6, f28b, [.tmp 2], .plain⟩
theorem f28_is : cFn Try.prog .plain 28 = some f28 := by kernel_rfl

/-- slices.Equal[[]byte,byte] -/
def f29r0 : List AIns := [⟨some 4, .mov (.c (.bool false)), none⟩]
def f29r1 : List AIns := [⟨some 6, .mov (.t 0), none⟩,
  ⟨some 7, .len (.t 6), none⟩,
  ⟨some 8, .mov (.t 1), none⟩,
  ⟨some 9, .len (.t 8), none⟩,
  ⟨some 10, .bin .neq (.t 7) (.t 9), none⟩]
def f29r2 : List AIns := [⟨some 4, .mov (.c (.bool false)), none⟩]
def f29r3 : List AIns := [⟨some 11, .mov (.t 0), none⟩,
  ⟨some 12, .len (.t 11), none⟩,
  ⟨some 13, .mov (.c (.int .i64 0)), none⟩]
def f29r4 : List AIns := [⟨some 14, .bin .lss (.t 13) (.t 12), none⟩]
def f29r5 : List AIns := [⟨some 15, .mov (.t 13), none⟩,
  ⟨some 5, .mov (.t 15), none⟩]
def f29r6 : List AIns := [⟨some 16, .mov (.t 0), none⟩,
  ⟨some 17, .mov (.t 5), none⟩,
  ⟨some 18, .idxA 1 (.t 16) (.t 17), none⟩,
  ⟨some 19, .load1 (.t 18), none⟩,
  ⟨some 20, .mov (.t 1), none⟩,
  ⟨some 21, .mov (.t 5), none⟩,
  ⟨some 22, .idxA 1 (.t 20) (.t 21), none⟩,
  ⟨some 23, .load1 (.t 22), none⟩,
  ⟨some 24, .bin .neq (.t 19) (.t 23), none⟩]
def f29r7 : List AIns := [⟨some 4, .mov (.c (.bool false)), none⟩]
def f29r8 : List AIns := [⟨some 25, .bin .add (.t 13) (.c (.int .i64 1)), none⟩,
  ⟨some 13, .mov (.t 25), none⟩]
def f29l9 : ACode := (.seq (.reg f29r4) (.seq (.cond (.t 14) .skip (.exit 0)) (.seq (.block 1 (.seq (.reg f29r5) (.seq (.regD f29r6 [(0, []), (1, []), (2, []), (3, []), (4, []), (5, []), (6, []), (7, []), (8, [])]) (.cond (.t 24) (.seq (.reg f29r7) .ret) .skip)))) (.reg f29r8))))
def f29r10 : List AIns := [⟨some 4, .mov (.c (.bool true)), none⟩]
def f29b : ACode := (.seq (.reg f29r0) (.seq (.seq (.reg f29r1) (.cond (.t 10) (.seq (.reg f29r2) .ret) .skip)) (.seq (.seq (.reg f29r3) (.block 0 (.loop f29l9))) (.seq (.reg f29r10) .ret))))
def f29 : AFn := ⟨26, f29b, [.tmp 4], .pure⟩
theorem f29_is : cFn Try.prog .pure 29 = some f29 := by kernel_rfl

/-- bocage/span.Sorted -/
def f30r0 : List AIns := [⟨some 2, .mov (.c (.bool false)), none⟩]
def f30r1 : List AIns := [⟨some 5, .mov (.t 0), none⟩,
  ⟨some 6, .len (.t 5), none⟩,
  ⟨some 7, .mov (.c (.int .i64 0)), none⟩]
def f30r2 : List AIns := [⟨some 8, .bin .lss (.t 7) (.t 6), none⟩]
def f30r3 : List AIns := [⟨some 9, .mov (.t 7), none⟩,
  ⟨some 10, .idxA 4 (.t 5) (.t 7), none⟩,
  ⟨some 11, .loadN 4 (.t 10), none⟩,
  ⟨some 4, .alloc 32 [(.int .i64 0), (.int .i64 0), (.int .i64 0), (.int .i64 0)], none⟩,
  ⟨some 3, .mov (.t 9), none⟩,
  ⟨none, .store 4 (.t 4) (.t 11), none⟩]
def f30r4 : List AIns := [⟨some 12, .loadN 4 (.t 4), none⟩,
  ⟨some 13, .call (.c (.func (.func 41) #[] #[])) [(.t 12)], none⟩,
  ⟨some 14, .un .not (.t 13), none⟩,
  ⟨some 15, .mov (.t 14), none⟩,
  ⟨some 16, .mov (.t 3), some (15, false)⟩,
  ⟨some 17, .bin .gtr (.t 16) (.c (.int .i64 0)), some (15, false)⟩,
  ⟨some 18, .mov (.t 17), some (15, false)⟩,
  ⟨some 19, .mov (.t 0), some (18, true)⟩,
  ⟨some 20, .mov (.t 3), some (18, true)⟩,
  ⟨some 21, .bin .sub (.t 20) (.c (.int .i64 1)), some (18, true)⟩,
  ⟨some 22, .idxA 4 (.t 19) (.t 21), some (18, true)⟩,
  ⟨some 23, .addOff 2 (.t 22), some (18, true)⟩,
  ⟨some 24, .loadN 2 (.t 23), some (18, true)⟩,
  ⟨some 25, .addOff 0 (.t 4), some (18, true)⟩,
  ⟨some 26, .loadN 2 (.t 25), some (18, true)⟩,
  ⟨some 27, .call (.c (.func (.func 42) #[] #[])) [(.t 24), (.t 26)], some (18, true)⟩,
  ⟨some 28, .bin .gtr (.t 27) (.c (.int .i64 0)), some (18, true)⟩,
  ⟨some 29, .pick (.t 18) (.t 28) (.c (.bool false)), some (15, false)⟩,
  ⟨some 30, .pick (.t 15) (.c (.bool true)) (.t 29), none⟩]
def f30r5 : List AIns := [⟨some 2, .mov (.c (.bool false)), none⟩]
def f30r6 : List AIns := [⟨some 31, .bin .add (.t 7) (.c (.int .i64 1)), none⟩,
  ⟨some 7, .mov (.t 31), none⟩]
def f30l7 : ACode := (.seq (.reg f30r2) (.seq (.cond (.t 8) .skip (.exit 0)) (.seq (.block 1 (.seq (.reg f30r3) (.seq (.regD f30r4 [(0, []), (1, []), (2, []), (3, []), (4, []), (5, []), (6, []), (7, []), (8, []), (9, []), (10, []), (11, []), (12, []), (13, []), (14, []), (15, []), (16, []), (17, []), (18, [])]) (.cond (.t 30) (.seq (.reg f30r5) .ret) .skip)))) (.reg f30r6))))
def f30r8 : List AIns := [⟨some 2, .mov (.c (.bool true)), none⟩]
def f30b : ACode := (.seq (.reg f30r0) (.seq (.seq (.reg f30r1) (.block 0 (.loop f30l7))) (.seq (.reg f30r8) .ret)))
def f30 : AFn := ⟨32, f30b, [.tmp 2], .pure⟩
theorem f30_is : cFn Try.prog .pure 30 = some f30 := by kernel_rfl

/-- bocage/span.Touch -/
def f31r0 : List AIns := [⟨some 2, .box 32 (.t 0), none⟩,
  ⟨some 3, .box 32 (.t 1), none⟩,
  ⟨some 4, .mov (.c (.bool false)), none⟩]
def f31r1 : List AIns := [⟨some 5, .loadN 4 (.t 2), none⟩,
  ⟨some 6, .loadN 4 (.t 3), none⟩,
  ⟨some 7, .call (.c (.func (.func 43) #[] #[])) [(.t 5), (.t 6)], none⟩,
  ⟨some 8, .mov (.t 7), none⟩,
  ⟨some 9, .addOff 2 (.t 2), some (8, true)⟩,
  ⟨some 10, .loadN 2 (.t 9), some (8, true)⟩,
  ⟨some 11, .addOff 0 (.t 3), some (8, true)⟩,
  ⟨some 12, .loadN 2 (.t 11), some (8, true)⟩,
  ⟨some 13, .eqv false [.i, .i] true (.t 10) (.t 12), some (8, true)⟩,
  ⟨some 14, .mov (.t 13), some (8, true)⟩,
  ⟨some 15, .addOff 2 (.t 3), some (14, false)⟩,
  ⟨some 16, .loadN 2 (.t 15), some (14, false)⟩,
  ⟨some 17, .addOff 0 (.t 2), some (14, false)⟩,
  ⟨some 18, .loadN 2 (.t 17), some (14, false)⟩,
  ⟨some 19, .eqv false [.i, .i] true (.t 16) (.t 18), some (14, false)⟩,
  ⟨some 20, .pick (.t 14) (.c (.bool true)) (.t 19), some (8, true)⟩,
  ⟨some 21, .pick (.t 8) (.t 20) (.c (.bool false)), none⟩,
  ⟨some 4, .mov (.t 21), none⟩]
def f31b : ACode := (.seq (.reg f31r0) (.seq (.reg f31r1) .ret))
def f31 : AFn := ⟨22, f31b, [.tmp 4], .pure⟩
theorem f31_is : cFn Try.prog .pure 31 = some f31 := by kernel_rfl

/-- bocage/cut.Canon -/
def f32r0 : List AIns := [⟨some 1, .box 30 (.t 0), none⟩,
  ⟨some 2, .alloc 30 [(.int .i64 0), (.int .i64 0)], none⟩]
def f32r1 : List AIns := [⟨some 4, .addOff 0 (.t 1), none⟩,
  ⟨some 5, .load1 (.t 4), none⟩,
  ⟨some 6, .bin .lss (.t 5) (.c (.int .i64 0)), none⟩,
  ⟨some 7, .mov (.t 6), none⟩,
  ⟨some 8, .addOff 0 (.t 1), some (7, false)⟩,
  ⟨some 9, .load1 (.t 8), some (7, false)⟩,
  ⟨some 10, .bin .eql (.t 9) (.c (.int .i64 0)), some (7, false)⟩,
  ⟨some 11, .mov (.t 10), some (7, false)⟩,
  ⟨some 12, .addOff 1 (.t 1), some (11, true)⟩,
  ⟨some 13, .load1 (.t 12), some (11, true)⟩,
  ⟨some 14, .bin .eql (.t 13) (.c (.int .i64 (-9223372036854775808))), some (11, true)⟩,
  ⟨some 15, .pick (.t 11) (.t 14) (.c (.bool false)), some (7, false)⟩,
  ⟨some 16, .pick (.t 7) (.c (.bool true)) (.t 15), none⟩,
  ⟨some 3, .mov (.t 16), none⟩]
def f32r2 : List AIns := [⟨some 17, .call (.c (.func (.func 44) #[] #[])) [], none⟩,
  ⟨none, .store 2 (.t 2) (.t 17), none⟩]
def f32r3 : List AIns := [⟨some 19, .addOff 0 (.t 1), none⟩,
  ⟨some 20, .load1 (.t 19), none⟩,
  ⟨some 21, .bin .gtr (.t 20) (.c (.int .i64 0)), none⟩,
  ⟨some 18, .mov (.t 21), none⟩]
def f32r4 : List AIns := [⟨some 22, .call (.c (.func (.func 45) #[] #[])) [], none⟩,
  ⟨none, .store 2 (.t 2) (.t 22), none⟩]
def f32r5 : List AIns := [⟨some 23, .loadN 2 (.t 1), none⟩,
  ⟨none, .store 2 (.t 2) (.t 23), none⟩]
def f32b : ACode := (.seq (.reg f32r0) (.seq (.block 0 (.seq (.reg f32r1) (.cond (.t 3) (.seq (.reg f32r2) .ret) (.seq (.reg f32r3) (.cond (.t 18) (.seq (.reg f32r4) .ret) .skip))))) (.seq (.reg f32r5) .ret)))
def f32 : AFn := ⟨24, f32b, [.cellN 2 2], .pure⟩
theorem f32_is : cFn Try.prog .pure 32 = some f32 := by kernel_rfl

/-- bocage/bocageref02.Canon -/
def f33r0 : List AIns := [⟨some 1, .box 30 (.t 0), none⟩,
  ⟨some 2, .alloc 30 [(.int .i64 0), (.int .i64 0)], none⟩]
def f33r1 : List AIns := [⟨some 3, .addOff 0 (.t 1), none⟩,
  ⟨some 4, .load1 (.t 3), none⟩,
  ⟨some 5, .bin .lss (.t 4) (.c (.int .i64 0)), none⟩,
  ⟨some 6, .mov (.t 5), none⟩,
  ⟨some 7, .addOff 0 (.t 1), some (6, false)⟩,
  ⟨some 8, .load1 (.t 7), some (6, false)⟩,
  ⟨some 9, .bin .eql (.t 8) (.c (.int .i64 0)), some (6, false)⟩,
  ⟨some 10, .mov (.t 9), some (6, false)⟩,
  ⟨some 11, .addOff 1 (.t 1), some (10, true)⟩,
  ⟨some 12, .load1 (.t 11), some (10, true)⟩,
  ⟨some 13, .call (.c (.func (.func 46) #[] #[])) [], some (10, true)⟩,
  ⟨some 14, .bin .eql (.t 12) (.t 13), some (10, true)⟩,
  ⟨some 15, .pick (.t 10) (.t 14) (.c (.bool false)), some (6, false)⟩,
  ⟨some 16, .pick (.t 6) (.c (.bool true)) (.t 15), none⟩]
def f33r2 : List AIns := [⟨some 17, .build [(.int .i64 0), (.int .i64 0)] [(0, 1, (.c (.int .i64 (-1))))], none⟩,
  ⟨none, .store 2 (.t 2) (.t 17), none⟩]
def f33r3 : List AIns := [⟨some 18, .addOff 0 (.t 1), none⟩,
  ⟨some 19, .load1 (.t 18), none⟩,
  ⟨some 20, .bin .gtr (.t 19) (.c (.int .i64 0)), none⟩]
def f33r4 : List AIns := [⟨some 21, .build [(.int .i64 0), (.int .i64 0)] [(0, 1, (.c (.int .i64 1)))], none⟩,
  ⟨none, .store 2 (.t 2) (.t 21), none⟩]
def f33r5 : List AIns := [⟨some 22, .loadN 2 (.t 1), none⟩,
  ⟨none, .store 2 (.t 2) (.t 22), none⟩]
def f33b : ACode := (.seq (.reg f33r0) (.seq (.seq (.regD f33r1 [(0, []), (1, []), (2, []), (3, []), (4, []), (5, []), (6, []), (7, []), (8, []), (9, []), (10, [9]), (11, []), (12, []), (13, [])]) (.cond (.t 16) (.seq (.reg f33r2) .ret) .skip)) (.seq (.seq (.reg f33r3) (.cond (.t 20) (.seq (.reg f33r4) .ret) .skip)) (.seq (.reg f33r5) .ret))))
def f33 : AFn := ⟨23, f33b, [.cellN 2 2], .pure⟩
theorem f33_is : cFn Try.prog .pure 33 = some f33 := by kernel_rfl

/-- bocage/bocageref09.Sound -/
def f34r0 : List AIns := [⟨some 2, .mov (.c (.bool false)), none⟩]
def f34r1 : List AIns := [⟨some 3, .mov (.t 0), none⟩,
  ⟨some 4, .call (.c (.func (.func 22) #[] #[])) [(.t 3)], none⟩,
  ⟨some 5, .call (.c (.func (.func 37) #[] #[])) [(.t 4)], none⟩,
  ⟨some 2, .mov (.t 5), none⟩]
def f34b : ACode := (.seq (.reg f34r0) (.seq (.reg f34r1) .ret))
def f34 : AFn := ⟨6, f34b, [.tmp 2], .pure⟩
theorem f34_is : cFn Try.prog .pure 34 = some f34 := by kernel_rfl

/-- bocage/bocageref14.Same -/
def f35r0 : List AIns := [⟨some 4, .mov (.c (.bool false)), none⟩]
def f35r1 : List AIns := [⟨some 6, .mov (.t 0), none⟩,
  ⟨some 7, .len (.t 6), none⟩,
  ⟨some 8, .mov (.t 1), none⟩,
  ⟨some 9, .len (.t 8), none⟩,
  ⟨some 10, .bin .neq (.t 7) (.t 9), none⟩]
def f35r2 : List AIns := [⟨some 4, .mov (.c (.bool false)), none⟩]
def f35r3 : List AIns := [⟨some 5, .mov (.c (.int .i64 0)), none⟩]
def f35r4 : List AIns := [⟨some 11, .mov (.t 5), none⟩,
  ⟨some 12, .mov (.t 0), none⟩,
  ⟨some 13, .len (.t 12), none⟩,
  ⟨some 14, .bin .lss (.t 11) (.t 13), none⟩]
def f35r5 : List AIns := [⟨some 17, .mov (.t 0), none⟩,
  ⟨some 18, .mov (.t 5), none⟩,
  ⟨some 19, .idxA 5 (.t 17) (.t 18), none⟩,
  ⟨some 20, .loadN 5 (.t 19), none⟩,
  ⟨some 21, .mov (.t 1), none⟩,
  ⟨some 22, .mov (.t 5), none⟩,
  ⟨some 23, .idxA 5 (.t 21) (.t 22), none⟩,
  ⟨some 24, .loadN 5 (.t 23), none⟩,
  ⟨some 25, .eqv true [.i, .i, .i, .i, .i] true (.t 20) (.t 24), none⟩]
def f35r6 : List AIns := [⟨some 4, .mov (.c (.bool false)), none⟩]
def f35r7 : List AIns := [⟨some 15, .mov (.t 5), none⟩,
  ⟨some 16, .bin .add (.t 15) (.c (.int .i64 1)), none⟩,
  ⟨some 5, .mov (.t 16), none⟩]
def f35l8 : ACode := (.seq (.seq (.reg f35r4) (.cond (.t 14) .skip (.exit 0))) (.seq (.block 1 (.seq (.regD f35r5 [(0, []), (1, []), (2, []), (3, []), (4, []), (5, []), (6, []), (7, []), (8, [])]) (.cond (.t 25) (.seq (.reg f35r6) .ret) .skip))) (.reg f35r7)))
def f35r9 : List AIns := [⟨some 4, .mov (.c (.bool true)), none⟩]
def f35b : ACode := (.seq (.reg f35r0) (.seq (.seq (.reg f35r1) (.cond (.t 10) (.seq (.reg f35r2) .ret) .skip)) (.seq (.seq (.reg f35r3) (.block 0 (.loop f35l8))) (.seq (.reg f35r9) .ret))))
def f35 : AFn := ⟨26, f35b, [.tmp 4], .pure⟩
theorem f35_is : cFn Try.prog .pure 35 = some f35 := by kernel_rfl

/-- bocage/bocageref14.Tidy -/
def f36r0 : List AIns := [⟨some 2, .box 25 (.t 0), none⟩,
  ⟨some 4, .mov (.c (.slice none 0 0)), none⟩]
def f36r1 : List AIns := [⟨some 8, .mov (.t 1), none⟩,
  ⟨some 9, .call (.c (.func (.func 34) #[] #[])) [(.t 8)], none⟩,
  ⟨some 10, .un .not (.t 9), none⟩]
def f36r2 : List AIns := [⟨some 4, .mov (.c (.slice none 0 0)), none⟩]
def f36r3 : List AIns := [⟨some 5, .mov (.c (.slice none 0 0)), none⟩]
def f36r4 : List AIns := [⟨some 6, .mov (.c (.int .i64 0)), none⟩]
def f36r5 : List AIns := [⟨some 11, .mov (.t 6), none⟩,
  ⟨some 12, .mov (.t 1), none⟩,
  ⟨some 13, .len (.t 12), none⟩,
  ⟨some 14, .bin .lss (.t 11) (.t 13), none⟩]
def f36r6 : List AIns := [⟨some 17, .addOff 1 (.t 2), none⟩,
  ⟨some 18, .load1 (.t 17), none⟩,
  ⟨some 19, .mov (.t 18), none⟩,
  ⟨some 20, .mov (.t 1), some (19, true)⟩,
  ⟨some 21, .mov (.t 6), some (19, true)⟩,
  ⟨some 22, .idxA 5 (.t 20) (.t 21), some (19, true)⟩,
  ⟨some 23, .addOff 4 (.t 22), some (19, true)⟩,
  ⟨some 24, .load1 (.t 23), some (19, true)⟩,
  ⟨some 25, .addOff 2 (.t 2), some (19, true)⟩,
  ⟨some 26, .load1 (.t 25), some (19, true)⟩,
  ⟨some 27, .bin .eql (.t 24) (.t 26), some (19, true)⟩,
  ⟨some 28, .pick (.t 19) (.t 27) (.c (.bool false)), none⟩]
def f36r7 : List AIns := [⟨some 29, .mov (.t 5), none⟩,
  ⟨some 30, .len (.t 29), none⟩,
  ⟨some 31, .bin .sub (.t 30) (.c (.int .i64 1)), none⟩,
  ⟨some 7, .mov (.t 31), none⟩]
def f36r8 : List AIns := [⟨some 32, .addOff 0 (.t 2), none⟩,
  ⟨some 33, .load1 (.t 32), none⟩,
  ⟨some 34, .bin .eql (.t 33) (.c (.int .i64 0)), none⟩,
  ⟨some 35, .mov (.t 34), none⟩,
  ⟨some 36, .mov (.t 7), some (35, true)⟩,
  ⟨some 37, .bin .geq (.t 36) (.c (.int .i64 0)), some (35, true)⟩,
  ⟨some 38, .pick (.t 35) (.t 37) (.c (.bool false)), none⟩,
  ⟨some 39, .mov (.t 38), none⟩,
  ⟨some 40, .mov (.t 5), some (39, true)⟩,
  ⟨some 41, .mov (.t 7), some (39, true)⟩,
  ⟨some 42, .idxA 5 (.t 40) (.t 41), some (39, true)⟩,
  ⟨some 43, .addOff 4 (.t 42), some (39, true)⟩,
  ⟨some 44, .load1 (.t 43), some (39, true)⟩,
  ⟨some 45, .mov (.t 1), some (39, true)⟩,
  ⟨some 46, .mov (.t 6), some (39, true)⟩,
  ⟨some 47, .idxA 5 (.t 45) (.t 46), some (39, true)⟩,
  ⟨some 48, .addOff 4 (.t 47), some (39, true)⟩,
  ⟨some 49, .load1 (.t 48), some (39, true)⟩,
  ⟨some 50, .bin .eql (.t 44) (.t 49), some (39, true)⟩,
  ⟨some 51, .pick (.t 39) (.t 50) (.c (.bool false)), none⟩,
  ⟨some 52, .mov (.t 51), none⟩,
  ⟨some 53, .mov (.t 5), some (52, true)⟩,
  ⟨some 54, .mov (.t 7), some (52, true)⟩,
  ⟨some 55, .idxA 5 (.t 53) (.t 54), some (52, true)⟩,
  ⟨some 56, .addOff 0 (.t 55), some (52, true)⟩,
  ⟨some 57, .addOff 2 (.t 56), some (52, true)⟩,
  ⟨some 58, .loadN 2 (.t 57), some (52, true)⟩,
  ⟨some 59, .mov (.t 1), some (52, true)⟩,
  ⟨some 60, .mov (.t 6), some (52, true)⟩,
  ⟨some 61, .idxA 5 (.t 59) (.t 60), some (52, true)⟩,
  ⟨some 62, .addOff 0 (.t 61), some (52, true)⟩,
  ⟨some 63, .addOff 0 (.t 62), some (52, true)⟩,
  ⟨some 64, .loadN 2 (.t 63), some (52, true)⟩,
  ⟨some 65, .eqv false [.i, .i] true (.t 58) (.t 64), some (52, true)⟩,
  ⟨some 66, .pick (.t 52) (.t 65) (.c (.bool false)), none⟩]
def f36r9 : List AIns := [⟨some 67, .mov (.t 5), none⟩,
  ⟨some 68, .mov (.t 7), none⟩,
  ⟨some 69, .mov (.t 5), none⟩,
  ⟨some 70, .mov (.t 7), none⟩,
  ⟨some 71, .idxA 5 (.t 69) (.t 70), none⟩,
  ⟨some 72, .addOff 0 (.t 71), none⟩,
  ⟨some 73, .addOff 0 (.t 72), none⟩,
  ⟨some 74, .loadN 2 (.t 73), none⟩,
  ⟨some 75, .mov (.t 1), none⟩,
  ⟨some 76, .mov (.t 6), none⟩,
  ⟨some 77, .idxA 5 (.t 75) (.t 76), none⟩,
  ⟨some 78, .addOff 0 (.t 77), none⟩,
  ⟨some 79, .addOff 2 (.t 78), none⟩,
  ⟨some 80, .loadN 2 (.t 79), none⟩,
  ⟨some 81, .build [(.int .i64 0), (.int .i64 0), (.int .i64 0), (.int .i64 0)] [(0, 2, (.t 74)), (2, 2, (.t 80))], none⟩,
  ⟨some 82, .idxA 5 (.t 67) (.t 68), none⟩,
  ⟨some 83, .addOff 0 (.t 82), none⟩,
  ⟨none, .store 4 (.t 83) (.t 81), none⟩]
def f36r10 : List AIns := [⟨some 84, .mov (.t 5), none⟩,
  ⟨some 85, .mov (.t 1), none⟩,
  ⟨some 86, .mov (.t 6), none⟩,
  ⟨some 87, .idxA 5 (.t 85) (.t 86), none⟩,
  ⟨some 88, .loadN 5 (.t 87), none⟩,
  ⟨some 89, .buildSlice 34 1 [(.int .i64 0), (.int .i64 0), (.int .i64 0), (.int .i64 0), (.int .i64 0)] [(0, 5, (.t 88))], none⟩,
  ⟨some 90, .append 34 5 40 (.t 84) (.t 89), none⟩,
  ⟨some 5, .mov (.t 90), none⟩]
def f36r11 : List AIns := [⟨some 15, .mov (.t 6), none⟩,
  ⟨some 16, .bin .add (.t 15) (.c (.int .i64 1)), none⟩,
  ⟨some 6, .mov (.t 16), none⟩]
def f36l12 : ACode := (.seq (.seq (.reg f36r5) (.cond (.t 14) .skip (.exit 0))) (.seq (.block 1 (.seq (.seq (.regD f36r6 [(0, []), (1, []), (2, []), (3, []), (4, []), (5, []), (6, []), (7, []), (8, []), (9, []), (10, []), (11, [])]) (.cond (.t 28) (.exit 1) .skip)) (.seq (.reg f36r7) (.seq (.regD f36r8 [(0, []), (1, []), (2, []), (3, []), (4, []), (5, []), (6, []), (7, []), (8, []), (9, []), (10, []), (11, []), (12, []), (13, []), (14, []), (15, []), (16, []), (17, []), (18, []), (19, []), (20, []), (21, []), (22, []), (23, []), (24, []), (25, []), (26, []), (27, []), (28, []), (29, []), (30, []), (31, []), (32, []), (33, []), (34, [])]) (.cond (.t 66) (.regD f36r9 [(0, []), (1, []), (2, []), (3, []), (4, []), (5, []), (6, []), (7, []), (8, []), (9, []), (10, []), (11, []), (12, []), (13, []), (14, []), (15, []), (16, []), (17, [])]) (.reg f36r10)))))) (.reg f36r11)))
def f36r13 : List AIns := [⟨some 91, .mov (.t 5), none⟩,
  ⟨some 4, .mov (.t 91), none⟩]
def f36b : ACode := (.seq (.reg f36r0) (.seq (.seq (.reg f36r1) (.cond (.t 10) (.seq (.reg f36r2) .ret) .skip)) (.seq (.reg f36r3) (.seq (.seq (.reg f36r4) (.block 0 (.loop f36l12))) (.seq (.reg f36r13) .ret)))))
def f36 : AFn := ⟨92, f36b, [.tmp 4], .pure⟩
theorem f36_is : cFn Try.prog .pure 36 = some f36 := by kernel_rfl

/-- bocage/bocageref03.Sorted -/
def f37r0 : List AIns := [⟨some 2, .mov (.c (.bool false)), none⟩]
def f37r1 : List AIns := [⟨some 3, .mov (.c (.int .i64 0)), none⟩]
def f37r2 : List AIns := [⟨some 4, .mov (.t 3), none⟩,
  ⟨some 5, .mov (.t 0), none⟩,
  ⟨some 6, .len (.t 5), none⟩,
  ⟨some 7, .bin .lss (.t 4) (.t 6), none⟩]
def f37r3 : List AIns := [⟨some 10, .mov (.t 0), none⟩,
  ⟨some 11, .mov (.t 3), none⟩,
  ⟨some 12, .idxA 4 (.t 10) (.t 11), none⟩,
  ⟨some 13, .loadN 4 (.t 12), none⟩,
  ⟨some 14, .call (.c (.func (.func 47) #[] #[])) [(.t 13)], none⟩,
  ⟨some 15, .un .not (.t 14), none⟩,
  ⟨some 16, .mov (.t 15), none⟩,
  ⟨some 17, .mov (.t 3), some (16, false)⟩,
  ⟨some 18, .bin .gtr (.t 17) (.c (.int .i64 0)), some (16, false)⟩,
  ⟨some 19, .mov (.t 18), some (16, false)⟩,
  ⟨some 20, .mov (.t 0), some (19, true)⟩,
  ⟨some 21, .mov (.t 3), some (19, true)⟩,
  ⟨some 22, .idxA 4 (.t 20) (.t 21), some (19, true)⟩,
  ⟨some 23, .addOff 0 (.t 22), some (19, true)⟩,
  ⟨some 24, .loadN 2 (.t 23), some (19, true)⟩,
  ⟨some 25, .mov (.t 0), some (19, true)⟩,
  ⟨some 26, .mov (.t 3), some (19, true)⟩,
  ⟨some 27, .bin .sub (.t 26) (.c (.int .i64 1)), some (19, true)⟩,
  ⟨some 28, .idxA 4 (.t 25) (.t 27), some (19, true)⟩,
  ⟨some 29, .addOff 2 (.t 28), some (19, true)⟩,
  ⟨some 30, .loadN 2 (.t 29), some (19, true)⟩,
  ⟨some 31, .call (.c (.func (.func 48) #[] #[])) [(.t 24), (.t 30)], some (19, true)⟩,
  ⟨some 32, .pick (.t 19) (.t 31) (.c (.bool false)), some (16, false)⟩,
  ⟨some 33, .pick (.t 16) (.c (.bool true)) (.t 32), none⟩]
def f37r4 : List AIns := [⟨some 2, .mov (.c (.bool false)), none⟩]
def f37r5 : List AIns := [⟨some 8, .mov (.t 3), none⟩,
  ⟨some 9, .bin .add (.t 8) (.c (.int .i64 1)), none⟩,
  ⟨some 3, .mov (.t 9), none⟩]
def f37l6 : ACode := (.seq (.seq (.reg f37r2) (.cond (.t 7) .skip (.exit 0))) (.seq (.block 1 (.seq (.regD f37r3 [(0, []), (1, []), (2, []), (3, []), (4, []), (5, []), (6, []), (7, []), (8, []), (9, []), (10, []), (11, []), (12, []), (13, []), (14, []), (15, []), (16, []), (17, []), (18, []), (19, []), (20, []), (21, []), (22, []), (23, [])]) (.cond (.t 33) (.seq (.reg f37r4) .ret) .skip))) (.reg f37r5)))
def f37r7 : List AIns := [⟨some 2, .mov (.c (.bool true)), none⟩]
def f37b : ACode := (.seq (.reg f37r0) (.seq (.seq (.reg f37r1) (.block 0 (.loop f37l6))) (.seq (.reg f37r7) .ret)))
def f37 : AFn := ⟨34, f37b, [.tmp 2], .pure⟩
theorem f37_is : cFn Try.prog .pure 37 = some f37 := by kernel_rfl

/-- (*bocage/codec.reader).on -/
def f38r0 : List AIns := [⟨some 4, .mov (.t 0), none⟩,
  ⟨some 5, .mov (.t 0), none⟩,
  ⟨some 6, .nilCheck (.t 5), none⟩,
  ⟨some 7, .addOff 2 (.t 6), none⟩,
  ⟨some 8, .load1 (.t 7), none⟩,
  ⟨some 9, .mov (.t 8), none⟩,
  ⟨some 10, .mov (.t 1), some (9, false)⟩,
  ⟨some 11, .bin .eql (.t 10) (.c (.int .i64 0)), some (9, false)⟩,
  ⟨some 12, .pick (.t 9) (.c (.bool true)) (.t 11), none⟩,
  ⟨some 13, .nilCheck (.t 4), none⟩,
  ⟨some 14, .addOff 2 (.t 13), none⟩,
  ⟨none, .store 1 (.t 14) (.t 12), none⟩]
def f38r1 : List AIns := [⟨some 15, .mov (.t 0), none⟩,
  ⟨some 16, .nilCheck (.t 15), none⟩,
  ⟨some 17, .addOff 2 (.t 16), none⟩,
  ⟨some 18, .load1 (.t 17), none⟩,
  ⟨some 19, .un .not (.t 18), none⟩]
def f38r2 : List AIns := [⟨some 20, .mov (.t 0), none⟩,
  ⟨some 21, .nilCheck (.t 20), none⟩,
  ⟨some 22, .addOff 1 (.t 21), none⟩,
  ⟨some 23, .load1 (.t 22), none⟩,
  ⟨some 24, .mov (.t 1), none⟩,
  ⟨some 25, .bin .add (.t 23) (.t 24), none⟩,
  ⟨some 26, .nilCheck (.t 20), none⟩,
  ⟨some 27, .addOff 1 (.t 26), none⟩,
  ⟨none, .store 1 (.t 27) (.t 25), none⟩]
def f38b : ACode := (.seq (.reg f38r0) (.seq (.reg f38r1) (.cond (.t 19) (.reg f38r2) .skip)))
def f38 : AFn := ⟨28, f38b, [], .plain⟩
theorem f38_is : cFn Try.prog .plain 38 = some f38 := by kernel_rfl

/-- slices.Contains[[]byte,byte] -/
def f39r0 : List AIns := [⟨some 4, .mov (.c (.bool false)), none⟩]
def f39r1 : List AIns := [⟨some 5, .mov (.t 0), none⟩,
  ⟨some 6, .mov (.t 1), none⟩,
  ⟨some 7, .call (.c (.func (.func 49) #[] #[])) [(.t 5), (.t 6)], none⟩,
  ⟨some 8, .bin .geq (.t 7) (.c (.int .i64 0)), none⟩,
  ⟨some 4, .mov (.t 8), none⟩]
def f39b : ACode := (.seq (.reg f39r0) (.seq (.reg f39r1) .ret))
def f39 : AFn := ⟨9, f39b, [.tmp 4], .pure⟩
theorem f39_is : cFn Try.prog .pure 39 = some f39 := by kernel_rfl

/-- (*bocage/codec.reader).cut -/
def f40r0 : List AIns := [⟨some 2, .alloc 30 [(.int .i64 0), (.int .i64 0)], none⟩]
def f40r1 : List AIns := [⟨some 6, .mov (.t 0), none⟩,
  ⟨some 7, .nilCheck (.t 6), none⟩,
  ⟨some 8, .addOff 0 (.t 7), none⟩,
  ⟨some 9, .load1 (.t 8), none⟩,
  ⟨some 10, .mov (.t 0), none⟩,
  ⟨some 11, .nilCheck (.t 10), none⟩,
  ⟨some 12, .addOff 1 (.t 11), none⟩,
  ⟨some 13, .load1 (.t 12), none⟩,
  ⟨some 14, .slice 5 1 (.t 9) (some (.t 13)) none none, none⟩,
  ⟨some 15, .call (.c (.func (.func 50) #[] #[])) [(.t 14)], none⟩,
  ⟨some 5, .mov (.t 15), none⟩,
  ⟨some 16, .extract (.t 5) 0, none⟩,
  ⟨some 17, .extract (.t 5) 1, none⟩,
  ⟨some 3, .alloc 30 [(.int .i64 0), (.int .i64 0)], none⟩,
  ⟨none, .store 2 (.t 3) (.t 16), none⟩,
  ⟨some 4, .mov (.t 17), none⟩]
def f40r2 : List AIns := [⟨some 18, .mov (.t 0), none⟩,
  ⟨some 19, .mov (.t 4), none⟩,
  ⟨some 20, .call (.c (.func (.func 38) #[] #[])) [(.t 18), (.t 19)], none⟩]
def f40r3 : List AIns := [⟨some 21, .loadN 2 (.t 3), none⟩,
  ⟨none, .store 2 (.t 2) (.t 21), none⟩]
def f40b : ACode := (.seq (.reg f40r0) (.seq (.regD f40r1 [(0, []), (1, []), (2, []), (3, []), (4, []), (5, []), (6, []), (7, []), (8, []), (13, []), (9, []), (10, []), (11, []), (12, []), (14, []), (15, [])]) (.seq (.reg f40r2) (.seq (.reg f40r3) .ret))))
def f40 : AFn := ⟨22, f40b, [.cellN 2 2], .plain⟩
theorem f40_is : cFn Try.prog .plain 40 = some f40 := by kernel_rfl

/-- bocage/span.Right -/
def f41r0 : List AIns := [⟨some 1, .box 32 (.t 0), none⟩,
  ⟨some 2, .mov (.c (.bool false)), none⟩]
def f41r1 : List AIns := [⟨some 3, .addOff 0 (.t 1), none⟩,
  ⟨some 4, .loadN 2 (.t 3), none⟩,
  ⟨some 5, .call (.c (.func (.func 51) #[] #[])) [(.t 4)], none⟩,
  ⟨some 6, .mov (.t 5), none⟩,
  ⟨some 7, .addOff 2 (.t 1), some (6, true)⟩,
  ⟨some 8, .loadN 2 (.t 7), some (6, true)⟩,
  ⟨some 9, .call (.c (.func (.func 51) #[] #[])) [(.t 8)], some (6, true)⟩,
  ⟨some 10, .pick (.t 6) (.t 9) (.c (.bool false)), none⟩,
  ⟨some 11, .mov (.t 10), none⟩,
  ⟨some 12, .addOff 0 (.t 1), some (11, true)⟩,
  ⟨some 13, .loadN 2 (.t 12), some (11, true)⟩,
  ⟨some 14, .addOff 2 (.t 1), some (11, true)⟩,
  ⟨some 15, .loadN 2 (.t 14), some (11, true)⟩,
  ⟨some 16, .call (.c (.func (.func 42) #[] #[])) [(.t 13), (.t 15)], some (11, true)⟩,
  ⟨some 17, .bin .lss (.t 16) (.c (.int .i64 0)), some (11, true)⟩,
  ⟨some 18, .pick (.t 11) (.t 17) (.c (.bool false)), none⟩,
  ⟨some 2, .mov (.t 18), none⟩]
def f41b : ACode := (.seq (.reg f41r0) (.seq (.reg f41r1) .ret))
def f41 : AFn := ⟨19, f41b, [.tmp 2], .pure⟩
theorem f41_is : cFn Try.prog .pure 41 = some f41 := by kernel_rfl

/-- bocage/cut.Compare -/
def f42r0 : List AIns := [⟨some 2, .box 30 (.t 0), none⟩,
  ⟨some 3, .box 30 (.t 1), none⟩,
  ⟨some 4, .mov (.c (.int .i64 0)), none⟩]
def f42r1 : List AIns := [⟨some 5, .loadN 2 (.t 2), none⟩,
  ⟨some 6, .call (.c (.func (.func 32) #[] #[])) [(.t 5)], none⟩,
  ⟨some 7, .loadN 2 (.t 3), none⟩,
  ⟨some 8, .call (.c (.func (.func 32) #[] #[])) [(.t 7)], none⟩,
  ⟨none, .store 2 (.t 2) (.t 6), none⟩,
  ⟨none, .store 2 (.t 3) (.t 8), none⟩]
def f42r2 : List AIns := [⟨some 9, .addOff 0 (.t 2), none⟩,
  ⟨some 10, .load1 (.t 9), none⟩,
  ⟨some 11, .addOff 0 (.t 3), none⟩,
  ⟨some 12, .load1 (.t 11), none⟩,
  ⟨some 13, .call (.c (.func (.func 53) #[] #[])) [(.t 10), (.t 12)], none⟩,
  ⟨some 14, .addOff 1 (.t 2), none⟩,
  ⟨some 15, .load1 (.t 14), none⟩,
  ⟨some 16, .addOff 1 (.t 3), none⟩,
  ⟨some 17, .load1 (.t 16), none⟩,
  ⟨some 18, .call (.c (.func (.func 54) #[] #[])) [(.t 15), (.t 17)], none⟩,
  ⟨some 19, .buildSlice 3 2 [(.int .i64 0), (.int .i64 0)] [(0, 1, (.t 13)), (1, 1, (.t 18))], none⟩,
  ⟨some 20, .call (.c (.func (.func 52) #[] #[])) [(.t 19)], none⟩,
  ⟨some 4, .mov (.t 20), none⟩]
def f42b : ACode := (.seq (.reg f42r0) (.seq (.regD f42r1 [(0, []), (2, []), (1, [2]), (3, []), (4, []), (5, [])]) (.seq (.regD f42r2 [(0, []), (1, []), (2, []), (3, []), (5, []), (6, []), (7, []), (8, []), (4, [8, 6]), (9, []), (10, []), (11, []), (12, [])]) .ret)))
def f42 : AFn := ⟨21, f42b, [.tmp 4], .pure⟩
theorem f42_is : cFn Try.prog .pure 42 = some f42 := by kernel_rfl

/-- bocage/span.both -/
def f43r0 : List AIns := [⟨some 2, .box 32 (.t 0), none⟩,
  ⟨some 3, .box 32 (.t 1), none⟩,
  ⟨some 4, .mov (.c (.bool false)), none⟩]
def f43r1 : List AIns := [⟨some 5, .loadN 4 (.t 2), none⟩,
  ⟨some 6, .call (.c (.func (.func 41) #[] #[])) [(.t 5)], none⟩,
  ⟨some 7, .mov (.t 6), none⟩,
  ⟨some 8, .loadN 4 (.t 3), some (7, true)⟩,
  ⟨some 9, .call (.c (.func (.func 41) #[] #[])) [(.t 8)], some (7, true)⟩,
  ⟨some 10, .pick (.t 7) (.t 9) (.c (.bool false)), none⟩,
  ⟨some 4, .mov (.t 10), none⟩]
def f43b : ACode := (.seq (.reg f43r0) (.seq (.reg f43r1) .ret))
def f43 : AFn := ⟨11, f43b, [.tmp 4], .pure⟩
theorem f43_is : cFn Try.prog .pure 43 = some f43 := by kernel_rfl

/-- bocage/cut.First -/
def f44r0 : List AIns := [⟨some 0, .alloc 30 [(.int .i64 0), (.int .i64 0)], none⟩]
def f44r1 : List AIns := [⟨some 1, .build [(.int .i64 0), (.int .i64 0)] [(0, 1, (.c (.int .i64 (-1))))], none⟩,
  ⟨none, .store 2 (.t 0) (.t 1), none⟩]
def f44b : ACode := (.seq (.reg f44r0) (.seq (.reg f44r1) .ret))
def f44 : AFn := ⟨2, f44b, [.cellN 0 2], .pure⟩
theorem f44_is : cFn Try.prog .pure 44 = some f44 := by kernel_rfl

/-- bocage/cut.Last -/
def f45r0 : List AIns := [⟨some 0, .alloc 30 [(.int .i64 0), (.int .i64 0)], none⟩]
def f45r1 : List AIns := [⟨some 1, .build [(.int .i64 0), (.int .i64 0)] [(0, 1, (.c (.int .i64 1)))], none⟩,
  ⟨none, .store 2 (.t 0) (.t 1), none⟩]
def f45b : ACode := (.seq (.reg f45r0) (.seq (.reg f45r1) .ret))
def f45 : AFn := ⟨2, f45b, [.cellN 0 2], .pure⟩
theorem f45_is : cFn Try.prog .pure 45 = some f45 := by kernel_rfl

/-- bocage/bocageref02.Least64 -/
def f46r0 : List AIns := [⟨some 0, .mov (.c (.int .i64 0)), none⟩]
def f46r1 : List AIns := [⟨some 0, .mov (.c (.int .i64 (-9223372036854775808))), none⟩]
def f46b : ACode := (.seq (.reg f46r0) (.seq (.reg f46r1) .ret))
def f46 : AFn := ⟨1, f46b, [.tmp 0], .pure⟩
theorem f46_is : cFn Try.prog .pure 46 = some f46 := by kernel_rfl

/-- bocage/bocageref03.Right -/
def f47r0 : List AIns := [⟨some 1, .box 32 (.t 0), none⟩,
  ⟨some 2, .mov (.c (.bool false)), none⟩]
def f47r1 : List AIns := [⟨some 3, .addOff 0 (.t 1), none⟩,
  ⟨some 4, .loadN 2 (.t 3), none⟩,
  ⟨some 5, .call (.c (.func (.func 33) #[] #[])) [(.t 4)], none⟩,
  ⟨some 6, .addOff 0 (.t 1), none⟩,
  ⟨some 7, .loadN 2 (.t 6), none⟩,
  ⟨some 8, .eqv false [.i, .i] true (.t 5) (.t 7), none⟩,
  ⟨some 9, .mov (.t 8), none⟩,
  ⟨some 10, .addOff 2 (.t 1), some (9, true)⟩,
  ⟨some 11, .loadN 2 (.t 10), some (9, true)⟩,
  ⟨some 12, .call (.c (.func (.func 33) #[] #[])) [(.t 11)], some (9, true)⟩,
  ⟨some 13, .addOff 2 (.t 1), some (9, true)⟩,
  ⟨some 14, .loadN 2 (.t 13), some (9, true)⟩,
  ⟨some 15, .eqv false [.i, .i] true (.t 12) (.t 14), some (9, true)⟩,
  ⟨some 16, .pick (.t 9) (.t 15) (.c (.bool false)), none⟩,
  ⟨some 17, .mov (.t 16), none⟩,
  ⟨some 18, .addOff 0 (.t 1), some (17, true)⟩,
  ⟨some 19, .loadN 2 (.t 18), some (17, true)⟩,
  ⟨some 20, .addOff 2 (.t 1), some (17, true)⟩,
  ⟨some 21, .loadN 2 (.t 20), some (17, true)⟩,
  ⟨some 22, .call (.c (.func (.func 48) #[] #[])) [(.t 19), (.t 21)], some (17, true)⟩,
  ⟨some 23, .pick (.t 17) (.t 22) (.c (.bool false)), none⟩,
  ⟨some 2, .mov (.t 23), none⟩]
def f47b : ACode := (.seq (.reg f47r0) (.seq (.regD f47r1 [(0, []), (1, []), (3, []), (4, []), (2, [4]), (5, []), (6, []), (7, []), (8, []), (10, []), (11, []), (9, [11]), (12, []), (13, []), (14, []), (15, []), (16, []), (17, []), (18, []), (19, []), (20, []), (21, [])]) .ret))
def f47 : AFn := ⟨24, f47b, [.tmp 2], .pure⟩
theorem f47_is : cFn Try.prog .pure 47 = some f47 := by kernel_rfl

/-- bocage/bocageref02.Less -/
def f48r0 : List AIns := [⟨some 2, .box 30 (.t 0), none⟩,
  ⟨some 3, .box 30 (.t 1), none⟩,
  ⟨some 4, .mov (.c (.bool false)), none⟩]
def f48r1 : List AIns := [⟨some 5, .loadN 2 (.t 2), none⟩,
  ⟨some 6, .call (.c (.func (.func 33) #[] #[])) [(.t 5)], none⟩,
  ⟨none, .store 2 (.t 2) (.t 6), none⟩]
def f48r2 : List AIns := [⟨some 7, .loadN 2 (.t 3), none⟩,
  ⟨some 8, .call (.c (.func (.func 33) #[] #[])) [(.t 7)], none⟩,
  ⟨none, .store 2 (.t 3) (.t 8), none⟩]
def f48r3 : List AIns := [⟨some 9, .addOff 0 (.t 2), none⟩,
  ⟨some 10, .load1 (.t 9), none⟩,
  ⟨some 11, .addOff 0 (.t 3), none⟩,
  ⟨some 12, .load1 (.t 11), none⟩,
  ⟨some 13, .bin .neq (.t 10) (.t 12), none⟩]
def f48r4 : List AIns := [⟨some 14, .addOff 0 (.t 2), none⟩,
  ⟨some 15, .load1 (.t 14), none⟩,
  ⟨some 16, .addOff 0 (.t 3), none⟩,
  ⟨some 17, .load1 (.t 16), none⟩,
  ⟨some 18, .bin .lss (.t 15) (.t 17), none⟩,
  ⟨some 4, .mov (.t 18), none⟩]
def f48r5 : List AIns := [⟨some 19, .addOff 1 (.t 2), none⟩,
  ⟨some 20, .load1 (.t 19), none⟩,
  ⟨some 21, .addOff 1 (.t 3), none⟩,
  ⟨some 22, .load1 (.t 21), none⟩,
  ⟨some 23, .bin .lss (.t 20) (.t 22), none⟩,
  ⟨some 4, .mov (.t 23), none⟩]
def f48b : ACode := (.seq (.reg f48r0) (.seq (.reg f48r1) (.seq (.reg f48r2) (.seq (.seq (.reg f48r3) (.cond (.t 13) (.seq (.reg f48r4) .ret) .skip)) (.seq (.reg f48r5) .ret)))))
def f48 : AFn := ⟨24, f48b, [.tmp 4], .pure⟩
theorem f48_is : cFn Try.prog .pure 48 = some f48 := by kernel_rfl

/-- slices.Index[[]byte,byte] -/
def f49r0 : List AIns := [⟨some 4, .mov (.c (.int .i64 0)), none⟩]
def f49r1 : List AIns := [⟨some 6, .mov (.t 0), none⟩,
  ⟨some 7, .len (.t 6), none⟩,
  ⟨some 8, .mov (.c (.int .i64 0)), none⟩]
def f49r2 : List AIns := [⟨some 9, .bin .lss (.t 8) (.t 7), none⟩]
def f49r3 : List AIns := [⟨some 10, .mov (.t 8), none⟩,
  ⟨some 5, .mov (.t 10), none⟩]
def f49r4 : List AIns := [⟨some 11, .mov (.t 1), none⟩,
  ⟨some 12, .mov (.t 0), none⟩,
  ⟨some 13, .mov (.t 5), none⟩,
  ⟨some 14, .idxA 1 (.t 12) (.t 13), none⟩,
  ⟨some 15, .load1 (.t 14), none⟩,
  ⟨some 16, .bin .eql (.t 11) (.t 15), none⟩]
def f49r5 : List AIns := [⟨some 17, .mov (.t 5), none⟩,
  ⟨some 4, .mov (.t 17), none⟩]
def f49r6 : List AIns := [⟨some 18, .bin .add (.t 8) (.c (.int .i64 1)), none⟩,
  ⟨some 8, .mov (.t 18), none⟩]
def f49l7 : ACode := (.seq (.reg f49r2) (.seq (.cond (.t 9) .skip (.exit 0)) (.seq (.block 1 (.seq (.reg f49r3) (.seq (.reg f49r4) (.cond (.t 16) (.seq (.reg f49r5) .ret) .skip)))) (.reg f49r6))))
def f49r8 : List AIns := [⟨some 4, .mov (.c (.int .i64 (-1))), none⟩]
def f49b : ACode := (.seq (.reg f49r0) (.seq (.seq (.reg f49r1) (.block 0 (.loop f49l7))) (.seq (.reg f49r8) .ret)))
def f49 : AFn := ⟨19, f49b, [.tmp 4], .pure⟩
theorem f49_is : cFn Try.prog .pure 49 = some f49 := by kernel_rfl

/-- bocage/codec.ReadCut -/
def f50r0 : List AIns := [⟨some 2, .alloc 30 [(.int .i64 0), (.int .i64 0)], none⟩,
  ⟨some 3, .mov (.c (.int .i64 0)), none⟩]
def f50r1 : List AIns := [⟨some 8, .mov (.t 0), none⟩,
  ⟨some 9, .len (.t 8), none⟩,
  ⟨some 10, .bin .eql (.t 9) (.c (.int .i64 0)), none⟩,
  ⟨some 7, .mov (.t 10), none⟩]
def f50r2 : List AIns := [⟨some 11, .build [(.int .i64 0), (.int .i64 0)] [], none⟩,
  ⟨none, .store 2 (.t 2) (.t 11), none⟩,
  ⟨some 3, .mov (.c (.int .i64 0)), none⟩]
def f50r3 : List AIns := [⟨some 13, .mov (.t 0), none⟩,
  ⟨some 14, .idxA 1 (.t 13) (.c (.int .i64 0)), none⟩,
  ⟨some 15, .load1 (.t 14), none⟩,
  ⟨some 16, .bin .eql (.t 15) (.c (.int .u8 0)), none⟩,
  ⟨some 12, .mov (.t 16), none⟩]
def f50r4 : List AIns := [⟨some 17, .call (.c (.func (.func 44) #[] #[])) [], none⟩,
  ⟨none, .store 2 (.t 2) (.t 17), none⟩,
  ⟨some 3, .mov (.c (.int .i64 1)), none⟩]
def f50r5 : List AIns := [⟨some 19, .mov (.t 0), none⟩,
  ⟨some 20, .idxA 1 (.t 19) (.c (.int .i64 0)), none⟩,
  ⟨some 21, .load1 (.t 20), none⟩,
  ⟨some 22, .bin .eql (.t 21) (.c (.int .u8 2)), none⟩,
  ⟨some 18, .mov (.t 22), none⟩]
def f50r6 : List AIns := [⟨some 23, .call (.c (.func (.func 45) #[] #[])) [], none⟩,
  ⟨none, .store 2 (.t 2) (.t 23), none⟩,
  ⟨some 3, .mov (.c (.int .i64 1)), none⟩]
def f50r7 : List AIns := [⟨some 25, .mov (.t 0), none⟩,
  ⟨some 26, .slice 5 1 (.t 25) (some (.c (.int .i64 1))) none none, none⟩,
  ⟨some 27, .call (.c (.func (.func 11) #[] #[])) [(.t 26)], none⟩,
  ⟨some 24, .mov (.t 27), none⟩,
  ⟨some 28, .extract (.t 24) 0, none⟩,
  ⟨some 29, .extract (.t 24) 1, none⟩,
  ⟨some 4, .mov (.t 28), none⟩,
  ⟨some 5, .mov (.t 29), none⟩]
def f50r8 : List AIns := [⟨some 30, .mov (.t 4), none⟩,
  ⟨some 31, .build [(.int .i64 0), (.int .i64 0)] [(1, 1, (.t 30))], none⟩,
  ⟨some 6, .alloc 30 [(.int .i64 0), (.int .i64 0)], none⟩,
  ⟨none, .store 2 (.t 6) (.t 31), none⟩]
def f50r9 : List AIns := [⟨some 32, .mov (.t 0), none⟩,
  ⟨some 33, .idxA 1 (.t 32) (.c (.int .i64 0)), none⟩,
  ⟨some 34, .load1 (.t 33), none⟩,
  ⟨some 35, .bin .neq (.t 34) (.c (.int .u8 1)), none⟩,
  ⟨some 36, .mov (.t 35), none⟩,
  ⟨some 37, .mov (.t 5), some (36, false)⟩,
  ⟨some 38, .bin .eql (.t 37) (.c (.int .i64 0)), some (36, false)⟩,
  ⟨some 39, .pick (.t 36) (.c (.bool true)) (.t 38), none⟩,
  ⟨some 40, .mov (.t 39), none⟩,
  ⟨some 41, .loadN 2 (.t 6), some (40, false)⟩,
  ⟨some 42, .call (.c (.func (.func 51) #[] #[])) [(.t 41)], some (40, false)⟩,
  ⟨some 43, .un .not (.t 42), some (40, false)⟩,
  ⟨some 44, .pick (.t 40) (.c (.bool true)) (.t 43), none⟩]
def f50r10 : List AIns := [⟨some 45, .build [(.int .i64 0), (.int .i64 0)] [], none⟩,
  ⟨none, .store 2 (.t 2) (.t 45), none⟩,
  ⟨some 3, .mov (.c (.int .i64 0)), none⟩]
def f50r11 : List AIns := [⟨some 46, .loadN 2 (.t 6), none⟩,
  ⟨some 47, .mov (.t 5), none⟩,
  ⟨some 48, .bin .add (.c (.int .i64 1)) (.t 47), none⟩,
  ⟨none, .store 2 (.t 2) (.t 46), none⟩,
  ⟨some 3, .mov (.t 48), none⟩]
def f50b : ACode := (.seq (.reg f50r0) (.seq (.block 0 (.seq (.reg f50r1) (.cond (.t 7) (.seq (.reg f50r2) .ret) (.seq (.reg f50r3) (.cond (.t 12) (.seq (.reg f50r4) .ret) (.seq (.reg f50r5) (.cond (.t 18) (.seq (.reg f50r6) .ret) .skip))))))) (.seq (.reg f50r7) (.seq (.reg f50r8) (.seq (.seq (.reg f50r9) (.cond (.t 44) (.seq (.reg f50r10) .ret) .skip)) (.seq (.reg f50r11) .ret))))))
def f50 : AFn := ⟨49, f50b, [.cellN 2 2, .tmp 3], .pure⟩
theorem f50_is : cFn Try.prog .pure 50 = some f50 := by kernel_rfl

/-- bocage/cut.Right -/
def f51r0 : List AIns := [⟨some 1, .box 30 (.t 0), none⟩,
  ⟨some 2, .mov (.c (.bool false)), none⟩]
def f51r1 : List AIns := [⟨some 3, .loadN 2 (.t 1), none⟩,
  ⟨some 4, .call (.c (.func (.func 32) #[] #[])) [(.t 3)], none⟩,
  ⟨some 5, .loadN 2 (.t 1), none⟩,
  ⟨some 6, .eqv false [.i, .i] true (.t 4) (.t 5), none⟩,
  ⟨some 2, .mov (.t 6), none⟩]
def f51b : ACode := (.seq (.reg f51r0) (.seq (.regD f51r1 [(0, []), (2, []), (1, [2]), (3, []), (4, [])]) .ret))
def f51 : AFn := ⟨7, f51b, [.tmp 2], .pure⟩
theorem f51_is : cFn Try.prog .pure 51 = some f51 := by kernel_rfl

/-- cmp.Or[int] -/
def f52r0 : List AIns := [⟨some 2, .mov (.c (.int .i64 0)), none⟩]
def f52r1 : List AIns := [⟨some 3, .mov (.c (.int .i64 0)), none⟩]
def f52r2 : List AIns := [⟨some 6, .mov (.t 0), none⟩,
  ⟨some 7, .len (.t 6), none⟩,
  ⟨some 8, .mov (.c (.int .i64 0)), none⟩]
def f52r3 : List AIns := [⟨some 9, .bin .lss (.t 8) (.t 7), none⟩]
def f52r4 : List AIns := [⟨some 10, .idxA 1 (.t 6) (.t 8), none⟩,
  ⟨some 11, .load1 (.t 10), none⟩,
  ⟨some 5, .mov (.t 11), none⟩]
def f52r5 : List AIns := [⟨some 12, .mov (.t 5), none⟩,
  ⟨some 13, .mov (.t 3), none⟩,
  ⟨some 14, .bin .neq (.t 12) (.t 13), none⟩]
def f52r6 : List AIns := [⟨some 15, .mov (.t 5), none⟩,
  ⟨some 2, .mov (.t 15), none⟩]
def f52r7 : List AIns := [⟨some 16, .bin .add (.t 8) (.c (.int .i64 1)), none⟩,
  ⟨some 8, .mov (.t 16), none⟩]
def f52l8 : ACode := (.seq (.reg f52r3) (.seq (.cond (.t 9) .skip (.exit 0)) (.seq (.block 1 (.seq (.reg f52r4) (.seq (.reg f52r5) (.cond (.t 14) (.seq (.reg f52r6) .ret) .skip)))) (.reg f52r7))))
def f52r9 : List AIns := [⟨some 17, .mov (.t 3), none⟩,
  ⟨some 2, .mov (.t 17), none⟩]
def f52b : ACode := (.seq (.reg f52r0) (.seq (.reg f52r1) (.seq (.seq (.reg f52r2) (.block 0 (.loop f52l8))) (.seq (.reg f52r9) .ret))))
def f52 : AFn := ⟨18, f52b, [.tmp 2], .pure⟩
theorem f52_is : cFn Try.prog .pure 52 = some f52 := by kernel_rfl

/-- cmp.Compare[int] -/
def f53r0 : List AIns := [⟨some 4, .mov (.c (.int .i64 0)), none⟩]
def f53r1 : List AIns := [⟨some 7, .mov (.t 0), none⟩,
  ⟨some 8, .call (.c (.func (.func 55) #[] #[])) [(.t 7)], none⟩,
  ⟨some 5, .mov (.t 8), none⟩]
def f53r2 : List AIns := [⟨some 9, .mov (.t 1), none⟩,
  ⟨some 10, .call (.c (.func (.func 55) #[] #[])) [(.t 9)], none⟩,
  ⟨some 6, .mov (.t 10), none⟩]
def f53r3 : List AIns := [⟨some 11, .mov (.t 5), none⟩]
def f53r4 : List AIns := [⟨some 12, .mov (.t 6), none⟩]
def f53r5 : List AIns := [⟨some 4, .mov (.c (.int .i64 0)), none⟩]
def f53r6 : List AIns := [⟨some 4, .mov (.c (.int .i64 (-1))), none⟩]
def f53r7 : List AIns := [⟨some 13, .mov (.t 6), none⟩]
def f53r8 : List AIns := [⟨some 4, .mov (.c (.int .i64 1)), none⟩]
def f53r9 : List AIns := [⟨some 14, .mov (.t 0), none⟩,
  ⟨some 15, .mov (.t 1), none⟩,
  ⟨some 16, .bin .lss (.t 14) (.t 15), none⟩]
def f53r10 : List AIns := [⟨some 4, .mov (.c (.int .i64 (-1))), none⟩]
def f53r11 : List AIns := [⟨some 17, .mov (.t 0), none⟩,
  ⟨some 18, .mov (.t 1), none⟩,
  ⟨some 19, .bin .gtr (.t 17) (.t 18), none⟩]
def f53r12 : List AIns := [⟨some 4, .mov (.c (.int .i64 1)), none⟩]
def f53r13 : List AIns := [⟨some 4, .mov (.c (.int .i64 0)), none⟩]
def f53b : ACode := (.seq (.reg f53r0) (.seq (.reg f53r1) (.seq (.reg f53r2) (.seq (.seq (.reg f53r3) (.cond (.t 11) (.seq (.seq (.reg f53r4) (.cond (.t 12) (.seq (.reg f53r5) .ret) .skip)) (.seq (.reg f53r6) .ret)) .skip)) (.seq (.seq (.reg f53r7) (.cond (.t 13) (.seq (.reg f53r8) .ret) .skip)) (.seq (.seq (.reg f53r9) (.cond (.t 16) (.seq (.reg f53r10) .ret) .skip)) (.seq (.seq (.reg f53r11) (.cond (.t 19) (.seq (.reg f53r12) .ret) .skip)) (.seq (.reg f53r13) .ret))))))))
def f53 : AFn := ⟨20, f53b, [.tmp 4], .pure⟩
theorem f53_is : cFn Try.prog .pure 53 = some f53 := by kernel_rfl

/-- cmp.Compare[int64] -/
def f54r0 : List AIns := [⟨some 4, .mov (.c (.int .i64 0)), none⟩]
def f54r1 : List AIns := [⟨some 7, .mov (.t 0), none⟩,
  ⟨some 8, .call (.c (.func (.func 56) #[] #[])) [(.t 7)], none⟩,
  ⟨some 5, .mov (.t 8), none⟩]
def f54r2 : List AIns := [⟨some 9, .mov (.t 1), none⟩,
  ⟨some 10, .call (.c (.func (.func 56) #[] #[])) [(.t 9)], none⟩,
  ⟨some 6, .mov (.t 10), none⟩]
def f54r3 : List AIns := [⟨some 11, .mov (.t 5), none⟩]
def f54r4 : List AIns := [⟨some 12, .mov (.t 6), none⟩]
def f54r5 : List AIns := [⟨some 4, .mov (.c (.int .i64 0)), none⟩]
def f54r6 : List AIns := [⟨some 4, .mov (.c (.int .i64 (-1))), none⟩]
def f54r7 : List AIns := [⟨some 13, .mov (.t 6), none⟩]
def f54r8 : List AIns := [⟨some 4, .mov (.c (.int .i64 1)), none⟩]
def f54r9 : List AIns := [⟨some 14, .mov (.t 0), none⟩,
  ⟨some 15, .mov (.t 1), none⟩,
  ⟨some 16, .bin .lss (.t 14) (.t 15), none⟩]
def f54r10 : List AIns := [⟨some 4, .mov (.c (.int .i64 (-1))), none⟩]
def f54r11 : List AIns := [⟨some 17, .mov (.t 0), none⟩,
  ⟨some 18, .mov (.t 1), none⟩,
  ⟨some 19, .bin .gtr (.t 17) (.t 18), none⟩]
def f54r12 : List AIns := [⟨some 4, .mov (.c (.int .i64 1)), none⟩]
def f54r13 : List AIns := [⟨some 4, .mov (.c (.int .i64 0)), none⟩]
def f54b : ACode := (.seq (.reg f54r0) (.seq (.reg f54r1) (.seq (.reg f54r2) (.seq (.seq (.reg f54r3) (.cond (.t 11) (.seq (.seq (.reg f54r4) (.cond (.t 12) (.seq (.reg f54r5) .ret) .skip)) (.seq (.reg f54r6) .ret)) .skip)) (.seq (.seq (.reg f54r7) (.cond (.t 13) (.seq (.reg f54r8) .ret) .skip)) (.seq (.seq (.reg f54r9) (.cond (.t 16) (.seq (.reg f54r10) .ret) .skip)) (.seq (.seq (.reg f54r11) (.cond (.t 19) (.seq (.reg f54r12) .ret) .skip)) (.seq (.reg f54r13) .ret))))))))
def f54 : AFn := ⟨20, f54b, [.tmp 4], .pure⟩
theorem f54_is : cFn Try.prog .pure 54 = some f54 := by kernel_rfl

/-- cmp.isNaN[int] -/
def f55r0 : List AIns := [⟨some 2, .mov (.c (.bool false)), none⟩]
def f55r1 : List AIns := [⟨some 3, .mov (.t 0), none⟩,
  ⟨some 4, .mov (.t 0), none⟩,
  ⟨some 5, .bin .neq (.t 3) (.t 4), none⟩,
  ⟨some 2, .mov (.t 5), none⟩]
def f55b : ACode := (.seq (.reg f55r0) (.seq (.reg f55r1) .ret))
def f55 : AFn := ⟨6, f55b, [.tmp 2], .pure⟩
theorem f55_is : cFn Try.prog .pure 55 = some f55 := by kernel_rfl

/-- cmp.isNaN[int64] -/
def f56r0 : List AIns := [⟨some 2, .mov (.c (.bool false)), none⟩]
def f56r1 : List AIns := [⟨some 3, .mov (.t 0), none⟩,
  ⟨some 4, .mov (.t 0), none⟩,
  ⟨some 5, .bin .neq (.t 3) (.t 4), none⟩,
  ⟨some 2, .mov (.t 5), none⟩]
def f56b : ACode := (.seq (.reg f56r0) (.seq (.reg f56r1) .ret))
def f56 : AFn := ⟨6, f56b, [.tmp 2], .pure⟩
theorem f56_is : cFn Try.prog .pure 56 = some f56 := by kernel_rfl

end Go.Proofs.Ytmjaanhphkbkeaa
end
