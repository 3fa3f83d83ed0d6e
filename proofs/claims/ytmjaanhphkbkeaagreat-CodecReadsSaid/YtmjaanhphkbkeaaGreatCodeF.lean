import Derived.Test.YtmjaanhphkbkeaaGreatAmG
import Derived.Test.YtmjaanhphkbkeaaGreatAmA
import Derived.Test.YtmjaanhphkbkeaaGreatRows
set_option linter.all false
section
namespace Go.Proofs.YtmjaanhphkbkeaaGreat
open Go.AM
/-- bocage/bocagelaw19.CodecMaps -/
def f3r0 : List AIns := [⟨some 2, .box 23 (.t 0), none⟩,
  ⟨some 4, .mov (.c (.bool false)), none⟩]
def f3r1 : List AIns := [⟨some 11, .mov (.t 1), none⟩,
  ⟨some 12, .len (.t 11), none⟩,
  ⟨some 13, .bin .gtr (.t 12) (.c (.int .i64 50)), none⟩]
def f3r2 : List AIns := [⟨some 14, .call (.c (.func (.func 5) #[] #[])) [], none⟩,
  ⟨some 4, .mov (.t 14), none⟩]
def f3r3 : List AIns := [⟨some 15, .loadN 3 (.t 2), none⟩,
  ⟨some 16, .mov (.t 1), none⟩,
  ⟨some 17, .build [(.bool false), (.int .i64 0), (.bool false), (.int .i64 0), (.slice none 0 0)] [(0, 1, (.c (.bool true))), (1, 3, (.t 15)), (4, 1, (.t 16))], none⟩,
  ⟨some 5, .alloc 27 [(.bool false), (.int .i64 0), (.bool false), (.int .i64 0), (.slice none 0 0)], none⟩,
  ⟨none, .store 5 (.t 5) (.t 17), none⟩]
def f3r4 : List AIns := [⟨some 18, .loadN 3 (.t 2), none⟩,
  ⟨some 19, .mov (.t 1), none⟩,
  ⟨some 20, .call (.c (.func (.func 6) #[] #[])) [(.t 18), (.t 19)], none⟩,
  ⟨some 6, .mov (.t 20), none⟩]
def f3r5 : List AIns := [⟨some 21, .mov (.t 6), none⟩,
  ⟨some 22, .bytesStr (.t 21), none⟩,
  ⟨some 23, .loadN 5 (.t 5), none⟩,
  ⟨some 24, .call (.c (.func (.func 7) #[] #[])) [(.t 23)], none⟩,
  ⟨some 25, .bin .neq (.t 22) (.t 24), none⟩]
def f3r6 : List AIns := [⟨some 4, .mov (.c (.bool false)), none⟩]
def f3r7 : List AIns := [⟨some 26, .mov (.t 6), none⟩,
  ⟨some 27, .len (.t 26), none⟩,
  ⟨some 28, .bin .eql (.t 27) (.c (.int .i64 0)), none⟩]
def f3r8 : List AIns := [⟨some 29, .call (.c (.func (.func 5) #[] #[])) [], none⟩,
  ⟨some 30, .mov (.t 29), none⟩,
  ⟨some 31, .loadN 5 (.t 5), some (30, true)⟩,
  ⟨some 32, .call (.c (.func (.func 8) #[] #[])) [(.t 31)], some (30, true)⟩,
  ⟨some 33, .un .not (.t 32), some (30, true)⟩,
  ⟨some 34, .pick (.t 30) (.t 33) (.c (.bool false)), none⟩,
  ⟨some 4, .mov (.t 34), none⟩]
def f3r9 : List AIns := [⟨some 36, .mov (.t 6), none⟩,
  ⟨some 37, .call (.c (.func (.func 9) #[] #[])) [(.t 36)], none⟩,
  ⟨some 35, .mov (.t 37), none⟩,
  ⟨some 38, .extract (.t 35) 0, none⟩,
  ⟨some 39, .extract (.t 35) 1, none⟩,
  ⟨some 40, .extract (.t 35) 2, none⟩,
  ⟨some 41, .extract (.t 35) 3, none⟩,
  ⟨some 7, .alloc 30 [(.int .i64 0), (.bool false), (.int .i64 0)], none⟩,
  ⟨none, .store 3 (.t 7) (.t 38), none⟩,
  ⟨some 8, .mov (.t 39), none⟩,
  ⟨some 9, .mov (.t 40), none⟩,
  ⟨some 10, .mov (.t 41), none⟩]
def f3r10 : List AIns := [⟨some 42, .call (.c (.func (.func 5) #[] #[])) [], none⟩,
  ⟨some 43, .mov (.t 42), none⟩,
  ⟨some 44, .loadN 3 (.t 7), some (43, true)⟩,
  ⟨some 45, .loadN 3 (.t 2), some (43, true)⟩,
  ⟨some 46, .eqv false [.i, .b, .i] true (.t 44) (.t 45), some (43, true)⟩,
  ⟨some 47, .pick (.t 43) (.t 46) (.c (.bool false)), none⟩,
  ⟨some 48, .mov (.t 47), none⟩,
  ⟨some 49, .mov (.t 8), some (48, true)⟩,
  ⟨some 50, .mov (.t 1), some (48, true)⟩,
  ⟨some 51, .call (.c (.func (.func 10) #[] #[])) [(.t 49), (.t 50)], some (48, true)⟩,
  ⟨some 52, .pick (.t 48) (.t 51) (.c (.bool false)), none⟩,
  ⟨some 53, .mov (.t 52), none⟩,
  ⟨some 54, .mov (.t 9), some (53, true)⟩,
  ⟨some 55, .mov (.t 6), some (53, true)⟩,
  ⟨some 56, .len (.t 55), some (53, true)⟩,
  ⟨some 57, .bin .eql (.t 54) (.t 56), some (53, true)⟩,
  ⟨some 58, .pick (.t 53) (.t 57) (.c (.bool false)), none⟩,
  ⟨some 59, .mov (.t 58), none⟩,
  ⟨some 60, .mov (.t 10), some (59, true)⟩,
  ⟨some 61, .bin .eql (.t 60) (.c (.int .i64 0)), some (59, true)⟩,
  ⟨some 62, .pick (.t 59) (.t 61) (.c (.bool false)), none⟩,
  ⟨some 4, .mov (.t 62), none⟩]
def f3b : ACode := (.seq (.reg f3r0) (.seq (.seq (.reg f3r1) (.cond (.t 13) (.seq (.reg f3r2) .ret) .skip)) (.seq (.reg f3r3) (.seq (.reg f3r4) (.seq (.seq (.regD f3r5 [(0, []), (1, []), (2, []), (3, [1]), (4, [])]) (.cond (.t 25) (.seq (.reg f3r6) .ret) .skip)) (.seq (.seq (.reg f3r7) (.cond (.t 28) (.seq (.reg f3r8) .ret) .skip)) (.seq (.reg f3r9) (.seq (.reg f3r10) .ret))))))))
def f3 : AFn := ⟨63, f3b, [.tmp 4], .pure⟩
theorem f3_is : cFn Tryz.prog .pure 3 = some f3 := by kernel_rfl

/-- bocage/bocagelaw19.CodecReads -/
def f4r0 : List AIns := [⟨some 2, .mov (.c (.bool false)), none⟩]
def f4r1 : List AIns := [⟨some 17, .mov (.t 0), none⟩,
  ⟨some 18, .len (.t 17), none⟩,
  ⟨some 19, .bin .gtr (.t 18) (.c (.int .i64 2000)), none⟩]
def f4r2 : List AIns := [⟨some 20, .call (.c (.func (.func 5) #[] #[])) [], none⟩,
  ⟨some 2, .mov (.t 20), none⟩]
def f4r3 : List AIns := [⟨some 22, .mov (.t 0), none⟩,
  ⟨some 23, .call (.c (.func (.func 11) #[] #[])) [(.t 22)], none⟩,
  ⟨some 21, .mov (.t 23), none⟩,
  ⟨some 24, .extract (.t 21) 0, none⟩,
  ⟨some 25, .extract (.t 21) 1, none⟩,
  ⟨some 26, .extract (.t 21) 2, none⟩,
  ⟨some 27, .extract (.t 21) 3, none⟩,
  ⟨some 3, .mov (.t 24), none⟩,
  ⟨some 4, .mov (.t 25), none⟩,
  ⟨some 5, .mov (.t 26), none⟩,
  ⟨some 6, .mov (.t 27), none⟩]
def f4r4 : List AIns := [⟨some 29, .mov (.t 0), none⟩,
  ⟨some 30, .bytesStr (.t 29), none⟩,
  ⟨some 31, .call (.c (.func (.func 12) #[] #[])) [(.t 30), (.c (.bool false))], none⟩,
  ⟨some 28, .mov (.t 31), none⟩,
  ⟨some 32, .extract (.t 28) 0, none⟩,
  ⟨some 33, .extract (.t 28) 1, none⟩,
  ⟨some 34, .extract (.t 28) 2, none⟩,
  ⟨some 7, .alloc 27 [(.bool false), (.int .i64 0), (.bool false), (.int .i64 0), (.slice none 0 0)], none⟩,
  ⟨none, .store 5 (.t 7) (.t 32), none⟩,
  ⟨some 8, .mov (.t 33), none⟩,
  ⟨some 9, .mov (.t 34), none⟩]
def f4r5 : List AIns := [⟨some 35, .mov (.t 6), none⟩,
  ⟨some 36, .bin .eql (.t 35) (.c (.int .i64 0)), none⟩,
  ⟨some 37, .mov (.t 9), none⟩,
  ⟨some 38, .eqv true [.b] false (.t 36) (.t 37), none⟩,
  ⟨some 39, .mov (.t 38), none⟩,
  ⟨some 40, .mov (.t 5), some (39, false)⟩,
  ⟨some 41, .mov (.t 8), some (39, false)⟩,
  ⟨some 42, .bin .neq (.t 40) (.t 41), some (39, false)⟩,
  ⟨some 43, .pick (.t 39) (.c (.bool true)) (.t 42), none⟩,
  ⟨some 44, .mov (.t 43), none⟩,
  ⟨some 45, .mov (.t 4), some (44, false)⟩,
  ⟨some 46, .addOff 4 (.t 7), some (44, false)⟩,
  ⟨some 47, .load1 (.t 46), some (44, false)⟩,
  ⟨some 48, .call (.c (.func (.func 14) #[] #[])) [(.t 47)], some (44, false)⟩,
  ⟨some 49, .call (.c (.func (.func 13) #[] #[])) [(.t 45), (.t 48)], some (44, false)⟩,
  ⟨some 50, .un .not (.t 49), some (44, false)⟩,
  ⟨some 51, .pick (.t 44) (.c (.bool true)) (.t 50), none⟩,
  ⟨some 52, .mov (.t 51), none⟩,
  ⟨some 53, .mov (.t 3), some (52, false)⟩,
  ⟨some 54, .addOff 1 (.t 7), some (52, false)⟩,
  ⟨some 55, .addOff 0 (.t 54), some (52, false)⟩,
  ⟨some 56, .load1 (.t 55), some (52, false)⟩,
  ⟨some 57, .bin .neq (.t 53) (.t 56), some (52, false)⟩,
  ⟨some 58, .pick (.t 52) (.c (.bool true)) (.t 57), none⟩,
  ⟨some 59, .mov (.t 58), none⟩,
  ⟨some 60, .mov (.t 9), some (59, false)⟩,
  ⟨some 61, .un .not (.t 60), some (59, false)⟩,
  ⟨some 62, .mov (.t 61), some (59, false)⟩,
  ⟨some 63, .mov (.t 6), some (62, true)⟩,
  ⟨some 64, .bin .neq (.t 63) (.c (.int .i64 190)), some (62, true)⟩,
  ⟨some 65, .pick (.t 62) (.t 64) (.c (.bool false)), some (59, false)⟩,
  ⟨some 66, .pick (.t 59) (.c (.bool true)) (.t 65), none⟩,
  ⟨some 67, .mov (.t 66), none⟩,
  ⟨some 68, .mov (.t 9), some (67, false)⟩,
  ⟨some 69, .mov (.t 68), some (67, false)⟩,
  ⟨some 70, .mov (.t 3), some (69, true)⟩,
  ⟨some 71, .mov (.t 4), some (69, true)⟩,
  ⟨some 72, .call (.c (.func (.func 15) #[] #[])) [(.t 70), (.t 71)], some (69, true)⟩,
  ⟨some 73, .bytesStr (.t 72), some (69, true)⟩,
  ⟨some 74, .mov (.t 0), some (69, true)⟩,
  ⟨some 75, .bytesStr (.t 74), some (69, true)⟩,
  ⟨some 76, .bin .neq (.t 73) (.t 75), some (69, true)⟩,
  ⟨some 77, .pick (.t 69) (.t 76) (.c (.bool false)), some (67, false)⟩,
  ⟨some 78, .pick (.t 67) (.c (.bool true)) (.t 77), none⟩]
def f4r6 : List AIns := [⟨some 2, .mov (.c (.bool false)), none⟩]
def f4r7 : List AIns := [⟨some 80, .mov (.t 0), none⟩,
  ⟨some 81, .call (.c (.func (.func 9) #[] #[])) [(.t 80)], none⟩,
  ⟨some 79, .mov (.t 81), none⟩,
  ⟨some 82, .extract (.t 79) 0, none⟩,
  ⟨some 83, .extract (.t 79) 1, none⟩,
  ⟨some 84, .extract (.t 79) 2, none⟩,
  ⟨some 85, .extract (.t 79) 3, none⟩,
  ⟨some 10, .alloc 30 [(.int .i64 0), (.bool false), (.int .i64 0)], none⟩,
  ⟨none, .store 3 (.t 10) (.t 82), none⟩,
  ⟨some 11, .mov (.t 83), none⟩,
  ⟨some 12, .mov (.t 84), none⟩,
  ⟨some 13, .mov (.t 85), none⟩]
def f4r8 : List AIns := [⟨some 87, .mov (.t 0), none⟩,
  ⟨some 88, .bytesStr (.t 87), none⟩,
  ⟨some 89, .call (.c (.func (.func 12) #[] #[])) [(.t 88), (.c (.bool true))], none⟩,
  ⟨some 86, .mov (.t 89), none⟩,
  ⟨some 90, .extract (.t 86) 0, none⟩,
  ⟨some 91, .extract (.t 86) 1, none⟩,
  ⟨some 92, .extract (.t 86) 2, none⟩,
  ⟨some 14, .alloc 27 [(.bool false), (.int .i64 0), (.bool false), (.int .i64 0), (.slice none 0 0)], none⟩,
  ⟨none, .store 5 (.t 14) (.t 90), none⟩,
  ⟨some 15, .mov (.t 91), none⟩,
  ⟨some 16, .mov (.t 92), none⟩]
def f4r9 : List AIns := [⟨some 93, .mov (.t 13), none⟩,
  ⟨some 94, .bin .eql (.t 93) (.c (.int .i64 0)), none⟩,
  ⟨some 95, .mov (.t 16), none⟩,
  ⟨some 96, .eqv true [.b] false (.t 94) (.t 95), none⟩,
  ⟨some 97, .mov (.t 96), none⟩,
  ⟨some 98, .mov (.t 12), some (97, false)⟩,
  ⟨some 99, .mov (.t 15), some (97, false)⟩,
  ⟨some 100, .bin .neq (.t 98) (.t 99), some (97, false)⟩,
  ⟨some 101, .pick (.t 97) (.c (.bool true)) (.t 100), none⟩,
  ⟨some 102, .mov (.t 101), none⟩,
  ⟨some 103, .mov (.t 11), some (102, false)⟩,
  ⟨some 104, .addOff 4 (.t 14), some (102, false)⟩,
  ⟨some 105, .load1 (.t 104), some (102, false)⟩,
  ⟨some 106, .call (.c (.func (.func 10) #[] #[])) [(.t 103), (.t 105)], some (102, false)⟩,
  ⟨some 107, .un .not (.t 106), some (102, false)⟩,
  ⟨some 108, .pick (.t 102) (.c (.bool true)) (.t 107), none⟩,
  ⟨some 109, .mov (.t 108), none⟩,
  ⟨some 110, .loadN 3 (.t 10), some (109, false)⟩,
  ⟨some 111, .addOff 1 (.t 14), some (109, false)⟩,
  ⟨some 112, .loadN 3 (.t 111), some (109, false)⟩,
  ⟨some 113, .eqv true [.i, .b, .i] true (.t 110) (.t 112), some (109, false)⟩,
  ⟨some 114, .pick (.t 109) (.c (.bool true)) (.t 113), none⟩,
  ⟨some 115, .mov (.t 114), none⟩,
  ⟨some 116, .mov (.t 16), some (115, false)⟩,
  ⟨some 117, .un .not (.t 116), some (115, false)⟩,
  ⟨some 118, .mov (.t 117), some (115, false)⟩,
  ⟨some 119, .mov (.t 13), some (118, true)⟩,
  ⟨some 120, .bin .neq (.t 119) (.c (.int .i64 190)), some (118, true)⟩,
  ⟨some 121, .pick (.t 118) (.t 120) (.c (.bool false)), some (115, false)⟩,
  ⟨some 122, .pick (.t 115) (.c (.bool true)) (.t 121), none⟩]
def f4r10 : List AIns := [⟨some 2, .mov (.c (.bool false)), none⟩]
def f4r11 : List AIns := [⟨some 123, .call (.c (.func (.func 5) #[] #[])) [], none⟩,
  ⟨some 124, .mov (.t 123), none⟩,
  ⟨some 125, .mov (.t 16), some (124, true)⟩,
  ⟨some 126, .un .not (.t 125), some (124, true)⟩,
  ⟨some 127, .mov (.t 126), some (124, true)⟩,
  ⟨some 128, .loadN 3 (.t 10), some (127, false)⟩,
  ⟨some 129, .mov (.t 11), some (127, false)⟩,
  ⟨some 130, .call (.c (.func (.func 6) #[] #[])) [(.t 128), (.t 129)], some (127, false)⟩,
  ⟨some 131, .bytesStr (.t 130), some (127, false)⟩,
  ⟨some 132, .mov (.t 0), some (127, false)⟩,
  ⟨some 133, .bytesStr (.t 132), some (127, false)⟩,
  ⟨some 134, .bin .eql (.t 131) (.t 133), some (127, false)⟩,
  ⟨some 135, .pick (.t 127) (.c (.bool true)) (.t 134), some (124, true)⟩,
  ⟨some 136, .pick (.t 124) (.t 135) (.c (.bool false)), none⟩,
  ⟨some 137, .mov (.t 136), none⟩,
  ⟨some 138, .mov (.t 9), some (137, true)⟩,
  ⟨some 139, .mov (.t 138), some (137, true)⟩,
  ⟨some 140, .mov (.t 16), some (139, true)⟩,
  ⟨some 141, .pick (.t 139) (.t 140) (.c (.bool false)), some (137, true)⟩,
  ⟨some 142, .un .not (.t 141), some (137, true)⟩,
  ⟨some 143, .pick (.t 137) (.t 142) (.c (.bool false)), none⟩,
  ⟨some 2, .mov (.t 143), none⟩]
def f4b : ACode := (.seq (.reg f4r0) (.seq (.seq (.reg f4r1) (.cond (.t 19) (.seq (.reg f4r2) .ret) .skip)) (.seq (.reg f4r3) (.seq (.reg f4r4) (.seq (.seq (.regD f4r5 [(0, []), (1, []), (2, []), (3, []), (4, []), (5, []), (6, []), (7, []), (8, []), (9, []), (10, []), (11, []), (12, []), (13, []), (14, []), (15, []), (16, []), (17, []), (18, []), (19, []), (20, []), (21, []), (22, []), (23, []), (24, []), (25, []), (26, []), (27, []), (28, []), (29, []), (30, []), (31, []), (32, []), (33, []), (34, []), (35, []), (36, []), (39, []), (40, []), (37, [40]), (38, []), (41, []), (42, []), (43, [])]) (.cond (.t 78) (.seq (.reg f4r6) .ret) .skip)) (.seq (.reg f4r7) (.seq (.reg f4r8) (.seq (.seq (.reg f4r9) (.cond (.t 122) (.seq (.reg f4r10) .ret) .skip)) (.seq (.regD f4r11 [(0, []), (1, []), (2, []), (3, []), (4, []), (5, []), (6, []), (9, []), (10, []), (7, [10]), (8, []), (11, []), (12, []), (13, []), (14, []), (15, []), (16, []), (17, []), (18, []), (19, []), (20, []), (21, [])]) .ret)))))))))
def f4 : AFn := ⟨144, f4b, [.tmp 2], .pure⟩
theorem f4_is : cFn Tryz.prog .pure 4 = some f4 := by kernel_rfl

/-- bocage/codec.Map -/
def f6r0 : List AIns := [⟨some 2, .box 30 (.t 0), none⟩,
  ⟨some 4, .mov (.c (.slice none 0 0)), none⟩]
def f6r1 : List AIns := [⟨some 8, .loadN 3 (.t 2), none⟩,
  ⟨some 9, .call (.c (.func (.func 19) #[] #[])) [(.t 8)], none⟩,
  ⟨some 10, .un .not (.t 9), none⟩,
  ⟨some 11, .mov (.t 10), none⟩,
  ⟨some 12, .loadN 3 (.t 2), some (11, false)⟩,
  ⟨some 13, .mov (.t 1), some (11, false)⟩,
  ⟨some 14, .call (.c (.func (.func 20) #[] #[])) [(.t 12), (.t 13)], some (11, false)⟩,
  ⟨some 15, .un .not (.t 14), some (11, false)⟩,
  ⟨some 16, .pick (.t 11) (.c (.bool true)) (.t 15), none⟩]
def f6r2 : List AIns := [⟨some 4, .mov (.c (.slice none 0 0)), none⟩]
def f6r3 : List AIns := [⟨some 17, .addOff 0 (.t 2), none⟩,
  ⟨some 18, .load1 (.t 17), none⟩,
  ⟨some 19, .convInt .u8 (.t 18), none⟩,
  ⟨some 20, .buildSlice 5 3 [(.int .u8 0), (.int .u8 0), (.int .u8 0)] [(0, 1, (.c (.int .u8 2))), (1, 1, (.t 19)), (2, 1, (.c (.int .u8 0)))], none⟩,
  ⟨some 5, .mov (.t 20), none⟩]
def f6r4 : List AIns := [⟨some 21, .addOff 1 (.t 2), none⟩,
  ⟨some 22, .load1 (.t 21), none⟩]
def f6r5 : List AIns := [⟨some 23, .mov (.t 5), none⟩,
  ⟨some 24, .idxA 1 (.t 23) (.c (.int .i64 2)), none⟩,
  ⟨none, .store 1 (.t 24) (.c (.int .u8 1)), none⟩]
def f6r6 : List AIns := [⟨some 25, .mov (.t 5), none⟩,
  ⟨some 26, .addOff 2 (.t 2), none⟩,
  ⟨some 27, .load1 (.t 26), none⟩,
  ⟨some 28, .call (.c (.func (.func 18) #[] #[])) [(.t 25), (.t 27)], none⟩,
  ⟨some 5, .mov (.t 28), none⟩]
def f6r7 : List AIns := [⟨some 29, .mov (.t 5), none⟩,
  ⟨some 30, .mov (.t 1), none⟩,
  ⟨some 31, .len (.t 30), none⟩,
  ⟨some 32, .call (.c (.func (.func 18) #[] #[])) [(.t 29), (.t 31)], none⟩,
  ⟨some 5, .mov (.t 32), none⟩]
def f6r8 : List AIns := [⟨some 33, .mov (.t 1), none⟩,
  ⟨some 34, .len (.t 33), none⟩,
  ⟨some 35, .mov (.c (.int .i64 0)), none⟩]
def f6r9 : List AIns := [⟨some 36, .bin .lss (.t 35) (.t 34), none⟩]
def f6r10 : List AIns := [⟨some 37, .idxA 5 (.t 33) (.t 35), none⟩,
  ⟨some 38, .loadN 5 (.t 37), none⟩,
  ⟨some 7, .alloc 58 [(.int .i64 0), (.int .i64 0), (.int .i64 0), (.int .i64 0), (.int .i64 0)], none⟩,
  ⟨none, .store 5 (.t 7) (.t 38), none⟩]
def f6r11 : List AIns := [⟨some 39, .mov (.t 5), none⟩,
  ⟨some 40, .addOff 0 (.t 7), none⟩,
  ⟨some 41, .addOff 0 (.t 40), none⟩,
  ⟨some 42, .loadN 2 (.t 41), none⟩,
  ⟨some 43, .call (.c (.func (.func 21) #[] #[])) [(.t 39), (.t 42)], none⟩,
  ⟨some 44, .addOff 0 (.t 7), none⟩,
  ⟨some 45, .addOff 2 (.t 44), none⟩,
  ⟨some 46, .loadN 2 (.t 45), none⟩,
  ⟨some 47, .call (.c (.func (.func 21) #[] #[])) [(.t 43), (.t 46)], none⟩,
  ⟨some 48, .addOff 4 (.t 7), none⟩,
  ⟨some 49, .load1 (.t 48), none⟩,
  ⟨some 50, .call (.c (.func (.func 18) #[] #[])) [(.t 47), (.t 49)], none⟩,
  ⟨some 5, .mov (.t 50), none⟩]
def f6r12 : List AIns := [⟨some 51, .bin .add (.t 35) (.c (.int .i64 1)), none⟩,
  ⟨some 35, .mov (.t 51), none⟩]
def f6l13 : ACode := (.seq (.reg f6r9) (.seq (.cond (.t 36) .skip (.exit 0)) (.seq (.block 1 (.seq (.reg f6r10) (.regD f6r11 [(0, []), (1, []), (2, []), (3, []), (5, []), (6, []), (7, []), (9, []), (10, []), (4, [10, 7]), (8, [10]), (11, []), (12, [])]))) (.reg f6r12))))
def f6r14 : List AIns := [⟨some 52, .mov (.t 5), none⟩,
  ⟨some 53, .call (.c (.func (.func 22) #[] #[])) [(.t 52)], none⟩,
  ⟨some 4, .mov (.t 53), none⟩]
def f6b : ACode := (.seq (.reg f6r0) (.seq (.seq (.reg f6r1) (.cond (.t 16) (.seq (.reg f6r2) .ret) .skip)) (.seq (.reg f6r3) (.seq (.seq (.reg f6r4) (.cond (.t 22) (.seq (.reg f6r5) (.reg f6r6)) .skip)) (.seq (.reg f6r7) (.seq (.seq (.reg f6r8) (.block 0 (.loop f6l13))) (.seq (.reg f6r14) .ret)))))))
def f6 : AFn := ⟨54, f6b, [.tmp 4], .pure⟩
theorem f6_is : cFn Tryz.prog .pure 6 = some f6 := by kernel_rfl

/-- bocage/bocageref19.Write -/
def f7r0 : List AIns := [⟨some 1, .box 27 (.t 0), none⟩,
  ⟨some 2, .mov (.c (.string ⟨#[]⟩)), none⟩]
def f7r1 : List AIns := [⟨some 5, .loadN 5 (.t 1), none⟩,
  ⟨some 6, .call (.c (.func (.func 8) #[] #[])) [(.t 5)], none⟩,
  ⟨some 7, .un .not (.t 6), none⟩]
def f7r2 : List AIns := [⟨some 2, .mov (.c (.string ⟨#[]⟩)), none⟩]
def f7r3 : List AIns := [⟨some 8, .addOff 1 (.t 1), none⟩,
  ⟨some 9, .addOff 0 (.t 8), none⟩,
  ⟨some 10, .load1 (.t 9), none⟩,
  ⟨some 11, .convInt .u8 (.t 10), none⟩,
  ⟨some 12, .buildSlice 5 1 [(.int .u8 0)] [(0, 1, (.t 11))], none⟩,
  ⟨some 13, .bytesStr (.t 12), none⟩,
  ⟨some 14, .bin .add (.c (.string ⟨#[1]⟩)) (.t 13), none⟩,
  ⟨some 3, .mov (.t 14), none⟩]
def f7r4 : List AIns := [⟨some 15, .addOff 0 (.t 1), none⟩,
  ⟨some 16, .load1 (.t 15), none⟩]
def f7r5 : List AIns := [⟨some 17, .addOff 1 (.t 1), none⟩,
  ⟨some 18, .addOff 0 (.t 17), none⟩,
  ⟨some 19, .load1 (.t 18), none⟩,
  ⟨some 20, .convInt .u8 (.t 19), none⟩,
  ⟨some 21, .buildSlice 5 1 [(.int .u8 0)] [(0, 1, (.t 20))], none⟩,
  ⟨some 22, .bytesStr (.t 21), none⟩,
  ⟨some 23, .bin .add (.c (.string ⟨#[2]⟩)) (.t 22), none⟩,
  ⟨some 3, .mov (.t 23), none⟩]
def f7r6 : List AIns := [⟨some 24, .addOff 1 (.t 1), none⟩,
  ⟨some 25, .addOff 1 (.t 24), none⟩,
  ⟨some 26, .load1 (.t 25), none⟩]
def f7r7 : List AIns := [⟨some 27, .mov (.t 3), none⟩,
  ⟨some 28, .bin .add (.t 27) (.c (.string ⟨#[1]⟩)), none⟩,
  ⟨some 29, .addOff 1 (.t 1), none⟩,
  ⟨some 30, .addOff 2 (.t 29), none⟩,
  ⟨some 31, .load1 (.t 30), none⟩,
  ⟨some 32, .call (.c (.func (.func 23) #[] #[])) [(.t 31)], none⟩,
  ⟨some 33, .bin .add (.t 28) (.t 32), none⟩,
  ⟨some 3, .mov (.t 33), none⟩]
def f7r8 : List AIns := [⟨some 34, .mov (.t 3), none⟩,
  ⟨some 35, .bin .add (.t 34) (.c (.string ⟨#[0]⟩)), none⟩,
  ⟨some 3, .mov (.t 35), none⟩]
def f7r9 : List AIns := [⟨some 36, .mov (.t 3), none⟩,
  ⟨some 37, .addOff 4 (.t 1), none⟩,
  ⟨some 38, .load1 (.t 37), none⟩,
  ⟨some 39, .len (.t 38), none⟩,
  ⟨some 40, .call (.c (.func (.func 23) #[] #[])) [(.t 39)], none⟩,
  ⟨some 41, .bin .add (.t 36) (.t 40), none⟩,
  ⟨some 3, .mov (.t 41), none⟩]
def f7r10 : List AIns := [⟨some 4, .mov (.c (.int .i64 0)), none⟩]
def f7r11 : List AIns := [⟨some 42, .mov (.t 4), none⟩,
  ⟨some 43, .addOff 4 (.t 1), none⟩,
  ⟨some 44, .load1 (.t 43), none⟩,
  ⟨some 45, .len (.t 44), none⟩,
  ⟨some 46, .bin .lss (.t 42) (.t 45), none⟩]
def f7r12 : List AIns := [⟨some 49, .mov (.t 3), none⟩,
  ⟨some 50, .addOff 4 (.t 1), none⟩,
  ⟨some 51, .load1 (.t 50), none⟩,
  ⟨some 52, .mov (.t 4), none⟩,
  ⟨some 53, .idxA 5 (.t 51) (.t 52), none⟩,
  ⟨some 54, .addOff 0 (.t 53), none⟩,
  ⟨some 55, .addOff 0 (.t 54), none⟩,
  ⟨some 56, .loadN 2 (.t 55), none⟩,
  ⟨some 57, .call (.c (.func (.func 24) #[] #[])) [(.t 56)], none⟩,
  ⟨some 58, .bin .add (.t 49) (.t 57), none⟩,
  ⟨some 59, .addOff 4 (.t 1), none⟩,
  ⟨some 60, .load1 (.t 59), none⟩,
  ⟨some 61, .mov (.t 4), none⟩,
  ⟨some 62, .idxA 5 (.t 60) (.t 61), none⟩,
  ⟨some 63, .addOff 0 (.t 62), none⟩,
  ⟨some 64, .addOff 2 (.t 63), none⟩,
  ⟨some 65, .loadN 2 (.t 64), none⟩,
  ⟨some 66, .call (.c (.func (.func 24) #[] #[])) [(.t 65)], none⟩,
  ⟨some 67, .bin .add (.t 58) (.t 66), none⟩,
  ⟨some 3, .mov (.t 67), none⟩]
def f7r13 : List AIns := [⟨some 68, .addOff 0 (.t 1), none⟩,
  ⟨some 69, .load1 (.t 68), none⟩]
def f7r14 : List AIns := [⟨some 70, .mov (.t 3), none⟩,
  ⟨some 71, .addOff 4 (.t 1), none⟩,
  ⟨some 72, .load1 (.t 71), none⟩,
  ⟨some 73, .mov (.t 4), none⟩,
  ⟨some 74, .idxA 5 (.t 72) (.t 73), none⟩,
  ⟨some 75, .addOff 4 (.t 74), none⟩,
  ⟨some 76, .load1 (.t 75), none⟩,
  ⟨some 77, .call (.c (.func (.func 23) #[] #[])) [(.t 76)], none⟩,
  ⟨some 78, .bin .add (.t 70) (.t 77), none⟩,
  ⟨some 3, .mov (.t 78), none⟩]
def f7r15 : List AIns := [⟨some 47, .mov (.t 4), none⟩,
  ⟨some 48, .bin .add (.t 47) (.c (.int .i64 1)), none⟩,
  ⟨some 4, .mov (.t 48), none⟩]
def f7l16 : ACode := (.seq (.seq (.reg f7r11) (.cond (.t 46) .skip (.exit 0))) (.seq (.block 1 (.seq (.regD f7r12 [(0, []), (1, []), (2, []), (3, []), (4, []), (5, []), (6, []), (7, []), (10, []), (11, []), (12, []), (13, []), (14, []), (15, []), (16, []), (8, [16, 11]), (9, []), (17, []), (18, []), (19, [])]) (.seq (.reg f7r13) (.cond (.t 69) (.reg f7r14) .skip)))) (.reg f7r15)))
def f7r17 : List AIns := [⟨some 79, .mov (.t 3), none⟩,
  ⟨some 80, .lenStr (.t 79), none⟩,
  ⟨some 81, .call (.c (.func (.func 23) #[] #[])) [(.t 80)], none⟩,
  ⟨some 82, .mov (.t 3), none⟩,
  ⟨some 83, .bin .add (.t 81) (.t 82), none⟩,
  ⟨some 2, .mov (.t 83), none⟩]
def f7b : ACode := (.seq (.reg f7r0) (.seq (.seq (.reg f7r1) (.cond (.t 7) (.seq (.reg f7r2) .ret) .skip)) (.seq (.reg f7r3) (.seq (.seq (.reg f7r4) (.cond (.t 16) (.seq (.reg f7r5) (.seq (.reg f7r6) (.cond (.t 26) (.reg f7r7) (.reg f7r8)))) .skip)) (.seq (.reg f7r9) (.seq (.seq (.reg f7r10) (.block 0 (.loop f7l16))) (.seq (.reg f7r17) .ret)))))))
def f7 : AFn := ⟨84, f7b, [.tmp 2], .pure⟩
theorem f7_is : cFn Tryz.prog .pure 7 = some f7 := by kernel_rfl

/-- bocage/bocageref19.Fine -/
def f8r0 : List AIns := [⟨some 1, .box 27 (.t 0), none⟩,
  ⟨some 2, .mov (.c (.bool false)), none⟩]
def f8r1 : List AIns := [⟨some 3, .addOff 0 (.t 1), none⟩,
  ⟨some 4, .load1 (.t 3), none⟩]
def f8r2 : List AIns := [⟨some 5, .addOff 1 (.t 1), none⟩,
  ⟨some 6, .loadN 3 (.t 5), none⟩,
  ⟨some 7, .call (.c (.func (.func 25) #[] #[])) [(.t 6), (.c (.int .i64 0)), (.c (.int .i64 0))], none⟩,
  ⟨some 8, .mov (.t 7), none⟩,
  ⟨some 9, .addOff 1 (.t 1), some (8, true)⟩,
  ⟨some 10, .loadN 3 (.t 9), some (8, true)⟩,
  ⟨some 11, .addOff 4 (.t 1), some (8, true)⟩,
  ⟨some 12, .load1 (.t 11), some (8, true)⟩,
  ⟨some 13, .call (.c (.func (.func 26) #[] #[])) [(.t 10), (.t 12)], some (8, true)⟩,
  ⟨some 14, .pick (.t 8) (.t 13) (.c (.bool false)), none⟩,
  ⟨some 2, .mov (.t 14), none⟩]
def f8r3 : List AIns := [⟨some 15, .addOff 1 (.t 1), none⟩,
  ⟨some 16, .addOff 0 (.t 15), none⟩,
  ⟨some 17, .load1 (.t 16), none⟩,
  ⟨some 18, .call (.c (.func (.func 27) #[] #[])) [(.t 17), (.c (.int .i64 0)), (.c (.int .i64 0))], none⟩,
  ⟨some 19, .mov (.t 18), none⟩,
  ⟨some 20, .addOff 1 (.t 1), some (19, true)⟩,
  ⟨some 21, .addOff 0 (.t 20), some (19, true)⟩,
  ⟨some 22, .load1 (.t 21), some (19, true)⟩,
  ⟨some 23, .addOff 4 (.t 1), some (19, true)⟩,
  ⟨some 24, .load1 (.t 23), some (19, true)⟩,
  ⟨some 25, .call (.c (.func (.func 14) #[] #[])) [(.t 24)], some (19, true)⟩,
  ⟨some 26, .call (.c (.func (.func 28) #[] #[])) [(.t 22), (.t 25)], some (19, true)⟩,
  ⟨some 27, .pick (.t 19) (.t 26) (.c (.bool false)), none⟩,
  ⟨some 2, .mov (.t 27), none⟩]
def f8b : ACode := (.seq (.reg f8r0) (.seq (.seq (.reg f8r1) (.cond (.t 4) (.seq (.reg f8r2) .ret) .skip)) (.seq (.regD f8r3 [(0, []), (1, []), (2, []), (3, []), (4, []), (5, []), (6, []), (7, []), (8, []), (9, []), (10, [7]), (11, []), (12, []), (13, [])]) .ret)))
def f8 : AFn := ⟨28, f8b, [.tmp 2], .pure⟩
theorem f8_is : cFn Tryz.prog .pure 8 = some f8 := by kernel_rfl

/-- bocage/codec.ReadMap -/
def f9r0 : List AIns := [⟨some 2, .alloc 30 [(.int .i64 0), (.bool false), (.int .i64 0)], none⟩,
  ⟨some 3, .mov (.c (.slice none 0 0)), none⟩,
  ⟨some 4, .mov (.c (.int .i64 0)), none⟩,
  ⟨some 5, .mov (.c (.int .i64 0)), none⟩]
def f9r1 : List AIns := [⟨some 12, .mov (.t 0), none⟩,
  ⟨some 13, .build [(.slice none 0 0), (.int .i64 0), (.bool false)] [(0, 1, (.t 12))], none⟩,
  ⟨some 14, .box 68 (.t 13), none⟩,
  ⟨some 6, .alloc 66 [(.pointer none)], none⟩,
  ⟨none, .store 1 (.t 6) (.t 14), none⟩]
def f9r2 : List AIns := [⟨some 15, .load1 (.t 6), none⟩,
  ⟨some 16, .call (.c (.func (.func 29) #[] #[])) [(.t 15)], none⟩]
def f9r3 : List AIns := [⟨some 17, .load1 (.t 6), none⟩,
  ⟨some 18, .buildSlice 5 1 [(.int .u8 0)] [(0, 1, (.c (.int .u8 2)))], none⟩,
  ⟨some 19, .call (.c (.func (.func 30) #[] #[])) [(.t 17), (.t 18)], none⟩]
def f9r4 : List AIns := [⟨some 20, .load1 (.t 6), none⟩,
  ⟨some 21, .buildSlice 5 2 [(.int .u8 0), (.int .u8 0)] [(0, 1, (.c (.int .u8 0))), (1, 1, (.c (.int .u8 2)))], none⟩,
  ⟨some 22, .call (.c (.func (.func 30) #[] #[])) [(.t 20), (.t 21)], none⟩,
  ⟨some 23, .build [(.int .i64 0), (.bool false), (.int .i64 0)] [(0, 1, (.t 22))], none⟩,
  ⟨some 7, .alloc 30 [(.int .i64 0), (.bool false), (.int .i64 0)], none⟩,
  ⟨none, .store 3 (.t 7) (.t 23), none⟩]
def f9r5 : List AIns := [⟨some 24, .load1 (.t 6), none⟩,
  ⟨some 25, .buildSlice 5 2 [(.int .u8 0), (.int .u8 0)] [(0, 1, (.c (.int .u8 0))), (1, 1, (.c (.int .u8 1)))], none⟩,
  ⟨some 26, .call (.c (.func (.func 30) #[] #[])) [(.t 24), (.t 25)], none⟩]
def f9r6 : List AIns := [⟨some 28, .bin .eql (.t 26) (.c (.int .i64 1)), none⟩,
  ⟨some 27, .mov (.t 28), none⟩]
def f9r7 : List AIns := [⟨some 29, .addOff 1 (.t 7), none⟩,
  ⟨none, .store 1 (.t 29) (.c (.bool true)), none⟩]
def f9r8 : List AIns := [⟨some 30, .load1 (.t 6), none⟩,
  ⟨some 31, .call (.c (.func (.func 31) #[] #[])) [(.t 30)], none⟩,
  ⟨some 32, .addOff 2 (.t 7), none⟩,
  ⟨none, .store 1 (.t 32) (.t 31), none⟩]
def f9r9 : List AIns := [⟨some 33, .addOff 1 (.t 7), none⟩,
  ⟨some 34, .load1 (.t 33), none⟩,
  ⟨some 35, .mov (.t 34), none⟩,
  ⟨some 36, .load1 (.t 6), some (35, true)⟩,
  ⟨some 37, .nilCheck (.t 36), some (35, true)⟩,
  ⟨some 38, .addOff 2 (.t 37), some (35, true)⟩,
  ⟨some 39, .load1 (.t 38), some (35, true)⟩,
  ⟨some 40, .un .not (.t 39), some (35, true)⟩,
  ⟨some 41, .pick (.t 35) (.t 40) (.c (.bool false)), none⟩,
  ⟨some 42, .addOff 1 (.t 7), none⟩,
  ⟨none, .store 1 (.t 42) (.t 41), none⟩]
def f9r10 : List AIns := [⟨some 44, .load1 (.t 6), none⟩,
  ⟨some 45, .mkFunc (.func 33) [] [(.t 6)], none⟩,
  ⟨some 46, .call (.c (.func (.func 32) #[] #[])) [(.t 44), (.t 45)], none⟩,
  ⟨some 43, .mov (.t 46), none⟩,
  ⟨some 47, .extract (.t 43) 0, none⟩,
  ⟨some 48, .extract (.t 43) 1, none⟩,
  ⟨some 8, .alloc 24 [(.slice none 0 0)], none⟩,
  ⟨none, .store 1 (.t 8) (.t 47), none⟩,
  ⟨some 9, .mov (.t 48), none⟩]
def f9r11 : List AIns := [⟨some 50, .load1 (.t 6), none⟩,
  ⟨some 51, .mov (.t 9), none⟩,
  ⟨some 52, .mkFunc (.func 36) [] [(.t 7), (.t 8)], none⟩,
  ⟨some 53, .call (.c (.func (.func 35) #[] #[])) [(.t 50), (.t 51), (.t 52)], none⟩,
  ⟨some 49, .mov (.t 53), none⟩,
  ⟨some 54, .extract (.t 49) 0, none⟩,
  ⟨some 55, .extract (.t 49) 1, none⟩,
  ⟨some 10, .mov (.t 54), none⟩,
  ⟨some 11, .mov (.t 55), none⟩]
def f9r12 : List AIns := [⟨some 56, .mov (.t 11), none⟩,
  ⟨some 57, .bin .neq (.t 56) (.c (.int .i64 0)), none⟩]
def f9r13 : List AIns := [⟨some 58, .build [(.int .i64 0), (.bool false), (.int .i64 0)] [], none⟩,
  ⟨some 59, .mov (.t 10), none⟩,
  ⟨some 60, .mov (.t 11), none⟩,
  ⟨none, .store 3 (.t 2) (.t 58), none⟩,
  ⟨some 3, .mov (.c (.slice none 0 0)), none⟩,
  ⟨some 4, .mov (.t 59), none⟩,
  ⟨some 5, .mov (.t 60), none⟩]
def f9r14 : List AIns := [⟨some 61, .loadN 3 (.t 7), none⟩,
  ⟨some 62, .load1 (.t 8), none⟩,
  ⟨some 63, .mov (.t 10), none⟩,
  ⟨none, .store 3 (.t 2) (.t 61), none⟩,
  ⟨some 3, .mov (.t 62), none⟩,
  ⟨some 4, .mov (.t 63), none⟩,
  ⟨some 5, .mov (.c (.int .i64 0)), none⟩]
def f9b : ACode := (.seq (.reg f9r0) (.seq (.reg f9r1) (.seq (.reg f9r2) (.seq (.reg f9r3) (.seq (.reg f9r4) (.seq (.seq (.reg f9r5) (.block 0 (.seq (.block 2 (.seq (.block 1 (.seq (.seq (.reg f9r6) (.cond (.t 27) (.exit 1) .skip)) (.exit 2))) (.seq (.reg f9r7) (.reg f9r8)))) (.seq (.reg f9r9) (.exit 0))))) (.seq (.reg f9r10) (.seq (.reg f9r11) (.seq (.seq (.reg f9r12) (.cond (.t 57) (.seq (.reg f9r13) .ret) .skip)) (.seq (.regD f9r14 [(0, []), (1, []), (2, []), (3, [1]), (4, []), (5, []), (6, [])]) .ret))))))))))
def f9 : AFn := ⟨64, f9b, [.cellN 2 3, .tmp 3, .tmp 4, .tmp 5], .pure⟩
theorem f9_is : cFn Tryz.prog .pure 9 = some f9 := by kernel_rfl

/-- bocage/bocageref14.Same -/
def f10r0 : List AIns := [⟨some 4, .mov (.c (.bool false)), none⟩]
def f10r1 : List AIns := [⟨some 6, .mov (.t 0), none⟩,
  ⟨some 7, .len (.t 6), none⟩,
  ⟨some 8, .mov (.t 1), none⟩,
  ⟨some 9, .len (.t 8), none⟩,
  ⟨some 10, .bin .neq (.t 7) (.t 9), none⟩]
def f10r2 : List AIns := [⟨some 4, .mov (.c (.bool false)), none⟩]
def f10r3 : List AIns := [⟨some 5, .mov (.c (.int .i64 0)), none⟩]
def f10r4 : List AIns := [⟨some 11, .mov (.t 5), none⟩,
  ⟨some 12, .mov (.t 0), none⟩,
  ⟨some 13, .len (.t 12), none⟩,
  ⟨some 14, .bin .lss (.t 11) (.t 13), none⟩]
def f10r5 : List AIns := [⟨some 17, .mov (.t 0), none⟩,
  ⟨some 18, .mov (.t 5), none⟩,
  ⟨some 19, .idxA 5 (.t 17) (.t 18), none⟩,
  ⟨some 20, .loadN 5 (.t 19), none⟩,
  ⟨some 21, .mov (.t 1), none⟩,
  ⟨some 22, .mov (.t 5), none⟩,
  ⟨some 23, .idxA 5 (.t 21) (.t 22), none⟩,
  ⟨some 24, .loadN 5 (.t 23), none⟩,
  ⟨some 25, .eqv true [.i, .i, .i, .i, .i] true (.t 20) (.t 24), none⟩]
def f10r6 : List AIns := [⟨some 4, .mov (.c (.bool false)), none⟩]
def f10r7 : List AIns := [⟨some 15, .mov (.t 5), none⟩,
  ⟨some 16, .bin .add (.t 15) (.c (.int .i64 1)), none⟩,
  ⟨some 5, .mov (.t 16), none⟩]
def f10l8 : ACode := (.seq (.seq (.reg f10r4) (.cond (.t 14) .skip (.exit 0))) (.seq (.block 1 (.seq (.regD f10r5 [(0, []), (1, []), (2, []), (3, []), (4, []), (5, []), (6, []), (7, []), (8, [])]) (.cond (.t 25) (.seq (.reg f10r6) .ret) .skip))) (.reg f10r7)))
def f10r9 : List AIns := [⟨some 4, .mov (.c (.bool true)), none⟩]
def f10b : ACode := (.seq (.reg f10r0) (.seq (.seq (.reg f10r1) (.cond (.t 10) (.seq (.reg f10r2) .ret) .skip)) (.seq (.seq (.reg f10r3) (.block 0 (.loop f10l8))) (.seq (.reg f10r9) .ret))))
def f10 : AFn := ⟨26, f10b, [.tmp 4], .pure⟩
theorem f10_is : cFn Tryz.prog .pure 10 = some f10 := by kernel_rfl

/-- bocage/codec.ReadSet -/
def f11r0 : List AIns := [⟨some 2, .mov (.c (.int .i64 0)), none⟩,
  ⟨some 3, .mov (.c (.slice none 0 0)), none⟩,
  ⟨some 4, .mov (.c (.int .i64 0)), none⟩,
  ⟨some 5, .mov (.c (.int .i64 0)), none⟩]
def f11r1 : List AIns := [⟨some 12, .mov (.t 0), none⟩,
  ⟨some 13, .build [(.slice none 0 0), (.int .i64 0), (.bool false)] [(0, 1, (.t 12))], none⟩,
  ⟨some 14, .box 68 (.t 13), none⟩,
  ⟨some 6, .mov (.t 14), none⟩]
def f11r2 : List AIns := [⟨some 15, .mov (.t 6), none⟩,
  ⟨some 16, .call (.c (.func (.func 29) #[] #[])) [(.t 15)], none⟩]
def f11r3 : List AIns := [⟨some 17, .mov (.t 6), none⟩,
  ⟨some 18, .buildSlice 5 1 [(.int .u8 0)] [(0, 1, (.c (.int .u8 1)))], none⟩,
  ⟨some 19, .call (.c (.func (.func 30) #[] #[])) [(.t 17), (.t 18)], none⟩]
def f11r4 : List AIns := [⟨some 20, .mov (.t 6), none⟩,
  ⟨some 21, .buildSlice 5 3 [(.int .u8 0), (.int .u8 0), (.int .u8 0)] [(0, 1, (.c (.int .u8 0))), (1, 1, (.c (.int .u8 1))), (2, 1, (.c (.int .u8 2)))], none⟩,
  ⟨some 22, .call (.c (.func (.func 30) #[] #[])) [(.t 20), (.t 21)], none⟩,
  ⟨some 7, .alloc 3 [(.int .i64 0)], none⟩,
  ⟨none, .store 1 (.t 7) (.t 22), none⟩]
def f11r5 : List AIns := [⟨some 24, .mov (.t 6), none⟩,
  ⟨some 25, .mov (.t 6), none⟩,
  ⟨some 26, .mkFunc (.func 34) [(.t 25)] [], none⟩,
  ⟨some 27, .call (.c (.func (.func 37) #[] #[])) [(.t 24), (.t 26)], none⟩,
  ⟨some 23, .mov (.t 27), none⟩,
  ⟨some 28, .extract (.t 23) 0, none⟩,
  ⟨some 29, .extract (.t 23) 1, none⟩,
  ⟨some 8, .alloc 38 [(.slice none 0 0)], none⟩,
  ⟨none, .store 1 (.t 8) (.t 28), none⟩,
  ⟨some 9, .mov (.t 29), none⟩]
def f11r6 : List AIns := [⟨some 31, .mov (.t 6), none⟩,
  ⟨some 32, .mov (.t 9), none⟩,
  ⟨some 33, .mkFunc (.func 38) [] [(.t 7), (.t 8)], none⟩,
  ⟨some 34, .call (.c (.func (.func 35) #[] #[])) [(.t 31), (.t 32), (.t 33)], none⟩,
  ⟨some 30, .mov (.t 34), none⟩,
  ⟨some 35, .extract (.t 30) 0, none⟩,
  ⟨some 36, .extract (.t 30) 1, none⟩,
  ⟨some 10, .mov (.t 35), none⟩,
  ⟨some 11, .mov (.t 36), none⟩]
def f11r7 : List AIns := [⟨some 37, .mov (.t 11), none⟩,
  ⟨some 38, .bin .neq (.t 37) (.c (.int .i64 0)), none⟩]
def f11r8 : List AIns := [⟨some 39, .mov (.t 10), none⟩,
  ⟨some 40, .mov (.t 11), none⟩,
  ⟨some 2, .mov (.c (.int .i64 0)), none⟩,
  ⟨some 3, .mov (.c (.slice none 0 0)), none⟩,
  ⟨some 4, .mov (.t 39), none⟩,
  ⟨some 5, .mov (.t 40), none⟩]
def f11r9 : List AIns := [⟨some 41, .load1 (.t 7), none⟩,
  ⟨some 42, .load1 (.t 8), none⟩,
  ⟨some 43, .mov (.t 10), none⟩,
  ⟨some 2, .mov (.t 41), none⟩,
  ⟨some 3, .mov (.t 42), none⟩,
  ⟨some 4, .mov (.t 43), none⟩,
  ⟨some 5, .mov (.c (.int .i64 0)), none⟩]
def f11b : ACode := (.seq (.reg f11r0) (.seq (.reg f11r1) (.seq (.reg f11r2) (.seq (.reg f11r3) (.seq (.reg f11r4) (.seq (.reg f11r5) (.seq (.reg f11r6) (.seq (.seq (.reg f11r7) (.cond (.t 38) (.seq (.reg f11r8) .ret) .skip)) (.seq (.regD f11r9 [(0, []), (1, []), (2, []), (3, []), (4, []), (5, []), (6, [])]) .ret)))))))))
def f11 : AFn := ⟨44, f11b, [.tmp 2, .tmp 3, .tmp 4, .tmp 5], .pure⟩
theorem f11_is : cFn Tryz.prog .pure 11 = some f11 := by kernel_rfl

/-- bocage/bocageref19.Read -/
def f12r0 : List AIns := [⟨some 4, .alloc 27 [(.bool false), (.int .i64 0), (.bool false), (.int .i64 0), (.slice none 0 0)], none⟩,
  ⟨some 5, .mov (.c (.int .i64 0)), none⟩,
  ⟨some 6, .mov (.c (.bool false)), none⟩]
def f12r1 : List AIns := [⟨some 21, .mov (.t 0), none⟩,
  ⟨some 22, .call (.c (.func (.func 40) #[] #[])) [(.t 21)], none⟩,
  ⟨some 20, .mov (.t 22), none⟩,
  ⟨some 23, .extract (.t 20) 0, none⟩,
  ⟨some 24, .extract (.t 20) 1, none⟩,
  ⟨some 7, .mov (.t 23), none⟩,
  ⟨some 8, .mov (.t 24), none⟩]
def f12r2 : List AIns := [⟨some 25, .mov (.t 8), none⟩,
  ⟨some 26, .bin .eql (.t 25) (.c (.int .i64 0)), none⟩,
  ⟨some 27, .mov (.t 26), none⟩,
  ⟨some 28, .mov (.t 7), some (27, false)⟩,
  ⟨some 29, .mov (.t 0), some (27, false)⟩,
  ⟨some 30, .lenStr (.t 29), some (27, false)⟩,
  ⟨some 31, .mov (.t 8), some (27, false)⟩,
  ⟨some 32, .bin .sub (.t 30) (.t 31), some (27, false)⟩,
  ⟨some 33, .bin .neq (.t 28) (.t 32), some (27, false)⟩,
  ⟨some 34, .pick (.t 27) (.c (.bool true)) (.t 33), none⟩]
def f12r3 : List AIns := [⟨some 35, .build [(.bool false), (.int .i64 0), (.bool false), (.int .i64 0), (.slice none 0 0)] [], none⟩,
  ⟨none, .store 5 (.t 4) (.t 35), none⟩,
  ⟨some 5, .mov (.c (.int .i64 0)), none⟩,
  ⟨some 6, .mov (.c (.bool false)), none⟩]
def f12r4 : List AIns := [⟨some 37, .mov (.t 0), none⟩,
  ⟨some 38, .mov (.t 8), none⟩,
  ⟨some 39, .mov (.t 1), none⟩,
  ⟨some 40, .call (.c (.func (.func 41) #[] #[])) [(.t 37), (.t 38), (.t 39)], none⟩,
  ⟨some 36, .mov (.t 40), none⟩,
  ⟨some 41, .extract (.t 36) 0, none⟩,
  ⟨some 42, .extract (.t 36) 1, none⟩,
  ⟨some 43, .extract (.t 36) 2, none⟩,
  ⟨some 9, .alloc 23 [(.int .i64 0), (.bool false), (.int .i64 0)], none⟩,
  ⟨none, .store 3 (.t 9) (.t 41), none⟩,
  ⟨some 10, .mov (.t 42), none⟩,
  ⟨some 11, .mov (.t 43), none⟩]
def f12r5 : List AIns := [⟨some 44, .mov (.t 11), none⟩,
  ⟨some 45, .un .not (.t 44), none⟩]
def f12r6 : List AIns := [⟨some 46, .build [(.bool false), (.int .i64 0), (.bool false), (.int .i64 0), (.slice none 0 0)] [], none⟩,
  ⟨some 47, .mov (.t 10), none⟩,
  ⟨none, .store 5 (.t 4) (.t 46), none⟩,
  ⟨some 5, .mov (.t 47), none⟩,
  ⟨some 6, .mov (.c (.bool false)), none⟩]
def f12r7 : List AIns := [⟨some 49, .mov (.t 0), none⟩,
  ⟨some 50, .mov (.t 10), none⟩,
  ⟨some 51, .sliceStr (.t 49) (some (.t 50)) none, none⟩,
  ⟨some 52, .call (.c (.func (.func 40) #[] #[])) [(.t 51)], none⟩,
  ⟨some 48, .mov (.t 52), none⟩,
  ⟨some 53, .extract (.t 48) 0, none⟩,
  ⟨some 54, .extract (.t 48) 1, none⟩,
  ⟨some 12, .mov (.t 53), none⟩,
  ⟨some 13, .mov (.t 54), none⟩]
def f12r8 : List AIns := [⟨some 55, .mov (.t 13), none⟩,
  ⟨some 56, .bin .eql (.t 55) (.c (.int .i64 0)), none⟩,
  ⟨some 57, .mov (.t 56), none⟩,
  ⟨some 58, .mov (.t 12), some (57, false)⟩,
  ⟨some 59, .bin .lss (.t 58) (.c (.int .i64 0)), some (57, false)⟩,
  ⟨some 60, .pick (.t 57) (.c (.bool true)) (.t 59), none⟩]
def f12r9 : List AIns := [⟨some 61, .build [(.bool false), (.int .i64 0), (.bool false), (.int .i64 0), (.slice none 0 0)] [], none⟩,
  ⟨some 62, .mov (.t 10), none⟩,
  ⟨none, .store 5 (.t 4) (.t 61), none⟩,
  ⟨some 5, .mov (.t 62), none⟩,
  ⟨some 6, .mov (.c (.bool false)), none⟩]
def f12r10 : List AIns := [⟨some 63, .mov (.t 10), none⟩,
  ⟨some 64, .mov (.t 13), none⟩,
  ⟨some 65, .bin .add (.t 63) (.t 64), none⟩,
  ⟨some 10, .mov (.t 65), none⟩]
def f12r11 : List AIns := [⟨some 66, .mov (.t 10), none⟩,
  ⟨some 14, .mov (.t 66), none⟩]
def f12r12 : List AIns := [⟨some 67, .mov (.t 1), none⟩,
  ⟨some 68, .loadN 3 (.t 9), none⟩,
  ⟨some 69, .build [(.bool false), (.int .i64 0), (.bool false), (.int .i64 0), (.slice none 0 0)] [(0, 1, (.t 67)), (1, 3, (.t 68))], none⟩,
  ⟨some 15, .alloc 27 [(.bool false), (.int .i64 0), (.bool false), (.int .i64 0), (.slice none 0 0)], none⟩,
  ⟨none, .store 5 (.t 15) (.t 69), none⟩]
def f12r13 : List AIns := [⟨some 16, .mov (.c (.int .i64 0)), none⟩]
def f12r14 : List AIns := [⟨some 70, .mov (.t 16), none⟩,
  ⟨some 71, .mov (.t 12), none⟩,
  ⟨some 72, .bin .lss (.t 70) (.t 71), none⟩]
def f12r15 : List AIns := [⟨some 76, .mov (.t 0), none⟩,
  ⟨some 77, .mov (.t 10), none⟩,
  ⟨some 78, .mov (.t 1), none⟩,
  ⟨some 79, .call (.c (.func (.func 42) #[] #[])) [(.t 76), (.t 77), (.t 78)], none⟩,
  ⟨some 75, .mov (.t 79), none⟩,
  ⟨some 80, .extract (.t 75) 0, none⟩,
  ⟨some 81, .extract (.t 75) 1, none⟩,
  ⟨some 82, .extract (.t 75) 2, none⟩,
  ⟨some 17, .alloc 58 [(.int .i64 0), (.int .i64 0), (.int .i64 0), (.int .i64 0), (.int .i64 0)], none⟩,
  ⟨none, .store 5 (.t 17) (.t 80), none⟩,
  ⟨some 18, .mov (.t 81), none⟩,
  ⟨some 19, .mov (.t 82), none⟩]
def f12r16 : List AIns := [⟨some 83, .mov (.t 18), none⟩,
  ⟨some 10, .mov (.t 83), none⟩]
def f12r17 : List AIns := [⟨some 84, .mov (.t 19), none⟩,
  ⟨some 85, .un .not (.t 84), none⟩]
def f12r18 : List AIns := [⟨some 86, .build [(.bool false), (.int .i64 0), (.bool false), (.int .i64 0), (.slice none 0 0)] [], none⟩,
  ⟨some 87, .mov (.t 10), none⟩,
  ⟨none, .store 5 (.t 4) (.t 86), none⟩,
  ⟨some 5, .mov (.t 87), none⟩,
  ⟨some 6, .mov (.c (.bool false)), none⟩]
def f12r19 : List AIns := [⟨some 88, .addOff 4 (.t 15), none⟩,
  ⟨some 89, .load1 (.t 88), none⟩,
  ⟨some 90, .loadN 5 (.t 17), none⟩,
  ⟨some 91, .buildSlice 58 1 [(.int .i64 0), (.int .i64 0), (.int .i64 0), (.int .i64 0), (.int .i64 0)] [(0, 5, (.t 90))], none⟩,
  ⟨some 92, .append 58 5 40 (.t 89) (.t 91), none⟩,
  ⟨some 93, .addOff 4 (.t 15), none⟩,
  ⟨none, .store 1 (.t 93) (.t 92), none⟩]
def f12r20 : List AIns := [⟨some 73, .mov (.t 16), none⟩,
  ⟨some 74, .bin .add (.t 73) (.c (.int .i64 1)), none⟩,
  ⟨some 16, .mov (.t 74), none⟩]
def f12l21 : ACode := (.seq (.seq (.reg f12r14) (.cond (.t 72) .skip (.exit 0))) (.seq (.block 1 (.seq (.reg f12r15) (.seq (.reg f12r16) (.seq (.seq (.reg f12r17) (.cond (.t 85) (.seq (.reg f12r18) .ret) .skip)) (.reg f12r19))))) (.reg f12r20)))
def f12r22 : List AIns := [⟨some 94, .mov (.t 10), none⟩,
  ⟨some 95, .mov (.t 0), none⟩,
  ⟨some 96, .lenStr (.t 95), none⟩,
  ⟨some 97, .bin .lss (.t 94) (.t 96), none⟩]
def f12r23 : List AIns := [⟨some 98, .build [(.bool false), (.int .i64 0), (.bool false), (.int .i64 0), (.slice none 0 0)] [], none⟩,
  ⟨some 99, .mov (.t 10), none⟩,
  ⟨none, .store 5 (.t 4) (.t 98), none⟩,
  ⟨some 5, .mov (.t 99), none⟩,
  ⟨some 6, .mov (.c (.bool false)), none⟩]
def f12r24 : List AIns := [⟨some 100, .loadN 5 (.t 15), none⟩,
  ⟨some 101, .call (.c (.func (.func 8) #[] #[])) [(.t 100)], none⟩,
  ⟨some 102, .un .not (.t 101), none⟩]
def f12r25 : List AIns := [⟨some 103, .build [(.bool false), (.int .i64 0), (.bool false), (.int .i64 0), (.slice none 0 0)] [], none⟩,
  ⟨some 104, .mov (.t 14), none⟩,
  ⟨none, .store 5 (.t 4) (.t 103), none⟩,
  ⟨some 5, .mov (.t 104), none⟩,
  ⟨some 6, .mov (.c (.bool false)), none⟩]
def f12r26 : List AIns := [⟨some 105, .loadN 5 (.t 15), none⟩,
  ⟨some 106, .mov (.t 10), none⟩,
  ⟨none, .store 5 (.t 4) (.t 105), none⟩,
  ⟨some 5, .mov (.t 106), none⟩,
  ⟨some 6, .mov (.c (.bool true)), none⟩]
def f12b : ACode := (.seq (.reg f12r0) (.seq (.reg f12r1) (.seq (.seq (.reg f12r2) (.cond (.t 34) (.seq (.reg f12r3) .ret) .skip)) (.seq (.reg f12r4) (.seq (.seq (.reg f12r5) (.cond (.t 45) (.seq (.reg f12r6) .ret) .skip)) (.seq (.reg f12r7) (.seq (.seq (.reg f12r8) (.cond (.t 60) (.seq (.reg f12r9) .ret) .skip)) (.seq (.reg f12r10) (.seq (.reg f12r11) (.seq (.reg f12r12) (.seq (.seq (.reg f12r13) (.block 0 (.loop f12l21))) (.seq (.seq (.reg f12r22) (.cond (.t 97) (.seq (.reg f12r23) .ret) .skip)) (.seq (.seq (.reg f12r24) (.cond (.t 102) (.seq (.reg f12r25) .ret) .skip)) (.seq (.reg f12r26) .ret))))))))))))))
def f12 : AFn := ⟨107, f12b, [.cellN 4 5, .tmp 5, .tmp 6], .pure⟩
theorem f12_is : cFn Tryz.prog .pure 12 = some f12 := by kernel_rfl

/-- bocage/bocageref03.Same -/
def f13r0 : List AIns := [⟨some 4, .mov (.c (.bool false)), none⟩]
def f13r1 : List AIns := [⟨some 6, .mov (.t 0), none⟩,
  ⟨some 7, .len (.t 6), none⟩,
  ⟨some 8, .mov (.t 1), none⟩,
  ⟨some 9, .len (.t 8), none⟩,
  ⟨some 10, .bin .neq (.t 7) (.t 9), none⟩]
def f13r2 : List AIns := [⟨some 4, .mov (.c (.bool false)), none⟩]
def f13r3 : List AIns := [⟨some 5, .mov (.c (.int .i64 0)), none⟩]
def f13r4 : List AIns := [⟨some 11, .mov (.t 5), none⟩,
  ⟨some 12, .mov (.t 0), none⟩,
  ⟨some 13, .len (.t 12), none⟩,
  ⟨some 14, .bin .lss (.t 11) (.t 13), none⟩]
def f13r5 : List AIns := [⟨some 17, .mov (.t 0), none⟩,
  ⟨some 18, .mov (.t 5), none⟩,
  ⟨some 19, .idxA 4 (.t 17) (.t 18), none⟩,
  ⟨some 20, .loadN 4 (.t 19), none⟩,
  ⟨some 21, .mov (.t 1), none⟩,
  ⟨some 22, .mov (.t 5), none⟩,
  ⟨some 23, .idxA 4 (.t 21) (.t 22), none⟩,
  ⟨some 24, .loadN 4 (.t 23), none⟩,
  ⟨some 25, .eqv true [.i, .i, .i, .i] true (.t 20) (.t 24), none⟩]
def f13r6 : List AIns := [⟨some 4, .mov (.c (.bool false)), none⟩]
def f13r7 : List AIns := [⟨some 15, .mov (.t 5), none⟩,
  ⟨some 16, .bin .add (.t 15) (.c (.int .i64 1)), none⟩,
  ⟨some 5, .mov (.t 16), none⟩]
def f13l8 : ACode := (.seq (.seq (.reg f13r4) (.cond (.t 14) .skip (.exit 0))) (.seq (.block 1 (.seq (.regD f13r5 [(0, []), (1, []), (2, []), (3, []), (4, []), (5, []), (6, []), (7, []), (8, [])]) (.cond (.t 25) (.seq (.reg f13r6) .ret) .skip))) (.reg f13r7)))
def f13r9 : List AIns := [⟨some 4, .mov (.c (.bool true)), none⟩]
def f13b : ACode := (.seq (.reg f13r0) (.seq (.seq (.reg f13r1) (.cond (.t 10) (.seq (.reg f13r2) .ret) .skip)) (.seq (.seq (.reg f13r3) (.block 0 (.loop f13l8))) (.seq (.reg f13r9) .ret))))
def f13 : AFn := ⟨26, f13b, [.tmp 4], .pure⟩
theorem f13_is : cFn Tryz.prog .pure 13 = some f13 := by kernel_rfl

/-- bocage/bocageref09.Spans -/
def f14r0 : List AIns := [⟨some 2, .mov (.c (.slice none 0 0)), none⟩]
def f14r1 : List AIns := [⟨some 3, .mov (.c (.slice none 0 0)), none⟩]
def f14r2 : List AIns := [⟨some 4, .mov (.c (.int .i64 0)), none⟩]
def f14r3 : List AIns := [⟨some 5, .mov (.t 4), none⟩,
  ⟨some 6, .mov (.t 0), none⟩,
  ⟨some 7, .len (.t 6), none⟩,
  ⟨some 8, .bin .lss (.t 5) (.t 7), none⟩]
def f14r4 : List AIns := [⟨some 11, .mov (.t 3), none⟩,
  ⟨some 12, .mov (.t 0), none⟩,
  ⟨some 13, .mov (.t 4), none⟩,
  ⟨some 14, .idxA 5 (.t 12) (.t 13), none⟩,
  ⟨some 15, .addOff 0 (.t 14), none⟩,
  ⟨some 16, .loadN 4 (.t 15), none⟩,
  ⟨some 17, .buildSlice 50 1 [(.int .i64 0), (.int .i64 0), (.int .i64 0), (.int .i64 0)] [(0, 4, (.t 16))], none⟩,
  ⟨some 18, .append 50 4 32 (.t 11) (.t 17), none⟩,
  ⟨some 3, .mov (.t 18), none⟩]
def f14r5 : List AIns := [⟨some 9, .mov (.t 4), none⟩,
  ⟨some 10, .bin .add (.t 9) (.c (.int .i64 1)), none⟩,
  ⟨some 4, .mov (.t 10), none⟩]
def f14l6 : ACode := (.seq (.seq (.reg f14r3) (.cond (.t 8) .skip (.exit 0))) (.seq (.block 1 (.reg f14r4)) (.reg f14r5)))
def f14r7 : List AIns := [⟨some 19, .mov (.t 3), none⟩,
  ⟨some 2, .mov (.t 19), none⟩]
def f14b : ACode := (.seq (.reg f14r0) (.seq (.reg f14r1) (.seq (.seq (.reg f14r2) (.block 0 (.loop f14l6))) (.seq (.reg f14r7) .ret))))
def f14 : AFn := ⟨20, f14b, [.tmp 2], .pure⟩
theorem f14_is : cFn Tryz.prog .pure 14 = some f14 := by kernel_rfl

/-- bocage/codec.Set -/
def f15r0 : List AIns := [⟨some 4, .mov (.c (.slice none 0 0)), none⟩]
def f15r1 : List AIns := [⟨some 8, .mov (.t 0), none⟩,
  ⟨some 9, .bin .lss (.t 8) (.c (.int .i64 0)), none⟩,
  ⟨some 10, .mov (.t 9), none⟩,
  ⟨some 11, .mov (.t 0), some (10, false)⟩,
  ⟨some 12, .bin .gtr (.t 11) (.c (.int .i64 2)), some (10, false)⟩,
  ⟨some 13, .pick (.t 10) (.c (.bool true)) (.t 12), none⟩,
  ⟨some 14, .mov (.t 13), none⟩,
  ⟨some 15, .mov (.t 0), some (14, false)⟩,
  ⟨some 16, .mov (.t 1), some (14, false)⟩,
  ⟨some 17, .call (.c (.func (.func 39) #[] #[])) [(.t 15), (.t 16)], some (14, false)⟩,
  ⟨some 18, .un .not (.t 17), some (14, false)⟩,
  ⟨some 19, .pick (.t 14) (.c (.bool true)) (.t 18), none⟩]
def f15r2 : List AIns := [⟨some 4, .mov (.c (.slice none 0 0)), none⟩]
def f15r3 : List AIns := [⟨some 20, .mov (.t 0), none⟩,
  ⟨some 21, .convInt .u8 (.t 20), none⟩,
  ⟨some 22, .buildSlice 5 2 [(.int .u8 0), (.int .u8 0)] [(0, 1, (.c (.int .u8 1))), (1, 1, (.t 21))], none⟩,
  ⟨some 23, .mov (.t 1), none⟩,
  ⟨some 24, .len (.t 23), none⟩,
  ⟨some 25, .call (.c (.func (.func 18) #[] #[])) [(.t 22), (.t 24)], none⟩,
  ⟨some 5, .mov (.t 25), none⟩]
def f15r4 : List AIns := [⟨some 26, .mov (.t 1), none⟩,
  ⟨some 27, .len (.t 26), none⟩,
  ⟨some 28, .mov (.c (.int .i64 0)), none⟩]
def f15r5 : List AIns := [⟨some 29, .bin .lss (.t 28) (.t 27), none⟩]
def f15r6 : List AIns := [⟨some 30, .idxA 4 (.t 26) (.t 28), none⟩,
  ⟨some 31, .loadN 4 (.t 30), none⟩,
  ⟨some 7, .alloc 50 [(.int .i64 0), (.int .i64 0), (.int .i64 0), (.int .i64 0)], none⟩,
  ⟨none, .store 4 (.t 7) (.t 31), none⟩]
def f15r7 : List AIns := [⟨some 32, .mov (.t 5), none⟩,
  ⟨some 33, .addOff 0 (.t 7), none⟩,
  ⟨some 34, .loadN 2 (.t 33), none⟩,
  ⟨some 35, .call (.c (.func (.func 21) #[] #[])) [(.t 32), (.t 34)], none⟩,
  ⟨some 36, .addOff 2 (.t 7), none⟩,
  ⟨some 37, .loadN 2 (.t 36), none⟩,
  ⟨some 38, .call (.c (.func (.func 21) #[] #[])) [(.t 35), (.t 37)], none⟩,
  ⟨some 5, .mov (.t 38), none⟩]
def f15r8 : List AIns := [⟨some 39, .bin .add (.t 28) (.c (.int .i64 1)), none⟩,
  ⟨some 28, .mov (.t 39), none⟩]
def f15l9 : ACode := (.seq (.reg f15r5) (.seq (.cond (.t 29) .skip (.exit 0)) (.seq (.block 1 (.seq (.reg f15r6) (.regD f15r7 [(0, []), (1, []), (2, []), (4, []), (5, []), (3, [5]), (6, []), (7, [])]))) (.reg f15r8))))
def f15r10 : List AIns := [⟨some 40, .mov (.t 5), none⟩,
  ⟨some 41, .call (.c (.func (.func 22) #[] #[])) [(.t 40)], none⟩,
  ⟨some 4, .mov (.t 41), none⟩]
def f15b : ACode := (.seq (.reg f15r0) (.seq (.seq (.reg f15r1) (.cond (.t 19) (.seq (.reg f15r2) .ret) .skip)) (.seq (.reg f15r3) (.seq (.seq (.reg f15r4) (.block 0 (.loop f15l9))) (.seq (.reg f15r10) .ret)))))
def f15 : AFn := ⟨42, f15b, [.tmp 4], .pure⟩
theorem f15_is : cFn Tryz.prog .pure 15 = some f15 := by kernel_rfl

/-- bocage/codec.ReadNum -/
def f17r0 : List AIns := [⟨some 2, .mov (.c (.int .i64 0)), none⟩,
  ⟨some 3, .mov (.c (.int .i64 0)), none⟩]
def f17r1 : List AIns := [⟨some 4, .mov (.c (.int .u64 0)), none⟩]
def f17r2 : List AIns := [⟨some 5, .mov (.c (.int .i64 0)), none⟩]
def f17r3 : List AIns := [⟨some 7, .mov (.t 5), none⟩,
  ⟨some 8, .mov (.t 0), none⟩,
  ⟨some 9, .len (.t 8), none⟩,
  ⟨some 10, .bin .lss (.t 7) (.t 9), none⟩,
  ⟨some 11, .mov (.t 10), none⟩,
  ⟨some 12, .mov (.t 5), some (11, true)⟩,
  ⟨some 13, .bin .lss (.t 12) (.c (.int .i64 10)), some (11, true)⟩,
  ⟨some 14, .pick (.t 11) (.t 13) (.c (.bool false)), none⟩]
def f17r4 : List AIns := [⟨some 17, .mov (.t 4), none⟩,
  ⟨some 18, .mov (.t 0), none⟩,
  ⟨some 19, .mov (.t 5), none⟩,
  ⟨some 20, .idxA 1 (.t 18) (.t 19), none⟩,
  ⟨some 21, .load1 (.t 20), none⟩,
  ⟨some 22, .bin .and (.t 21) (.c (.int .u8 127)), none⟩,
  ⟨some 23, .convInt .u64 (.t 22), none⟩,
  ⟨some 24, .mov (.t 5), none⟩,
  ⟨some 25, .bin .mul (.c (.int .i64 7)) (.t 24), none⟩,
  ⟨some 26, .bin .shl (.t 23) (.t 25), none⟩,
  ⟨some 27, .bin .or (.t 17) (.t 26), none⟩,
  ⟨some 4, .mov (.t 27), none⟩]
def f17r5 : List AIns := [⟨some 28, .mov (.t 0), none⟩,
  ⟨some 29, .mov (.t 5), none⟩,
  ⟨some 30, .idxA 1 (.t 28) (.t 29), none⟩,
  ⟨some 31, .load1 (.t 30), none⟩,
  ⟨some 32, .bin .geq (.t 31) (.c (.int .u8 128)), none⟩]
def f17r6 : List AIns := [⟨some 33, .mov (.t 4), none⟩,
  ⟨some 34, .bin .shr (.t 33) (.c (.int .u64 1)), none⟩,
  ⟨some 35, .convInt .i64 (.t 34), none⟩,
  ⟨some 36, .mov (.t 4), none⟩,
  ⟨some 37, .bin .and (.t 36) (.c (.int .u64 1)), none⟩,
  ⟨some 38, .convInt .i64 (.t 37), none⟩,
  ⟨some 39, .un .neg (.t 38), none⟩,
  ⟨some 40, .bin .xor (.t 35) (.t 39), none⟩,
  ⟨some 6, .mov (.t 40), none⟩]
def f17r7 : List AIns := [⟨some 41, .mov (.t 6), none⟩,
  ⟨some 42, .call (.c (.func (.func 18) #[] #[])) [(.c (.slice none 0 0)), (.t 41)], none⟩,
  ⟨some 43, .mov (.t 0), none⟩,
  ⟨some 44, .mov (.t 5), none⟩,
  ⟨some 45, .bin .add (.t 44) (.c (.int .i64 1)), none⟩,
  ⟨some 46, .slice 5 1 (.t 43) none (some (.t 45)) none, none⟩,
  ⟨some 47, .call (.c (.func (.func 43) #[] #[])) [(.t 42), (.t 46)], none⟩,
  ⟨some 48, .un .not (.t 47), none⟩]
def f17r8 : List AIns := [⟨some 2, .mov (.c (.int .i64 0)), none⟩,
  ⟨some 3, .mov (.c (.int .i64 0)), none⟩]
def f17r9 : List AIns := [⟨some 49, .mov (.t 6), none⟩,
  ⟨some 50, .mov (.t 5), none⟩,
  ⟨some 51, .bin .add (.t 50) (.c (.int .i64 1)), none⟩,
  ⟨some 2, .mov (.t 49), none⟩,
  ⟨some 3, .mov (.t 51), none⟩]
def f17r10 : List AIns := [⟨some 15, .mov (.t 5), none⟩,
  ⟨some 16, .bin .add (.t 15) (.c (.int .i64 1)), none⟩,
  ⟨some 5, .mov (.t 16), none⟩]
def f17l11 : ACode := (.seq (.seq (.reg f17r3) (.cond (.t 14) .skip (.exit 0))) (.seq (.block 1 (.seq (.reg f17r4) (.seq (.seq (.reg f17r5) (.cond (.t 32) (.exit 1) .skip)) (.seq (.reg f17r6) (.seq (.seq (.regD f17r7 [(0, []), (2, []), (3, []), (4, []), (5, []), (1, [5]), (6, []), (7, [])]) (.cond (.t 48) (.seq (.reg f17r8) .ret) .skip)) (.seq (.reg f17r9) .ret)))))) (.reg f17r10)))
def f17r12 : List AIns := [⟨some 2, .mov (.c (.int .i64 0)), none⟩,
  ⟨some 3, .mov (.c (.int .i64 0)), none⟩]
def f17b : ACode := (.seq (.reg f17r0) (.seq (.reg f17r1) (.seq (.seq (.reg f17r2) (.block 0 (.loop f17l11))) (.seq (.reg f17r12) .ret))))
def f17 : AFn := ⟨52, f17b, [.tmp 2, .tmp 3], .pure⟩
theorem f17_is : cFn Tryz.prog .pure 17 = some f17 := by kernel_rfl

/-- bocage/codec.Num -/
def f18r0 : List AIns := [⟨some 4, .mov (.c (.slice none 0 0)), none⟩]
def f18r1 : List AIns := [⟨some 6, .mov (.t 1), none⟩,
  ⟨some 7, .convInt .u64 (.t 6), none⟩,
  ⟨some 8, .bin .shl (.t 7) (.c (.int .u64 1)), none⟩,
  ⟨some 9, .mov (.t 1), none⟩,
  ⟨some 10, .bin .shr (.t 9) (.c (.int .u64 63)), none⟩,
  ⟨some 11, .convInt .u64 (.t 10), none⟩,
  ⟨some 12, .bin .xor (.t 8) (.t 11), none⟩,
  ⟨some 5, .mov (.t 12), none⟩]
def f18r2 : List AIns := [⟨some 13, .mov (.t 5), none⟩,
  ⟨some 14, .bin .geq (.t 13) (.c (.int .u64 128)), none⟩]
def f18r3 : List AIns := [⟨some 15, .mov (.t 0), none⟩,
  ⟨some 16, .mov (.t 5), none⟩,
  ⟨some 17, .convInt .u8 (.t 16), none⟩,
  ⟨some 18, .bin .or (.t 17) (.c (.int .u8 128)), none⟩,
  ⟨some 19, .buildSlice 5 1 [(.int .u8 0)] [(0, 1, (.t 18))], none⟩,
  ⟨some 20, .append 5 1 1 (.t 15) (.t 19), none⟩,
  ⟨some 0, .mov (.t 20), none⟩]
def f18r4 : List AIns := [⟨some 21, .mov (.t 5), none⟩,
  ⟨some 22, .bin .shr (.t 21) (.c (.int .u64 7)), none⟩,
  ⟨some 5, .mov (.t 22), none⟩]
def f18l5 : ACode := (.seq (.seq (.reg f18r2) (.cond (.t 14) .skip (.exit 0))) (.block 1 (.seq (.reg f18r3) (.reg f18r4))))
def f18r6 : List AIns := [⟨some 23, .mov (.t 0), none⟩,
  ⟨some 24, .mov (.t 5), none⟩,
  ⟨some 25, .convInt .u8 (.t 24), none⟩,
  ⟨some 26, .buildSlice 5 1 [(.int .u8 0)] [(0, 1, (.t 25))], none⟩,
  ⟨some 27, .append 5 1 1 (.t 23) (.t 26), none⟩,
  ⟨some 4, .mov (.t 27), none⟩]
def f18b : ACode := (.seq (.reg f18r0) (.seq (.reg f18r1) (.seq (.block 0 (.loop f18l5)) (.seq (.reg f18r6) .ret))))
def f18 : AFn := ⟨28, f18b, [.tmp 4], .plain⟩
theorem f18_is : cFn Tryz.prog .plain 18 = some f18 := by kernel_rfl

/-- bocage/codec.right -/
def f19r0 : List AIns := [⟨some 1, .box 30 (.t 0), none⟩,
  ⟨some 2, .mov (.c (.bool false)), none⟩]
def f19r1 : List AIns := [⟨some 6, .loadN 3 (.t 1), none⟩,
  ⟨some 7, .call (.c (.func (.func 44) #[] #[])) [(.t 6), (.c (.int .i64 0)), (.c (.int .i64 0))], none⟩,
  ⟨some 5, .mov (.t 7), none⟩,
  ⟨some 8, .extract (.t 5) 0, none⟩,
  ⟨some 9, .extract (.t 5) 1, none⟩,
  ⟨some 3, .mov (.t 8), none⟩,
  ⟨some 4, .mov (.t 9), none⟩]
def f19r2 : List AIns := [⟨some 10, .mov (.t 4), none⟩,
  ⟨some 11, .bin .eql (.t 10) (.c (.int .i64 0)), none⟩,
  ⟨some 2, .mov (.t 11), none⟩]
def f19b : ACode := (.seq (.reg f19r0) (.seq (.reg f19r1) (.seq (.reg f19r2) .ret)))
def f19 : AFn := ⟨12, f19b, [.tmp 2], .pure⟩
theorem f19_is : cFn Tryz.prog .pure 19 = some f19 := by kernel_rfl

/-- bocage/imap.Fine -/
def f20r0 : List AIns := [⟨some 2, .box 30 (.t 0), none⟩,
  ⟨some 4, .mov (.c (.bool false)), none⟩]
def f20r1 : List AIns := [⟨some 5, .mov (.t 1), none⟩,
  ⟨some 6, .call (.c (.func (.func 46) #[] #[])) [(.t 5)], none⟩,
  ⟨some 7, .call (.c (.func (.func 45) #[] #[])) [(.t 6)], none⟩,
  ⟨some 8, .mov (.t 7), none⟩,
  ⟨some 9, .loadN 3 (.t 2), some (8, true)⟩,
  ⟨some 10, .mov (.t 1), some (8, true)⟩,
  ⟨some 11, .call (.c (.func (.func 48) #[] #[])) [(.t 9), (.t 10)], some (8, true)⟩,
  ⟨some 12, .mov (.t 1), some (8, true)⟩,
  ⟨some 13, .call (.c (.func (.func 47) #[] #[])) [(.t 11), (.t 12)], some (8, true)⟩,
  ⟨some 14, .pick (.t 8) (.t 13) (.c (.bool false)), none⟩,
  ⟨some 4, .mov (.t 14), none⟩]
def f20b : ACode := (.seq (.reg f20r0) (.seq (.reg f20r1) .ret))
def f20 : AFn := ⟨15, f20b, [.tmp 4], .pure⟩
theorem f20_is : cFn Tryz.prog .pure 20 = some f20 := by kernel_rfl

/-- bocage/codec.Cut -/
def f21r0 : List AIns := [⟨some 3, .box 48 (.t 1), none⟩,
  ⟨some 4, .mov (.c (.slice none 0 0)), none⟩]
def f21r1 : List AIns := [⟨some 5, .loadN 2 (.t 3), none⟩,
  ⟨some 6, .call (.c (.func (.func 49) #[] #[])) [(.t 5)], none⟩,
  ⟨none, .store 2 (.t 3) (.t 6), none⟩]
def f21r2 : List AIns := [⟨some 7, .addOff 0 (.t 3), none⟩,
  ⟨some 8, .load1 (.t 7), none⟩]
def f21r3 : List AIns := [⟨some 10, .bin .eql (.t 8) (.c (.int .i64 (-1))), none⟩,
  ⟨some 9, .mov (.t 10), none⟩]
def f21r4 : List AIns := [⟨some 11, .mov (.t 0), none⟩,
  ⟨some 12, .buildSlice 5 1 [(.int .u8 0)] [(0, 1, (.c (.int .u8 0)))], none⟩,
  ⟨some 13, .append 5 1 1 (.t 11) (.t 12), none⟩,
  ⟨some 4, .mov (.t 13), none⟩]
def f21r5 : List AIns := [⟨some 15, .bin .eql (.t 8) (.c (.int .i64 1)), none⟩,
  ⟨some 14, .mov (.t 15), none⟩]
def f21r6 : List AIns := [⟨some 16, .mov (.t 0), none⟩,
  ⟨some 17, .buildSlice 5 1 [(.int .u8 0)] [(0, 1, (.c (.int .u8 2)))], none⟩,
  ⟨some 18, .append 5 1 1 (.t 16) (.t 17), none⟩,
  ⟨some 4, .mov (.t 18), none⟩]
def f21r7 : List AIns := [⟨some 19, .mov (.t 0), none⟩,
  ⟨some 20, .buildSlice 5 1 [(.int .u8 0)] [(0, 1, (.c (.int .u8 1)))], none⟩,
  ⟨some 21, .append 5 1 1 (.t 19) (.t 20), none⟩,
  ⟨some 22, .addOff 1 (.t 3), none⟩,
  ⟨some 23, .load1 (.t 22), none⟩,
  ⟨some 24, .call (.c (.func (.func 18) #[] #[])) [(.t 21), (.t 23)], none⟩,
  ⟨some 4, .mov (.t 24), none⟩]
def f21b : ACode := (.seq (.reg f21r0) (.seq (.seq (.reg f21r1) (.seq (.reg f21r2) (.block 0 (.seq (.reg f21r3) (.cond (.t 9) (.seq (.reg f21r4) .ret) (.seq (.reg f21r5) (.cond (.t 14) (.seq (.reg f21r6) .ret) .skip))))))) (.seq (.regD f21r7 [(0, []), (1, []), (3, []), (4, []), (2, [4]), (5, []), (6, [])]) .ret)))
def f21 : AFn := ⟨25, f21b, [.tmp 4], .plain⟩
theorem f21_is : cFn Tryz.prog .plain 21 = some f21 := by kernel_rfl

/-- bocage/codec.sized -/
def f22r0 : List AIns := [⟨some 2, .mov (.c (.slice none 0 0)), none⟩]
def f22r1 : List AIns := [⟨some 3, .mov (.t 0), none⟩,
  ⟨some 4, .len (.t 3), none⟩,
  ⟨some 5, .call (.c (.func (.func 18) #[] #[])) [(.c (.slice none 0 0)), (.t 4)], none⟩,
  ⟨some 6, .mov (.t 0), none⟩,
  ⟨some 7, .append 5 1 1 (.t 5) (.t 6), none⟩,
  ⟨some 2, .mov (.t 7), none⟩]
def f22b : ACode := (.seq (.reg f22r0) (.seq (.reg f22r1) .ret))
def f22 : AFn := ⟨8, f22b, [.tmp 2], .plain⟩
theorem f22_is : cFn Tryz.prog .plain 22 = some f22 := by kernel_rfl

/-- bocage/bocageref19.Num -/
def f23r0 : List AIns := [⟨some 2, .mov (.c (.string ⟨#[]⟩)), none⟩]
def f23r1 : List AIns := [⟨some 3, .mov (.c (.int .u64 0)), none⟩]
def f23r2 : List AIns := [⟨some 5, .mov (.t 0), none⟩,
  ⟨some 6, .bin .geq (.t 5) (.c (.int .i64 0)), none⟩]
def f23r3 : List AIns := [⟨some 7, .mov (.t 0), none⟩,
  ⟨some 8, .convInt .u64 (.t 7), none⟩,
  ⟨some 9, .bin .mul (.c (.int .u64 2)) (.t 8), none⟩,
  ⟨some 3, .mov (.t 9), none⟩]
def f23r4 : List AIns := [⟨some 10, .mov (.t 0), none⟩,
  ⟨some 11, .bin .add (.t 10) (.c (.int .i64 1)), none⟩,
  ⟨some 12, .un .neg (.t 11), none⟩,
  ⟨some 13, .convInt .u64 (.t 12), none⟩,
  ⟨some 14, .bin .mul (.c (.int .u64 2)) (.t 13), none⟩,
  ⟨some 15, .bin .add (.t 14) (.c (.int .u64 1)), none⟩,
  ⟨some 3, .mov (.t 15), none⟩]
def f23r5 : List AIns := [⟨some 4, .mov (.c (.string ⟨#[]⟩)), none⟩]
def f23r6 : List AIns := [⟨some 16, .mov (.t 3), none⟩,
  ⟨some 17, .bin .geq (.t 16) (.c (.int .u64 128)), none⟩]
def f23r7 : List AIns := [⟨some 18, .mov (.t 4), none⟩,
  ⟨some 19, .mov (.t 3), none⟩,
  ⟨some 20, .bin .rem (.t 19) (.c (.int .u64 128)), none⟩,
  ⟨some 21, .bin .add (.t 20) (.c (.int .u64 128)), none⟩,
  ⟨some 22, .convInt .u8 (.t 21), none⟩,
  ⟨some 23, .buildSlice 5 1 [(.int .u8 0)] [(0, 1, (.t 22))], none⟩,
  ⟨some 24, .bytesStr (.t 23), none⟩,
  ⟨some 25, .bin .add (.t 18) (.t 24), none⟩,
  ⟨some 4, .mov (.t 25), none⟩]
def f23r8 : List AIns := [⟨some 26, .mov (.t 3), none⟩,
  ⟨some 27, .bin .quo (.t 26) (.c (.int .u64 128)), none⟩,
  ⟨some 3, .mov (.t 27), none⟩]
def f23l9 : ACode := (.seq (.seq (.reg f23r6) (.cond (.t 17) .skip (.exit 0))) (.block 1 (.seq (.reg f23r7) (.reg f23r8))))
def f23r10 : List AIns := [⟨some 28, .mov (.t 4), none⟩,
  ⟨some 29, .mov (.t 3), none⟩,
  ⟨some 30, .convInt .u8 (.t 29), none⟩,
  ⟨some 31, .buildSlice 5 1 [(.int .u8 0)] [(0, 1, (.t 30))], none⟩,
  ⟨some 32, .bytesStr (.t 31), none⟩,
  ⟨some 33, .bin .add (.t 28) (.t 32), none⟩,
  ⟨some 2, .mov (.t 33), none⟩]
def f23b : ACode := (.seq (.reg f23r0) (.seq (.reg f23r1) (.seq (.seq (.reg f23r2) (.cond (.t 6) (.reg f23r3) (.reg f23r4))) (.seq (.reg f23r5) (.seq (.block 0 (.loop f23l9)) (.seq (.reg f23r10) .ret))))))
def f23 : AFn := ⟨34, f23b, [.tmp 2], .pure⟩
theorem f23_is : cFn Tryz.prog .pure 23 = some f23 := by kernel_rfl

/-- bocage/bocageref19.Cut -/
def f24r0 : List AIns := [⟨some 1, .box 48 (.t 0), none⟩,
  ⟨some 2, .mov (.c (.string ⟨#[]⟩)), none⟩]
def f24r1 : List AIns := [⟨some 3, .loadN 2 (.t 1), none⟩,
  ⟨some 4, .call (.c (.func (.func 50) #[] #[])) [(.t 3)], none⟩,
  ⟨none, .store 2 (.t 1) (.t 4), none⟩]
def f24r2 : List AIns := [⟨some 5, .addOff 0 (.t 1), none⟩,
  ⟨some 6, .load1 (.t 5), none⟩,
  ⟨some 7, .bin .lss (.t 6) (.c (.int .i64 0)), none⟩]
def f24r3 : List AIns := [⟨some 2, .mov (.c (.string ⟨#[0]⟩)), none⟩]
def f24r4 : List AIns := [⟨some 8, .addOff 0 (.t 1), none⟩,
  ⟨some 9, .load1 (.t 8), none⟩,
  ⟨some 10, .bin .gtr (.t 9) (.c (.int .i64 0)), none⟩]
def f24r5 : List AIns := [⟨some 2, .mov (.c (.string ⟨#[2]⟩)), none⟩]
def f24r6 : List AIns := [⟨some 11, .addOff 1 (.t 1), none⟩,
  ⟨some 12, .load1 (.t 11), none⟩,
  ⟨some 13, .call (.c (.func (.func 23) #[] #[])) [(.t 12)], none⟩,
  ⟨some 14, .bin .add (.c (.string ⟨#[1]⟩)) (.t 13), none⟩,
  ⟨some 2, .mov (.t 14), none⟩]
def f24b : ACode := (.seq (.reg f24r0) (.seq (.reg f24r1) (.seq (.seq (.reg f24r2) (.cond (.t 7) (.seq (.reg f24r3) .ret) .skip)) (.seq (.seq (.reg f24r4) (.cond (.t 10) (.seq (.reg f24r5) .ret) .skip)) (.seq (.reg f24r6) .ret)))))
def f24 : AFn := ⟨15, f24b, [.tmp 2], .pure⟩
theorem f24_is : cFn Tryz.prog .pure 24 = some f24 := by kernel_rfl

/-- bocage/bocageref14.Right -/
def f25r0 : List AIns := [⟨some 3, .box 23 (.t 0), none⟩,
  ⟨some 6, .mov (.c (.bool false)), none⟩]
def f25r1 : List AIns := [⟨some 7, .addOff 0 (.t 3), none⟩,
  ⟨some 8, .load1 (.t 7), none⟩,
  ⟨some 9, .bin .neq (.t 8) (.c (.int .i64 0)), none⟩,
  ⟨some 10, .mov (.t 9), none⟩,
  ⟨some 11, .addOff 0 (.t 3), some (10, true)⟩,
  ⟨some 12, .load1 (.t 11), some (10, true)⟩,
  ⟨some 13, .bin .neq (.t 12) (.c (.int .i64 2)), some (10, true)⟩,
  ⟨some 14, .pick (.t 10) (.t 13) (.c (.bool false)), none⟩,
  ⟨some 15, .mov (.t 14), none⟩,
  ⟨some 16, .addOff 1 (.t 3), some (15, false)⟩,
  ⟨some 17, .load1 (.t 16), some (15, false)⟩,
  ⟨some 18, .un .not (.t 17), some (15, false)⟩,
  ⟨some 19, .mov (.t 18), some (15, false)⟩,
  ⟨some 20, .addOff 2 (.t 3), some (19, true)⟩,
  ⟨some 21, .load1 (.t 20), some (19, true)⟩,
  ⟨some 22, .bin .neq (.t 21) (.c (.int .i64 0)), some (19, true)⟩,
  ⟨some 23, .pick (.t 19) (.t 22) (.c (.bool false)), some (15, false)⟩,
  ⟨some 24, .pick (.t 15) (.c (.bool true)) (.t 23), none⟩]
def f25r2 : List AIns := [⟨some 6, .mov (.c (.bool false)), none⟩]
def f25r3 : List AIns := [⟨some 25, .mov (.t 1), none⟩,
  ⟨some 26, .bin .eql (.t 25) (.c (.int .i64 0)), none⟩,
  ⟨some 27, .mov (.t 26), none⟩,
  ⟨some 28, .mov (.t 1), some (27, false)⟩,
  ⟨some 29, .bin .geq (.t 28) (.c (.int .i64 2)), some (27, false)⟩,
  ⟨some 30, .mov (.t 29), some (27, false)⟩,
  ⟨some 31, .mov (.t 1), some (30, true)⟩,
  ⟨some 32, .bin .leq (.t 31) (.c (.int .i64 64)), some (30, true)⟩,
  ⟨some 33, .pick (.t 30) (.t 32) (.c (.bool false)), some (27, false)⟩,
  ⟨some 34, .pick (.t 27) (.c (.bool true)) (.t 33), none⟩,
  ⟨some 35, .mov (.t 34), none⟩,
  ⟨some 36, .mov (.t 2), some (35, true)⟩,
  ⟨some 37, .bin .geq (.t 36) (.c (.int .i64 0)), some (35, true)⟩,
  ⟨some 38, .pick (.t 35) (.t 37) (.c (.bool false)), none⟩,
  ⟨some 39, .mov (.t 38), none⟩,
  ⟨some 40, .mov (.t 2), some (39, true)⟩,
  ⟨some 41, .bin .leq (.t 40) (.c (.int .i64 4096)), some (39, true)⟩,
  ⟨some 42, .pick (.t 39) (.t 41) (.c (.bool false)), none⟩,
  ⟨some 6, .mov (.t 42), none⟩]
def f25b : ACode := (.seq (.reg f25r0) (.seq (.seq (.reg f25r1) (.cond (.t 24) (.seq (.reg f25r2) .ret) .skip)) (.seq (.reg f25r3) .ret)))
def f25 : AFn := ⟨43, f25b, [.tmp 6], .pure⟩
theorem f25_is : cFn Tryz.prog .pure 25 = some f25 := by kernel_rfl

/-- bocage/bocageref14.Fine -/
def f26r0 : List AIns := [⟨some 2, .box 23 (.t 0), none⟩,
  ⟨some 4, .mov (.c (.bool false)), none⟩]
def f26r1 : List AIns := [⟨some 5, .mov (.t 1), none⟩,
  ⟨some 6, .call (.c (.func (.func 51) #[] #[])) [(.t 5)], none⟩,
  ⟨some 7, .mov (.t 6), none⟩,
  ⟨some 8, .loadN 3 (.t 2), some (7, true)⟩,
  ⟨some 9, .mov (.t 1), some (7, true)⟩,
  ⟨some 10, .call (.c (.func (.func 52) #[] #[])) [(.t 8), (.t 9)], some (7, true)⟩,
  ⟨some 11, .mov (.t 1), some (7, true)⟩,
  ⟨some 12, .call (.c (.func (.func 10) #[] #[])) [(.t 10), (.t 11)], some (7, true)⟩,
  ⟨some 13, .pick (.t 7) (.t 12) (.c (.bool false)), none⟩,
  ⟨some 4, .mov (.t 13), none⟩]
def f26b : ACode := (.seq (.reg f26r0) (.seq (.reg f26r1) .ret))
def f26 : AFn := ⟨14, f26b, [.tmp 4], .pure⟩
theorem f26_is : cFn Tryz.prog .pure 26 = some f26 := by kernel_rfl

/-- bocage/bocageref10.Right -/
def f27r0 : List AIns := [⟨some 6, .mov (.c (.bool false)), none⟩]
def f27r1 : List AIns := [⟨some 7, .mov (.t 0), none⟩,
  ⟨some 8, .bin .geq (.t 7) (.c (.int .i64 0)), none⟩,
  ⟨some 9, .mov (.t 8), none⟩,
  ⟨some 10, .mov (.t 0), some (9, true)⟩,
  ⟨some 11, .bin .leq (.t 10) (.c (.int .i64 2)), some (9, true)⟩,
  ⟨some 12, .pick (.t 9) (.t 11) (.c (.bool false)), none⟩,
  ⟨some 13, .mov (.t 12), none⟩,
  ⟨some 14, .mov (.t 1), some (13, true)⟩,
  ⟨some 15, .bin .eql (.t 14) (.c (.int .i64 0)), some (13, true)⟩,
  ⟨some 16, .mov (.t 15), some (13, true)⟩,
  ⟨some 17, .mov (.t 1), some (16, false)⟩,
  ⟨some 18, .bin .geq (.t 17) (.c (.int .i64 2)), some (16, false)⟩,
  ⟨some 19, .mov (.t 18), some (16, false)⟩,
  ⟨some 20, .mov (.t 1), some (19, true)⟩,
  ⟨some 21, .bin .leq (.t 20) (.c (.int .i64 64)), some (19, true)⟩,
  ⟨some 22, .pick (.t 19) (.t 21) (.c (.bool false)), some (16, false)⟩,
  ⟨some 23, .pick (.t 16) (.c (.bool true)) (.t 22), some (13, true)⟩,
  ⟨some 24, .pick (.t 13) (.t 23) (.c (.bool false)), none⟩,
  ⟨some 25, .mov (.t 24), none⟩,
  ⟨some 26, .mov (.t 2), some (25, true)⟩,
  ⟨some 27, .bin .geq (.t 26) (.c (.int .i64 0)), some (25, true)⟩,
  ⟨some 28, .pick (.t 25) (.t 27) (.c (.bool false)), none⟩,
  ⟨some 29, .mov (.t 28), none⟩,
  ⟨some 30, .mov (.t 2), some (29, true)⟩,
  ⟨some 31, .bin .leq (.t 30) (.c (.int .i64 4096)), some (29, true)⟩,
  ⟨some 32, .pick (.t 29) (.t 31) (.c (.bool false)), none⟩,
  ⟨some 6, .mov (.t 32), none⟩]
def f27b : ACode := (.seq (.reg f27r0) (.seq (.reg f27r1) .ret))
def f27 : AFn := ⟨33, f27b, [.tmp 6], .pure⟩
theorem f27_is : cFn Tryz.prog .pure 27 = some f27 := by kernel_rfl

/-- bocage/bocageref10.Fine -/
def f28r0 : List AIns := [⟨some 4, .mov (.c (.bool false)), none⟩]
def f28r1 : List AIns := [⟨some 5, .mov (.c (.int .i64 1)), none⟩]
def f28r2 : List AIns := [⟨some 6, .mov (.t 5), none⟩,
  ⟨some 7, .mov (.t 1), none⟩,
  ⟨some 8, .len (.t 7), none⟩,
  ⟨some 9, .bin .lss (.t 6) (.t 8), none⟩]
def f28r3 : List AIns := [⟨some 12, .mov (.t 0), none⟩,
  ⟨some 13, .bin .eql (.t 12) (.c (.int .i64 0)), none⟩,
  ⟨some 14, .mov (.t 13), none⟩,
  ⟨some 15, .mov (.t 1), some (14, true)⟩,
  ⟨some 16, .mov (.t 5), some (14, true)⟩,
  ⟨some 17, .bin .sub (.t 16) (.c (.int .i64 1)), some (14, true)⟩,
  ⟨some 18, .idxA 4 (.t 15) (.t 17), some (14, true)⟩,
  ⟨some 19, .addOff 2 (.t 18), some (14, true)⟩,
  ⟨some 20, .loadN 2 (.t 19), some (14, true)⟩,
  ⟨some 21, .mov (.t 1), some (14, true)⟩,
  ⟨some 22, .mov (.t 5), some (14, true)⟩,
  ⟨some 23, .idxA 4 (.t 21) (.t 22), some (14, true)⟩,
  ⟨some 24, .addOff 0 (.t 23), some (14, true)⟩,
  ⟨some 25, .loadN 2 (.t 24), some (14, true)⟩,
  ⟨some 26, .eqv false [.i, .i] true (.t 20) (.t 25), some (14, true)⟩,
  ⟨some 27, .pick (.t 14) (.t 26) (.c (.bool false)), none⟩]
def f28r4 : List AIns := [⟨some 4, .mov (.c (.bool false)), none⟩]
def f28r5 : List AIns := [⟨some 10, .mov (.t 5), none⟩,
  ⟨some 11, .bin .add (.t 10) (.c (.int .i64 1)), none⟩,
  ⟨some 5, .mov (.t 11), none⟩]
def f28l6 : ACode := (.seq (.seq (.reg f28r2) (.cond (.t 9) .skip (.exit 0))) (.seq (.block 1 (.seq (.regD f28r3 [(0, []), (1, []), (2, []), (3, []), (4, []), (5, []), (6, []), (7, []), (8, []), (9, []), (10, []), (11, []), (12, []), (13, []), (14, []), (15, [])]) (.cond (.t 27) (.seq (.reg f28r4) .ret) .skip))) (.reg f28r5)))
def f28r7 : List AIns := [⟨some 28, .mov (.t 1), none⟩,
  ⟨some 29, .call (.c (.func (.func 53) #[] #[])) [(.t 28)], none⟩,
  ⟨some 4, .mov (.t 29), none⟩]
def f28b : ACode := (.seq (.reg f28r0) (.seq (.seq (.reg f28r1) (.block 0 (.loop f28l6))) (.seq (.reg f28r7) .ret)))
def f28 : AFn := ⟨30, f28b, [.tmp 4], .pure⟩
theorem f28_is : cFn Tryz.prog .pure 28 = some f28 := by kernel_rfl

/-- (*bocage/codec.reader).length -/
def f29r0 : List AIns := [⟨some 5, .mov (.t 0), none⟩,
  ⟨some 6, .nilCheck (.t 5), none⟩,
  ⟨some 7, .addOff 0 (.t 6), none⟩,
  ⟨some 8, .load1 (.t 7), none⟩,
  ⟨some 9, .call (.c (.func (.func 17) #[] #[])) [(.t 8)], none⟩,
  ⟨some 4, .mov (.t 9), none⟩,
  ⟨some 10, .extract (.t 4) 0, none⟩,
  ⟨some 11, .extract (.t 4) 1, none⟩,
  ⟨some 2, .mov (.t 10), none⟩,
  ⟨some 3, .mov (.t 11), none⟩]
def f29r1 : List AIns := [⟨some 12, .mov (.t 3), none⟩,
  ⟨some 13, .bin .gtr (.t 12) (.c (.int .i64 0)), none⟩,
  ⟨some 14, .mov (.t 13), none⟩,
  ⟨some 15, .mov (.t 2), some (14, true)⟩,
  ⟨some 16, .mov (.t 0), some (14, true)⟩,
  ⟨some 17, .nilCheck (.t 16), some (14, true)⟩,
  ⟨some 18, .addOff 0 (.t 17), some (14, true)⟩,
  ⟨some 19, .load1 (.t 18), some (14, true)⟩,
  ⟨some 20, .len (.t 19), some (14, true)⟩,
  ⟨some 21, .mov (.t 3), some (14, true)⟩,
  ⟨some 22, .bin .sub (.t 20) (.t 21), some (14, true)⟩,
  ⟨some 23, .bin .neq (.t 15) (.t 22), some (14, true)⟩,
  ⟨some 24, .pick (.t 14) (.t 23) (.c (.bool false)), none⟩]
def f29r2 : List AIns := [⟨some 3, .mov (.c (.int .i64 0)), none⟩]
def f29r3 : List AIns := [⟨some 25, .mov (.t 0), none⟩,
  ⟨some 26, .mov (.t 3), none⟩,
  ⟨some 27, .call (.c (.func (.func 54) #[] #[])) [(.t 25), (.t 26)], none⟩]
def f29b : ACode := (.seq (.reg f29r0) (.seq (.seq (.reg f29r1) (.cond (.t 24) (.reg f29r2) .skip)) (.reg f29r3)))
def f29 : AFn := ⟨28, f29b, [], .plain⟩
theorem f29_is : cFn Tryz.prog .plain 29 = some f29 := by kernel_rfl

/-- (*bocage/codec.reader).sign -/
def f30r0 : List AIns := [⟨some 4, .mov (.c (.int .i64 0)), none⟩]
def f30r1 : List AIns := [⟨some 6, .mov (.t 0), none⟩,
  ⟨some 7, .nilCheck (.t 6), none⟩,
  ⟨some 8, .addOff 1 (.t 7), none⟩,
  ⟨some 9, .load1 (.t 8), none⟩,
  ⟨some 10, .mov (.t 0), none⟩,
  ⟨some 11, .nilCheck (.t 10), none⟩,
  ⟨some 12, .addOff 0 (.t 11), none⟩,
  ⟨some 13, .load1 (.t 12), none⟩,
  ⟨some 14, .len (.t 13), none⟩,
  ⟨some 15, .bin .geq (.t 9) (.t 14), none⟩,
  ⟨some 16, .mov (.t 15), none⟩,
  ⟨some 17, .mov (.t 1), some (16, false)⟩,
  ⟨some 18, .mov (.t 0), some (16, false)⟩,
  ⟨some 19, .nilCheck (.t 18), some (16, false)⟩,
  ⟨some 20, .addOff 0 (.t 19), some (16, false)⟩,
  ⟨some 21, .load1 (.t 20), some (16, false)⟩,
  ⟨some 22, .mov (.t 0), some (16, false)⟩,
  ⟨some 23, .nilCheck (.t 22), some (16, false)⟩,
  ⟨some 24, .addOff 1 (.t 23), some (16, false)⟩,
  ⟨some 25, .load1 (.t 24), some (16, false)⟩,
  ⟨some 26, .idxA 1 (.t 21) (.t 25), some (16, false)⟩,
  ⟨some 27, .load1 (.t 26), some (16, false)⟩,
  ⟨some 28, .call (.c (.func (.func 55) #[] #[])) [(.t 17), (.t 27)], some (16, false)⟩,
  ⟨some 29, .un .not (.t 28), some (16, false)⟩,
  ⟨some 30, .pick (.t 16) (.c (.bool true)) (.t 29), none⟩]
def f30r2 : List AIns := [⟨some 31, .mov (.t 0), none⟩,
  ⟨some 32, .call (.c (.func (.func 54) #[] #[])) [(.t 31), (.c (.int .i64 0))], none⟩]
def f30r3 : List AIns := [⟨some 4, .mov (.c (.int .i64 0)), none⟩]
def f30r4 : List AIns := [⟨some 33, .mov (.t 0), none⟩,
  ⟨some 34, .nilCheck (.t 33), none⟩,
  ⟨some 35, .addOff 0 (.t 34), none⟩,
  ⟨some 36, .load1 (.t 35), none⟩,
  ⟨some 37, .mov (.t 0), none⟩,
  ⟨some 38, .nilCheck (.t 37), none⟩,
  ⟨some 39, .addOff 1 (.t 38), none⟩,
  ⟨some 40, .load1 (.t 39), none⟩,
  ⟨some 41, .idxA 1 (.t 36) (.t 40), none⟩,
  ⟨some 42, .load1 (.t 41), none⟩,
  ⟨some 5, .mov (.t 42), none⟩]
def f30r5 : List AIns := [⟨some 43, .mov (.t 0), none⟩,
  ⟨some 44, .call (.c (.func (.func 54) #[] #[])) [(.t 43), (.c (.int .i64 1))], none⟩]
def f30r6 : List AIns := [⟨some 45, .mov (.t 5), none⟩,
  ⟨some 46, .convInt .i64 (.t 45), none⟩,
  ⟨some 4, .mov (.t 46), none⟩]
def f30b : ACode := (.seq (.reg f30r0) (.seq (.seq (.regD f30r1 [(0, []), (1, []), (2, []), (3, []), (4, []), (5, []), (6, []), (7, []), (8, []), (9, []), (10, []), (11, []), (12, []), (13, []), (14, []), (15, []), (16, []), (17, []), (18, []), (19, []), (20, []), (21, []), (22, []), (23, []), (24, [])]) (.cond (.t 30) (.seq (.reg f30r2) (.seq (.reg f30r3) .ret)) .skip)) (.seq (.regD f30r4 [(0, []), (1, []), (2, []), (3, []), (4, []), (5, []), (6, []), (7, []), (8, []), (9, []), (10, [])]) (.seq (.reg f30r5) (.seq (.reg f30r6) .ret)))))
def f30 : AFn := ⟨47, f30b, [.tmp 4], .plain⟩
theorem f30_is : cFn Tryz.prog .plain 30 = some f30 := by kernel_rfl

/-- (*bocage/codec.reader).num -/
def f31r0 : List AIns := [⟨some 2, .mov (.c (.int .i64 0)), none⟩]
def f31r1 : List AIns := [⟨some 6, .mov (.t 0), none⟩,
  ⟨some 7, .nilCheck (.t 6), none⟩,
  ⟨some 8, .addOff 0 (.t 7), none⟩,
  ⟨some 9, .load1 (.t 8), none⟩,
  ⟨some 10, .mov (.t 0), none⟩,
  ⟨some 11, .nilCheck (.t 10), none⟩,
  ⟨some 12, .addOff 1 (.t 11), none⟩,
  ⟨some 13, .load1 (.t 12), none⟩,
  ⟨some 14, .slice 5 1 (.t 9) (some (.t 13)) none none, none⟩,
  ⟨some 15, .call (.c (.func (.func 17) #[] #[])) [(.t 14)], none⟩,
  ⟨some 5, .mov (.t 15), none⟩,
  ⟨some 16, .extract (.t 5) 0, none⟩,
  ⟨some 17, .extract (.t 5) 1, none⟩,
  ⟨some 3, .mov (.t 16), none⟩,
  ⟨some 4, .mov (.t 17), none⟩]
def f31r2 : List AIns := [⟨some 18, .mov (.t 0), none⟩,
  ⟨some 19, .mov (.t 4), none⟩,
  ⟨some 20, .call (.c (.func (.func 54) #[] #[])) [(.t 18), (.t 19)], none⟩]
def f31r3 : List AIns := [⟨some 21, .mov (.t 3), none⟩,
  ⟨some 2, .mov (.t 21), none⟩]
def f31b : ACode := (.seq (.reg f31r0) (.seq (.regD f31r1 [(0, []), (1, []), (2, []), (3, []), (4, []), (5, []), (6, []), (7, []), (8, []), (9, []), (10, []), (11, []), (12, []), (13, []), (14, [])]) (.seq (.reg f31r2) (.seq (.reg f31r3) .ret))))
def f31 : AFn := ⟨22, f31b, [.tmp 2], .plain⟩
theorem f31_is : cFn Tryz.prog .plain 31 = some f31 := by kernel_rfl

/-- bocage/codec.rows[bocage/api.Seg] -/
def f32r0 : List AIns := [⟨some 4, .mov (.c (.slice none 0 0)), none⟩,
  ⟨some 5, .mov (.c (.int .i64 0)), none⟩]
def f32r1 : List AIns := [⟨some 12, .mov (.t 0), none⟩,
  ⟨some 13, .nilCheck (.t 12), none⟩,
  ⟨some 14, .addOff 0 (.t 13), none⟩,
  ⟨some 15, .load1 (.t 14), none⟩,
  ⟨some 16, .mov (.t 0), none⟩,
  ⟨some 17, .nilCheck (.t 16), none⟩,
  ⟨some 18, .addOff 1 (.t 17), none⟩,
  ⟨some 19, .load1 (.t 18), none⟩,
  ⟨some 20, .slice 5 1 (.t 15) (some (.t 19)) none none, none⟩,
  ⟨some 21, .call (.c (.func (.func 17) #[] #[])) [(.t 20)], none⟩,
  ⟨some 11, .mov (.t 21), none⟩,
  ⟨some 22, .extract (.t 11) 0, none⟩,
  ⟨some 23, .extract (.t 11) 1, none⟩,
  ⟨some 6, .mov (.t 22), none⟩,
  ⟨some 7, .mov (.t 23), none⟩]
def f32r2 : List AIns := [⟨some 24, .mov (.t 6), none⟩,
  ⟨some 25, .bin .lss (.t 24) (.c (.int .i64 0)), none⟩]
def f32r3 : List AIns := [⟨some 7, .mov (.c (.int .i64 0)), none⟩]
def f32r4 : List AIns := [⟨some 26, .mov (.t 0), none⟩,
  ⟨some 27, .mov (.t 7), none⟩,
  ⟨some 28, .call (.c (.func (.func 54) #[] #[])) [(.t 26), (.t 27)], none⟩]
def f32r5 : List AIns := [⟨some 29, .mov (.t 0), none⟩,
  ⟨some 30, .nilCheck (.t 29), none⟩,
  ⟨some 31, .addOff 2 (.t 30), none⟩,
  ⟨some 32, .load1 (.t 31), none⟩]
def f32r6 : List AIns := [⟨some 33, .mov (.t 0), none⟩,
  ⟨some 34, .nilCheck (.t 33), none⟩,
  ⟨some 35, .addOff 1 (.t 34), none⟩,
  ⟨some 36, .load1 (.t 35), none⟩,
  ⟨some 4, .mov (.c (.slice none 0 0)), none⟩,
  ⟨some 5, .mov (.t 36), none⟩]
def f32r7 : List AIns := [⟨some 37, .mov (.t 0), none⟩,
  ⟨some 38, .nilCheck (.t 37), none⟩,
  ⟨some 39, .addOff 1 (.t 38), none⟩,
  ⟨some 40, .load1 (.t 39), none⟩,
  ⟨some 8, .mov (.t 40), none⟩]
def f32r8 : List AIns := [⟨some 9, .mov (.c (.slice none 0 0)), none⟩]
def f32r9 : List AIns := [⟨some 41, .mov (.t 6), none⟩,
  ⟨some 42, .mov (.c (.int .i64 0)), none⟩]
def f32r10 : List AIns := [⟨some 43, .bin .lss (.t 42) (.t 41), none⟩]
def f32r11 : List AIns := [⟨some 44, .mov (.t 1), none⟩,
  ⟨some 45, .call (.t 44) [], none⟩,
  ⟨some 10, .alloc 58 [(.int .i64 0), (.int .i64 0), (.int .i64 0), (.int .i64 0), (.int .i64 0)], none⟩,
  ⟨none, .store 5 (.t 10) (.t 45), none⟩]
def f32r12 : List AIns := [⟨some 46, .mov (.t 0), none⟩,
  ⟨some 47, .nilCheck (.t 46), none⟩,
  ⟨some 48, .addOff 2 (.t 47), none⟩,
  ⟨some 49, .load1 (.t 48), none⟩]
def f32r13 : List AIns := [⟨some 50, .mov (.t 8), none⟩,
  ⟨some 4, .mov (.c (.slice none 0 0)), none⟩,
  ⟨some 5, .mov (.t 50), none⟩]
def f32r14 : List AIns := [⟨some 51, .mov (.t 9), none⟩,
  ⟨some 52, .loadN 5 (.t 10), none⟩,
  ⟨some 53, .buildSlice 58 1 [(.int .i64 0), (.int .i64 0), (.int .i64 0), (.int .i64 0), (.int .i64 0)] [(0, 5, (.t 52))], none⟩,
  ⟨some 54, .append 58 5 40 (.t 51) (.t 53), none⟩,
  ⟨some 9, .mov (.t 54), none⟩]
def f32r15 : List AIns := [⟨some 55, .bin .add (.t 42) (.c (.int .i64 1)), none⟩,
  ⟨some 42, .mov (.t 55), none⟩]
def f32l16 : ACode := (.seq (.reg f32r10) (.seq (.cond (.t 43) .skip (.exit 0)) (.seq (.block 1 (.seq (.reg f32r11) (.seq (.seq (.reg f32r12) (.cond (.t 49) (.seq (.reg f32r13) .ret) .skip)) (.reg f32r14)))) (.reg f32r15))))
def f32r17 : List AIns := [⟨some 56, .mov (.t 9), none⟩,
  ⟨some 57, .mov (.t 8), none⟩,
  ⟨some 4, .mov (.t 56), none⟩,
  ⟨some 5, .mov (.t 57), none⟩]
def f32b : ACode := (.seq (.reg f32r0) (.seq (.regD f32r1 [(0, []), (1, []), (2, []), (3, []), (4, []), (5, []), (6, []), (7, []), (8, []), (9, []), (10, []), (11, []), (12, []), (13, []), (14, [])]) (.seq (.seq (.reg f32r2) (.cond (.t 25) (.reg f32r3) .skip)) (.seq (.reg f32r4) (.seq (.seq (.reg f32r5) (.cond (.t 32) (.seq (.regD f32r6 [(0, []), (1, []), (2, []), (3, []), (4, []), (5, [])]) .ret) .skip)) (.seq (.reg f32r7) (.seq (.reg f32r8) (.seq (.seq (.reg f32r9) (.block 0 (.loop f32l16))) (.seq (.reg f32r17) .ret)))))))))
def f32 : AFn := ⟨58, f32b, [.tmp 4, .tmp 5], .plain⟩
theorem f32_is : cFn Tryz.prog .plain 32 = some f32 := by kernel_rfl

/-- bocage/codec.ReadMap$1 -/
def f33r0 : List AIns := [⟨some 1, .alloc 58 [(.int .i64 0), (.int .i64 0), (.int .i64 0), (.int .i64 0), (.int .i64 0)], none⟩]
def f33r1 : List AIns := [⟨some 3, .load1 (.t 0), none⟩,
  ⟨some 4, .call (.c (.func (.func 34) #[] #[])) [(.t 3)], none⟩,
  ⟨some 2, .alloc 50 [(.int .i64 0), (.int .i64 0), (.int .i64 0), (.int .i64 0)], none⟩,
  ⟨none, .store 4 (.t 2) (.t 4), none⟩]
def f33r2 : List AIns := [⟨some 5, .loadN 4 (.t 2), none⟩,
  ⟨some 6, .load1 (.t 0), none⟩,
  ⟨some 7, .call (.c (.func (.func 31) #[] #[])) [(.t 6)], none⟩,
  ⟨some 8, .build [(.int .i64 0), (.int .i64 0), (.int .i64 0), (.int .i64 0), (.int .i64 0)] [(0, 4, (.t 5)), (4, 1, (.t 7))], none⟩,
  ⟨none, .store 5 (.t 1) (.t 8), none⟩]
def f33b : ACode := (.seq (.reg f33r0) (.seq (.reg f33r1) (.seq (.regD f33r2 [(0, []), (1, []), (2, [0]), (3, []), (4, [])]) .ret)))
def f33 : AFn := ⟨9, f33b, [.cellN 1 5], .plain⟩
theorem f33_is : cFn Tryz.prog .plain 33 = some f33 := by kernel_rfl

/-- (*bocage/codec.reader).span -/
def f34r0 : List AIns := [⟨some 2, .alloc 50 [(.int .i64 0), (.int .i64 0), (.int .i64 0), (.int .i64 0)], none⟩]
def f34r1 : List AIns := [⟨some 4, .mov (.t 0), none⟩,
  ⟨some 5, .call (.c (.func (.func 56) #[] #[])) [(.t 4)], none⟩,
  ⟨some 3, .alloc 48 [(.int .i64 0), (.int .i64 0)], none⟩,
  ⟨none, .store 2 (.t 3) (.t 5), none⟩]
def f34r2 : List AIns := [⟨some 6, .loadN 2 (.t 3), none⟩,
  ⟨some 7, .mov (.t 0), none⟩,
  ⟨some 8, .call (.c (.func (.func 56) #[] #[])) [(.t 7)], none⟩,
  ⟨some 9, .build [(.int .i64 0), (.int .i64 0), (.int .i64 0), (.int .i64 0)] [(0, 2, (.t 6)), (2, 2, (.t 8))], none⟩,
  ⟨none, .store 4 (.t 2) (.t 9), none⟩]
def f34b : ACode := (.seq (.reg f34r0) (.seq (.reg f34r1) (.seq (.regD f34r2 [(0, []), (1, []), (2, [0]), (3, []), (4, [])]) .ret)))
def f34 : AFn := ⟨10, f34b, [.cellN 2 4], .plain⟩
theorem f34_is : cFn Tryz.prog .plain 34 = some f34 := by kernel_rfl

/-- (*bocage/codec.reader).end -/
def f35r0 : List AIns := [⟨some 6, .mov (.c (.int .i64 0)), none⟩,
  ⟨some 7, .mov (.c (.int .i64 0)), none⟩]
def f35r1 : List AIns := [⟨some 9, .mov (.t 0), none⟩,
  ⟨some 10, .nilCheck (.t 9), none⟩,
  ⟨some 11, .addOff 2 (.t 10), none⟩,
  ⟨some 12, .load1 (.t 11), none⟩,
  ⟨some 13, .mov (.t 12), none⟩,
  ⟨some 14, .mov (.t 0), some (13, false)⟩,
  ⟨some 15, .nilCheck (.t 14), some (13, false)⟩,
  ⟨some 16, .addOff 1 (.t 15), some (13, false)⟩,
  ⟨some 17, .load1 (.t 16), some (13, false)⟩,
  ⟨some 18, .mov (.t 0), some (13, false)⟩,
  ⟨some 19, .nilCheck (.t 18), some (13, false)⟩,
  ⟨some 20, .addOff 0 (.t 19), some (13, false)⟩,
  ⟨some 21, .load1 (.t 20), some (13, false)⟩,
  ⟨some 22, .len (.t 21), some (13, false)⟩,
  ⟨some 23, .bin .lss (.t 17) (.t 22), some (13, false)⟩,
  ⟨some 24, .pick (.t 13) (.c (.bool true)) (.t 23), none⟩,
  ⟨some 8, .mov (.t 24), none⟩]
def f35r2 : List AIns := [⟨some 25, .mov (.t 0), none⟩,
  ⟨some 26, .nilCheck (.t 25), none⟩,
  ⟨some 27, .addOff 1 (.t 26), none⟩,
  ⟨some 28, .load1 (.t 27), none⟩,
  ⟨some 6, .mov (.t 28), none⟩,
  ⟨some 7, .mov (.c (.int .i64 190)), none⟩]
def f35r3 : List AIns := [⟨some 30, .mov (.t 2), none⟩,
  ⟨some 31, .call (.t 30) [], none⟩,
  ⟨some 32, .un .not (.t 31), none⟩,
  ⟨some 29, .mov (.t 32), none⟩]
def f35r4 : List AIns := [⟨some 33, .mov (.t 1), none⟩,
  ⟨some 6, .mov (.t 33), none⟩,
  ⟨some 7, .mov (.c (.int .i64 190)), none⟩]
def f35r5 : List AIns := [⟨some 34, .mov (.t 0), none⟩,
  ⟨some 35, .nilCheck (.t 34), none⟩,
  ⟨some 36, .addOff 1 (.t 35), none⟩,
  ⟨some 37, .load1 (.t 36), none⟩,
  ⟨some 6, .mov (.t 37), none⟩,
  ⟨some 7, .mov (.c (.int .i64 0)), none⟩]
def f35b : ACode := (.seq (.reg f35r0) (.seq (.block 0 (.seq (.regD f35r1 [(0, []), (1, []), (2, []), (3, []), (4, []), (5, []), (6, []), (7, []), (8, []), (9, []), (10, []), (11, []), (12, []), (13, []), (14, []), (15, []), (16, [])]) (.cond (.t 8) (.seq (.reg f35r2) .ret) (.seq (.reg f35r3) (.cond (.t 29) (.seq (.reg f35r4) .ret) .skip))))) (.seq (.reg f35r5) .ret)))
def f35 : AFn := ⟨38, f35b, [.tmp 6, .tmp 7], .plain⟩
theorem f35_is : cFn Tryz.prog .plain 35 = some f35 := by kernel_rfl

/-- bocage/codec.ReadMap$2 -/
def f36r0 : List AIns := [⟨some 2, .mov (.c (.bool false)), none⟩]
def f36r1 : List AIns := [⟨some 3, .loadN 3 (.t 0), none⟩,
  ⟨some 4, .load1 (.t 1), none⟩,
  ⟨some 5, .call (.c (.func (.func 20) #[] #[])) [(.t 3), (.t 4)], none⟩,
  ⟨some 2, .mov (.t 5), none⟩]
def f36b : ACode := (.seq (.reg f36r0) (.seq (.reg f36r1) .ret))
def f36 : AFn := ⟨6, f36b, [.tmp 2], .plain⟩
theorem f36_is : cFn Tryz.prog .plain 36 = some f36 := by kernel_rfl

/-- bocage/codec.rows[bocage/api.Span] -/
def f37r0 : List AIns := [⟨some 4, .mov (.c (.slice none 0 0)), none⟩,
  ⟨some 5, .mov (.c (.int .i64 0)), none⟩]
def f37r1 : List AIns := [⟨some 12, .mov (.t 0), none⟩,
  ⟨some 13, .nilCheck (.t 12), none⟩,
  ⟨some 14, .addOff 0 (.t 13), none⟩,
  ⟨some 15, .load1 (.t 14), none⟩,
  ⟨some 16, .mov (.t 0), none⟩,
  ⟨some 17, .nilCheck (.t 16), none⟩,
  ⟨some 18, .addOff 1 (.t 17), none⟩,
  ⟨some 19, .load1 (.t 18), none⟩,
  ⟨some 20, .slice 5 1 (.t 15) (some (.t 19)) none none, none⟩,
  ⟨some 21, .call (.c (.func (.func 17) #[] #[])) [(.t 20)], none⟩,
  ⟨some 11, .mov (.t 21), none⟩,
  ⟨some 22, .extract (.t 11) 0, none⟩,
  ⟨some 23, .extract (.t 11) 1, none⟩,
  ⟨some 6, .mov (.t 22), none⟩,
  ⟨some 7, .mov (.t 23), none⟩]
def f37r2 : List AIns := [⟨some 24, .mov (.t 6), none⟩,
  ⟨some 25, .bin .lss (.t 24) (.c (.int .i64 0)), none⟩]
def f37r3 : List AIns := [⟨some 7, .mov (.c (.int .i64 0)), none⟩]
def f37r4 : List AIns := [⟨some 26, .mov (.t 0), none⟩,
  ⟨some 27, .mov (.t 7), none⟩,
  ⟨some 28, .call (.c (.func (.func 54) #[] #[])) [(.t 26), (.t 27)], none⟩]
def f37r5 : List AIns := [⟨some 29, .mov (.t 0), none⟩,
  ⟨some 30, .nilCheck (.t 29), none⟩,
  ⟨some 31, .addOff 2 (.t 30), none⟩,
  ⟨some 32, .load1 (.t 31), none⟩]
def f37r6 : List AIns := [⟨some 33, .mov (.t 0), none⟩,
  ⟨some 34, .nilCheck (.t 33), none⟩,
  ⟨some 35, .addOff 1 (.t 34), none⟩,
  ⟨some 36, .load1 (.t 35), none⟩,
  ⟨some 4, .mov (.c (.slice none 0 0)), none⟩,
  ⟨some 5, .mov (.t 36), none⟩]
def f37r7 : List AIns := [⟨some 37, .mov (.t 0), none⟩,
  ⟨some 38, .nilCheck (.t 37), none⟩,
  ⟨some 39, .addOff 1 (.t 38), none⟩,
  ⟨some 40, .load1 (.t 39), none⟩,
  ⟨some 8, .mov (.t 40), none⟩]
def f37r8 : List AIns := [⟨some 9, .mov (.c (.slice none 0 0)), none⟩]
def f37r9 : List AIns := [⟨some 41, .mov (.t 6), none⟩,
  ⟨some 42, .mov (.c (.int .i64 0)), none⟩]
def f37r10 : List AIns := [⟨some 43, .bin .lss (.t 42) (.t 41), none⟩]
def f37r11 : List AIns := [⟨some 44, .mov (.t 1), none⟩,
  ⟨some 45, .call (.t 44) [], none⟩,
  ⟨some 10, .alloc 50 [(.int .i64 0), (.int .i64 0), (.int .i64 0), (.int .i64 0)], none⟩,
  ⟨none, .store 4 (.t 10) (.t 45), none⟩]
def f37r12 : List AIns := [⟨some 46, .mov (.t 0), none⟩,
  ⟨some 47, .nilCheck (.t 46), none⟩,
  ⟨some 48, .addOff 2 (.t 47), none⟩,
  ⟨some 49, .load1 (.t 48), none⟩]
def f37r13 : List AIns := [⟨some 50, .mov (.t 8), none⟩,
  ⟨some 4, .mov (.c (.slice none 0 0)), none⟩,
  ⟨some 5, .mov (.t 50), none⟩]
def f37r14 : List AIns := [⟨some 51, .mov (.t 9), none⟩,
  ⟨some 52, .loadN 4 (.t 10), none⟩,
  ⟨some 53, .buildSlice 50 1 [(.int .i64 0), (.int .i64 0), (.int .i64 0), (.int .i64 0)] [(0, 4, (.t 52))], none⟩,
  ⟨some 54, .append 50 4 32 (.t 51) (.t 53), none⟩,
  ⟨some 9, .mov (.t 54), none⟩]
def f37r15 : List AIns := [⟨some 55, .bin .add (.t 42) (.c (.int .i64 1)), none⟩,
  ⟨some 42, .mov (.t 55), none⟩]
def f37l16 : ACode := (.seq (.reg f37r10) (.seq (.cond (.t 43) .skip (.exit 0)) (.seq (.block 1 (.seq (.reg f37r11) (.seq (.seq (.reg f37r12) (.cond (.t 49) (.seq (.reg f37r13) .ret) .skip)) (.reg f37r14)))) (.reg f37r15))))
def f37r17 : List AIns := [⟨some 56, .mov (.t 9), none⟩,
  ⟨some 57, .mov (.t 8), none⟩,
  ⟨some 4, .mov (.t 56), none⟩,
  ⟨some 5, .mov (.t 57), none⟩]
def f37b : ACode := (.seq (.reg f37r0) (.seq (.regD f37r1 [(0, []), (1, []), (2, []), (3, []), (4, []), (5, []), (6, []), (7, []), (8, []), (9, []), (10, []), (11, []), (12, []), (13, []), (14, [])]) (.seq (.seq (.reg f37r2) (.cond (.t 25) (.reg f37r3) .skip)) (.seq (.reg f37r4) (.seq (.seq (.reg f37r5) (.cond (.t 32) (.seq (.regD f37r6 [(0, []), (1, []), (2, []), (3, []), (4, []), (5, [])]) .ret) .skip)) (.seq (.reg f37r7) (.seq (.reg f37r8) (.seq (.seq (.reg f37r9) (.block 0 (.loop f37l16))) (.seq (.reg f37r17) .ret)))))))))
def f37 : AFn := ⟨58, f37b, [.tmp 4, .tmp 5], .plain⟩
theorem f37_is : cFn Tryz.prog .plain 37 = some f37 := by kernel_rfl

/-- bocage/codec.ReadSet$1 -/
def f38r0 : List AIns := [⟨some 2, .mov (.c (.bool false)), none⟩]
def f38r1 : List AIns := [⟨some 3, .load1 (.t 0), none⟩,
  ⟨some 4, .load1 (.t 1), none⟩,
  ⟨some 5, .call (.c (.func (.func 39) #[] #[])) [(.t 3), (.t 4)], none⟩,
  ⟨some 2, .mov (.t 5), none⟩]
def f38b : ACode := (.seq (.reg f38r0) (.seq (.reg f38r1) .ret))
def f38 : AFn := ⟨6, f38b, [.tmp 2], .plain⟩
theorem f38_is : cFn Tryz.prog .plain 38 = some f38 := by kernel_rfl

/-- bocage/iset.Fine -/
def f39r0 : List AIns := [⟨some 4, .mov (.c (.bool false)), none⟩]
def f39r1 : List AIns := [⟨some 6, .mov (.t 1), none⟩,
  ⟨some 7, .call (.c (.func (.func 45) #[] #[])) [(.t 6)], none⟩,
  ⟨some 8, .un .not (.t 7), none⟩]
def f39r2 : List AIns := [⟨some 4, .mov (.c (.bool false)), none⟩]
def f39r3 : List AIns := [⟨some 5, .mov (.c (.int .i64 1)), none⟩]
def f39r4 : List AIns := [⟨some 9, .mov (.t 5), none⟩,
  ⟨some 10, .mov (.t 1), none⟩,
  ⟨some 11, .len (.t 10), none⟩,
  ⟨some 12, .bin .lss (.t 9) (.t 11), none⟩,
  ⟨some 13, .mov (.t 12), none⟩,
  ⟨some 14, .mov (.t 0), some (13, true)⟩,
  ⟨some 15, .bin .eql (.t 14) (.c (.int .i64 0)), some (13, true)⟩,
  ⟨some 16, .pick (.t 13) (.t 15) (.c (.bool false)), none⟩]
def f39r5 : List AIns := [⟨some 19, .mov (.t 1), none⟩,
  ⟨some 20, .mov (.t 5), none⟩,
  ⟨some 21, .bin .sub (.t 20) (.c (.int .i64 1)), none⟩,
  ⟨some 22, .idxA 4 (.t 19) (.t 21), none⟩,
  ⟨some 23, .loadN 4 (.t 22), none⟩,
  ⟨some 24, .mov (.t 1), none⟩,
  ⟨some 25, .mov (.t 5), none⟩,
  ⟨some 26, .idxA 4 (.t 24) (.t 25), none⟩,
  ⟨some 27, .loadN 4 (.t 26), none⟩,
  ⟨some 28, .call (.c (.func (.func 57) #[] #[])) [(.t 23), (.t 27)], none⟩]
def f39r6 : List AIns := [⟨some 4, .mov (.c (.bool false)), none⟩]
def f39r7 : List AIns := [⟨some 17, .mov (.t 5), none⟩,
  ⟨some 18, .bin .add (.t 17) (.c (.int .i64 1)), none⟩,
  ⟨some 5, .mov (.t 18), none⟩]
def f39l8 : ACode := (.seq (.seq (.reg f39r4) (.cond (.t 16) .skip (.exit 0))) (.seq (.block 1 (.seq (.regD f39r5 [(0, []), (1, []), (2, []), (3, []), (4, []), (5, []), (6, []), (7, []), (8, []), (9, [])]) (.cond (.t 28) (.seq (.reg f39r6) .ret) .skip))) (.reg f39r7)))
def f39r9 : List AIns := [⟨some 4, .mov (.c (.bool true)), none⟩]
def f39b : ACode := (.seq (.reg f39r0) (.seq (.seq (.reg f39r1) (.cond (.t 8) (.seq (.reg f39r2) .ret) .skip)) (.seq (.seq (.reg f39r3) (.block 0 (.loop f39l8))) (.seq (.reg f39r9) .ret))))
def f39 : AFn := ⟨29, f39b, [.tmp 4], .pure⟩
theorem f39_is : cFn Tryz.prog .pure 39 = some f39 := by kernel_rfl

/-- bocage/bocageref19.ReadNum -/
def f40r0 : List AIns := [⟨some 2, .mov (.c (.int .i64 0)), none⟩,
  ⟨some 3, .mov (.c (.int .i64 0)), none⟩]
def f40r1 : List AIns := [⟨some 4, .mov (.c (.int .i64 1)), none⟩]
def f40r2 : List AIns := [⟨some 8, .mov (.t 4), none⟩,
  ⟨some 9, .mov (.t 0), none⟩,
  ⟨some 10, .lenStr (.t 9), none⟩,
  ⟨some 11, .bin .leq (.t 8) (.t 10), none⟩,
  ⟨some 12, .mov (.t 11), none⟩,
  ⟨some 13, .mov (.t 0), some (12, true)⟩,
  ⟨some 14, .mov (.t 4), some (12, true)⟩,
  ⟨some 15, .bin .sub (.t 14) (.c (.int .i64 1)), some (12, true)⟩,
  ⟨some 16, .ixStr (.t 13) (.t 15), some (12, true)⟩,
  ⟨some 17, .bin .geq (.t 16) (.c (.int .u8 128)), some (12, true)⟩,
  ⟨some 18, .pick (.t 12) (.t 17) (.c (.bool false)), none⟩]
def f40r3 : List AIns := [⟨some 19, .mov (.t 4), none⟩,
  ⟨some 20, .bin .add (.t 19) (.c (.int .i64 1)), none⟩,
  ⟨some 4, .mov (.t 20), none⟩]
def f40l4 : ACode := (.seq (.seq (.reg f40r2) (.cond (.t 18) .skip (.exit 0))) (.block 1 (.reg f40r3)))
def f40r5 : List AIns := [⟨some 21, .mov (.t 4), none⟩,
  ⟨some 22, .mov (.t 0), none⟩,
  ⟨some 23, .lenStr (.t 22), none⟩,
  ⟨some 24, .bin .gtr (.t 21) (.t 23), none⟩,
  ⟨some 25, .mov (.t 24), none⟩,
  ⟨some 26, .mov (.t 4), some (25, false)⟩,
  ⟨some 27, .bin .gtr (.t 26) (.c (.int .i64 10)), some (25, false)⟩,
  ⟨some 28, .pick (.t 25) (.c (.bool true)) (.t 27), none⟩]
def f40r6 : List AIns := [⟨some 2, .mov (.c (.int .i64 0)), none⟩,
  ⟨some 3, .mov (.c (.int .i64 0)), none⟩]
def f40r7 : List AIns := [⟨some 5, .mov (.c (.int .u64 0)), none⟩]
def f40r8 : List AIns := [⟨some 29, .mov (.t 4), none⟩,
  ⟨some 30, .bin .sub (.t 29) (.c (.int .i64 1)), none⟩,
  ⟨some 6, .mov (.t 30), none⟩]
def f40r9 : List AIns := [⟨some 31, .mov (.t 6), none⟩,
  ⟨some 32, .bin .geq (.t 31) (.c (.int .i64 0)), none⟩]
def f40r10 : List AIns := [⟨some 35, .mov (.t 5), none⟩,
  ⟨some 36, .bin .mul (.t 35) (.c (.int .u64 128)), none⟩,
  ⟨some 37, .mov (.t 0), none⟩,
  ⟨some 38, .mov (.t 6), none⟩,
  ⟨some 39, .ixStr (.t 37) (.t 38), none⟩,
  ⟨some 40, .bin .rem (.t 39) (.c (.int .u8 128)), none⟩,
  ⟨some 41, .convInt .u64 (.t 40), none⟩,
  ⟨some 42, .bin .add (.t 36) (.t 41), none⟩,
  ⟨some 5, .mov (.t 42), none⟩]
def f40r11 : List AIns := [⟨some 33, .mov (.t 6), none⟩,
  ⟨some 34, .bin .sub (.t 33) (.c (.int .i64 1)), none⟩,
  ⟨some 6, .mov (.t 34), none⟩]
def f40l12 : ACode := (.seq (.seq (.reg f40r9) (.cond (.t 32) .skip (.exit 2))) (.seq (.block 3 (.reg f40r10)) (.reg f40r11)))
def f40r13 : List AIns := [⟨some 43, .mov (.t 5), none⟩,
  ⟨some 44, .bin .quo (.t 43) (.c (.int .u64 2)), none⟩,
  ⟨some 45, .convInt .i64 (.t 44), none⟩,
  ⟨some 7, .mov (.t 45), none⟩]
def f40r14 : List AIns := [⟨some 46, .mov (.t 5), none⟩,
  ⟨some 47, .bin .rem (.t 46) (.c (.int .u64 2)), none⟩,
  ⟨some 48, .bin .eql (.t 47) (.c (.int .u64 1)), none⟩]
def f40r15 : List AIns := [⟨some 49, .mov (.t 7), none⟩,
  ⟨some 50, .un .neg (.t 49), none⟩,
  ⟨some 51, .bin .sub (.t 50) (.c (.int .i64 1)), none⟩,
  ⟨some 7, .mov (.t 51), none⟩]
def f40r16 : List AIns := [⟨some 52, .mov (.t 7), none⟩,
  ⟨some 53, .call (.c (.func (.func 23) #[] #[])) [(.t 52)], none⟩,
  ⟨some 54, .mov (.t 0), none⟩,
  ⟨some 55, .mov (.t 4), none⟩,
  ⟨some 56, .sliceStr (.t 54) none (some (.t 55)), none⟩,
  ⟨some 57, .bin .neq (.t 53) (.t 56), none⟩]
def f40r17 : List AIns := [⟨some 2, .mov (.c (.int .i64 0)), none⟩,
  ⟨some 3, .mov (.c (.int .i64 0)), none⟩]
def f40r18 : List AIns := [⟨some 58, .mov (.t 7), none⟩,
  ⟨some 59, .mov (.t 4), none⟩,
  ⟨some 2, .mov (.t 58), none⟩,
  ⟨some 3, .mov (.t 59), none⟩]
def f40b : ACode := (.seq (.reg f40r0) (.seq (.reg f40r1) (.seq (.block 0 (.loop f40l4)) (.seq (.seq (.reg f40r5) (.cond (.t 28) (.seq (.reg f40r6) .ret) .skip)) (.seq (.reg f40r7) (.seq (.seq (.reg f40r8) (.block 2 (.loop f40l12))) (.seq (.reg f40r13) (.seq (.seq (.reg f40r14) (.cond (.t 48) (.reg f40r15) .skip)) (.seq (.seq (.regD f40r16 [(0, []), (2, []), (3, []), (4, []), (1, [4]), (5, [])]) (.cond (.t 57) (.seq (.reg f40r17) .ret) .skip)) (.seq (.reg f40r18) .ret))))))))))
def f40 : AFn := ⟨60, f40b, [.tmp 2, .tmp 3], .pure⟩
theorem f40_is : cFn Tryz.prog .pure 40 = some f40 := by kernel_rfl

/-- bocage/bocageref19.head -/
def f41r0 : List AIns := [⟨some 6, .alloc 23 [(.int .i64 0), (.bool false), (.int .i64 0)], none⟩,
  ⟨some 7, .mov (.c (.int .i64 0)), none⟩,
  ⟨some 8, .mov (.c (.bool false)), none⟩]
def f41r1 : List AIns := [⟨some 9, .alloc 23 [(.int .i64 0), (.bool false), (.int .i64 0)], none⟩]
def f41r2 : List AIns := [⟨some 10, .mov (.c (.int .u8 1)), none⟩]
def f41r3 : List AIns := [⟨some 13, .mov (.t 2), none⟩]
def f41r4 : List AIns := [⟨some 10, .mov (.c (.int .u8 2)), none⟩]
def f41r5 : List AIns := [⟨some 14, .mov (.t 1), none⟩,
  ⟨some 15, .mov (.t 0), none⟩,
  ⟨some 16, .lenStr (.t 15), none⟩,
  ⟨some 17, .bin .geq (.t 14) (.t 16), none⟩,
  ⟨some 18, .mov (.t 17), none⟩,
  ⟨some 19, .mov (.t 0), some (18, false)⟩,
  ⟨some 20, .mov (.t 1), some (18, false)⟩,
  ⟨some 21, .ixStr (.t 19) (.t 20), some (18, false)⟩,
  ⟨some 22, .mov (.t 10), some (18, false)⟩,
  ⟨some 23, .bin .neq (.t 21) (.t 22), some (18, false)⟩,
  ⟨some 24, .pick (.t 18) (.c (.bool true)) (.t 23), none⟩]
def f41r6 : List AIns := [⟨some 25, .loadN 3 (.t 9), none⟩,
  ⟨some 26, .mov (.t 1), none⟩,
  ⟨none, .store 3 (.t 6) (.t 25), none⟩,
  ⟨some 7, .mov (.t 26), none⟩,
  ⟨some 8, .mov (.c (.bool false)), none⟩]
def f41r7 : List AIns := [⟨some 27, .mov (.t 1), none⟩,
  ⟨some 28, .bin .add (.t 27) (.c (.int .i64 1)), none⟩,
  ⟨some 1, .mov (.t 28), none⟩]
def f41r8 : List AIns := [⟨some 29, .mov (.t 1), none⟩,
  ⟨some 30, .mov (.t 0), none⟩,
  ⟨some 31, .lenStr (.t 30), none⟩,
  ⟨some 32, .bin .geq (.t 29) (.t 31), none⟩,
  ⟨some 33, .mov (.t 32), none⟩,
  ⟨some 34, .mov (.t 0), some (33, false)⟩,
  ⟨some 35, .mov (.t 1), some (33, false)⟩,
  ⟨some 36, .ixStr (.t 34) (.t 35), some (33, false)⟩,
  ⟨some 37, .bin .gtr (.t 36) (.c (.int .u8 2)), some (33, false)⟩,
  ⟨some 38, .pick (.t 33) (.c (.bool true)) (.t 37), none⟩,
  ⟨some 39, .mov (.t 38), none⟩,
  ⟨some 40, .mov (.t 2), some (39, false)⟩,
  ⟨some 41, .mov (.t 40), some (39, false)⟩,
  ⟨some 42, .mov (.t 0), some (41, true)⟩,
  ⟨some 43, .mov (.t 1), some (41, true)⟩,
  ⟨some 44, .ixStr (.t 42) (.t 43), some (41, true)⟩,
  ⟨some 45, .bin .eql (.t 44) (.c (.int .u8 1)), some (41, true)⟩,
  ⟨some 46, .pick (.t 41) (.t 45) (.c (.bool false)), some (39, false)⟩,
  ⟨some 47, .pick (.t 39) (.c (.bool true)) (.t 46), none⟩]
def f41r9 : List AIns := [⟨some 48, .loadN 3 (.t 9), none⟩,
  ⟨some 49, .mov (.t 1), none⟩,
  ⟨none, .store 3 (.t 6) (.t 48), none⟩,
  ⟨some 7, .mov (.t 49), none⟩,
  ⟨some 8, .mov (.c (.bool false)), none⟩]
def f41r10 : List AIns := [⟨some 50, .mov (.t 0), none⟩,
  ⟨some 51, .mov (.t 1), none⟩,
  ⟨some 52, .ixStr (.t 50) (.t 51), none⟩,
  ⟨some 53, .convInt .i64 (.t 52), none⟩,
  ⟨some 54, .addOff 0 (.t 9), none⟩,
  ⟨none, .store 1 (.t 54) (.t 53), none⟩]
def f41r11 : List AIns := [⟨some 55, .mov (.t 1), none⟩,
  ⟨some 56, .bin .add (.t 55) (.c (.int .i64 1)), none⟩,
  ⟨some 1, .mov (.t 56), none⟩]
def f41r12 : List AIns := [⟨some 57, .mov (.t 2), none⟩,
  ⟨some 58, .un .not (.t 57), none⟩]
def f41r13 : List AIns := [⟨some 59, .loadN 3 (.t 9), none⟩,
  ⟨some 60, .mov (.t 1), none⟩,
  ⟨none, .store 3 (.t 6) (.t 59), none⟩,
  ⟨some 7, .mov (.t 60), none⟩,
  ⟨some 8, .mov (.c (.bool true)), none⟩]
def f41r14 : List AIns := [⟨some 61, .mov (.t 1), none⟩,
  ⟨some 62, .mov (.t 0), none⟩,
  ⟨some 63, .lenStr (.t 62), none⟩,
  ⟨some 64, .bin .geq (.t 61) (.t 63), none⟩,
  ⟨some 65, .mov (.t 64), none⟩,
  ⟨some 66, .mov (.t 0), some (65, false)⟩,
  ⟨some 67, .mov (.t 1), some (65, false)⟩,
  ⟨some 68, .ixStr (.t 66) (.t 67), some (65, false)⟩,
  ⟨some 69, .bin .gtr (.t 68) (.c (.int .u8 1)), some (65, false)⟩,
  ⟨some 70, .pick (.t 65) (.c (.bool true)) (.t 69), none⟩]
def f41r15 : List AIns := [⟨some 71, .loadN 3 (.t 9), none⟩,
  ⟨some 72, .mov (.t 1), none⟩,
  ⟨none, .store 3 (.t 6) (.t 71), none⟩,
  ⟨some 7, .mov (.t 72), none⟩,
  ⟨some 8, .mov (.c (.bool false)), none⟩]
def f41r16 : List AIns := [⟨some 73, .mov (.t 0), none⟩,
  ⟨some 74, .mov (.t 1), none⟩,
  ⟨some 75, .ixStr (.t 73) (.t 74), none⟩,
  ⟨some 76, .bin .eql (.t 75) (.c (.int .u8 1)), none⟩,
  ⟨some 77, .addOff 1 (.t 9), none⟩,
  ⟨none, .store 1 (.t 77) (.t 76), none⟩]
def f41r17 : List AIns := [⟨some 78, .mov (.t 1), none⟩,
  ⟨some 79, .bin .add (.t 78) (.c (.int .i64 1)), none⟩,
  ⟨some 1, .mov (.t 79), none⟩]
def f41r18 : List AIns := [⟨some 80, .addOff 1 (.t 9), none⟩,
  ⟨some 81, .load1 (.t 80), none⟩]
def f41r19 : List AIns := [⟨some 83, .mov (.t 0), none⟩,
  ⟨some 84, .mov (.t 1), none⟩,
  ⟨some 85, .sliceStr (.t 83) (some (.t 84)) none, none⟩,
  ⟨some 86, .call (.c (.func (.func 40) #[] #[])) [(.t 85)], none⟩,
  ⟨some 82, .mov (.t 86), none⟩,
  ⟨some 87, .extract (.t 82) 0, none⟩,
  ⟨some 88, .extract (.t 82) 1, none⟩,
  ⟨some 11, .mov (.t 87), none⟩,
  ⟨some 12, .mov (.t 88), none⟩]
def f41r20 : List AIns := [⟨some 89, .mov (.t 12), none⟩,
  ⟨some 90, .bin .eql (.t 89) (.c (.int .i64 0)), none⟩]
def f41r21 : List AIns := [⟨some 91, .loadN 3 (.t 9), none⟩,
  ⟨some 92, .mov (.t 1), none⟩,
  ⟨none, .store 3 (.t 6) (.t 91), none⟩,
  ⟨some 7, .mov (.t 92), none⟩,
  ⟨some 8, .mov (.c (.bool false)), none⟩]
def f41r22 : List AIns := [⟨some 93, .mov (.t 11), none⟩,
  ⟨some 94, .addOff 2 (.t 9), none⟩,
  ⟨none, .store 1 (.t 94) (.t 93), none⟩]
def f41r23 : List AIns := [⟨some 95, .mov (.t 1), none⟩,
  ⟨some 96, .mov (.t 12), none⟩,
  ⟨some 97, .bin .add (.t 95) (.t 96), none⟩,
  ⟨some 1, .mov (.t 97), none⟩]
def f41r24 : List AIns := [⟨some 98, .loadN 3 (.t 9), none⟩,
  ⟨some 99, .mov (.t 1), none⟩,
  ⟨none, .store 3 (.t 6) (.t 98), none⟩,
  ⟨some 7, .mov (.t 99), none⟩,
  ⟨some 8, .mov (.c (.bool true)), none⟩]
def f41b : ACode := (.seq (.reg f41r0) (.seq (.reg f41r1) (.seq (.reg f41r2) (.seq (.seq (.reg f41r3) (.cond (.t 13) (.reg f41r4) .skip)) (.seq (.seq (.reg f41r5) (.cond (.t 24) (.seq (.reg f41r6) .ret) .skip)) (.seq (.reg f41r7) (.seq (.seq (.reg f41r8) (.cond (.t 47) (.seq (.reg f41r9) .ret) .skip)) (.seq (.reg f41r10) (.seq (.reg f41r11) (.seq (.seq (.reg f41r12) (.cond (.t 58) (.seq (.reg f41r13) .ret) .skip)) (.seq (.seq (.reg f41r14) (.cond (.t 70) (.seq (.reg f41r15) .ret) .skip)) (.seq (.reg f41r16) (.seq (.reg f41r17) (.seq (.seq (.reg f41r18) (.cond (.t 81) (.seq (.reg f41r19) (.seq (.seq (.reg f41r20) (.cond (.t 90) (.seq (.reg f41r21) .ret) .skip)) (.seq (.reg f41r22) (.reg f41r23)))) .skip)) (.seq (.reg f41r24) .ret)))))))))))))))
def f41 : AFn := ⟨100, f41b, [.cellN 6 3, .tmp 7, .tmp 8], .pure⟩
theorem f41_is : cFn Tryz.prog .pure 41 = some f41 := by kernel_rfl

/-- bocage/bocageref19.part -/
def f42r0 : List AIns := [⟨some 6, .alloc 58 [(.int .i64 0), (.int .i64 0), (.int .i64 0), (.int .i64 0), (.int .i64 0)], none⟩,
  ⟨some 7, .mov (.c (.int .i64 0)), none⟩,
  ⟨some 8, .mov (.c (.bool false)), none⟩]
def f42r1 : List AIns := [⟨some 9, .alloc 58 [(.int .i64 0), (.int .i64 0), (.int .i64 0), (.int .i64 0), (.int .i64 0)], none⟩]
def f42r2 : List AIns := [⟨some 17, .mov (.t 0), none⟩,
  ⟨some 18, .mov (.t 1), none⟩,
  ⟨some 19, .sliceStr (.t 17) (some (.t 18)) none, none⟩,
  ⟨some 20, .call (.c (.func (.func 58) #[] #[])) [(.t 19)], none⟩,
  ⟨some 16, .mov (.t 20), none⟩,
  ⟨some 21, .extract (.t 16) 0, none⟩,
  ⟨some 22, .extract (.t 16) 1, none⟩,
  ⟨some 10, .alloc 48 [(.int .i64 0), (.int .i64 0)], none⟩,
  ⟨none, .store 2 (.t 10) (.t 21), none⟩,
  ⟨some 11, .mov (.t 22), none⟩]
def f42r3 : List AIns := [⟨some 23, .mov (.t 11), none⟩,
  ⟨some 24, .bin .eql (.t 23) (.c (.int .i64 0)), none⟩]
def f42r4 : List AIns := [⟨some 25, .loadN 5 (.t 9), none⟩,
  ⟨some 26, .mov (.t 1), none⟩,
  ⟨none, .store 5 (.t 6) (.t 25), none⟩,
  ⟨some 7, .mov (.t 26), none⟩,
  ⟨some 8, .mov (.c (.bool false)), none⟩]
def f42r5 : List AIns := [⟨some 27, .mov (.t 1), none⟩,
  ⟨some 28, .mov (.t 11), none⟩,
  ⟨some 29, .bin .add (.t 27) (.t 28), none⟩,
  ⟨some 1, .mov (.t 29), none⟩]
def f42r6 : List AIns := [⟨some 31, .mov (.t 0), none⟩,
  ⟨some 32, .mov (.t 1), none⟩,
  ⟨some 33, .sliceStr (.t 31) (some (.t 32)) none, none⟩,
  ⟨some 34, .call (.c (.func (.func 58) #[] #[])) [(.t 33)], none⟩,
  ⟨some 30, .mov (.t 34), none⟩,
  ⟨some 35, .extract (.t 30) 0, none⟩,
  ⟨some 36, .extract (.t 30) 1, none⟩,
  ⟨some 12, .alloc 48 [(.int .i64 0), (.int .i64 0)], none⟩,
  ⟨none, .store 2 (.t 12) (.t 35), none⟩,
  ⟨some 13, .mov (.t 36), none⟩]
def f42r7 : List AIns := [⟨some 37, .mov (.t 13), none⟩,
  ⟨some 38, .bin .eql (.t 37) (.c (.int .i64 0)), none⟩]
def f42r8 : List AIns := [⟨some 39, .loadN 5 (.t 9), none⟩,
  ⟨some 40, .mov (.t 1), none⟩,
  ⟨none, .store 5 (.t 6) (.t 39), none⟩,
  ⟨some 7, .mov (.t 40), none⟩,
  ⟨some 8, .mov (.c (.bool false)), none⟩]
def f42r9 : List AIns := [⟨some 41, .mov (.t 1), none⟩,
  ⟨some 42, .mov (.t 13), none⟩,
  ⟨some 43, .bin .add (.t 41) (.t 42), none⟩,
  ⟨some 1, .mov (.t 43), none⟩]
def f42r10 : List AIns := [⟨some 44, .loadN 2 (.t 10), none⟩,
  ⟨some 45, .loadN 2 (.t 12), none⟩,
  ⟨some 46, .build [(.int .i64 0), (.int .i64 0), (.int .i64 0), (.int .i64 0)] [(0, 2, (.t 44)), (2, 2, (.t 45))], none⟩,
  ⟨some 47, .addOff 0 (.t 9), none⟩,
  ⟨none, .store 4 (.t 47) (.t 46), none⟩]
def f42r11 : List AIns := [⟨some 48, .mov (.t 2), none⟩]
def f42r12 : List AIns := [⟨some 50, .mov (.t 0), none⟩,
  ⟨some 51, .mov (.t 1), none⟩,
  ⟨some 52, .sliceStr (.t 50) (some (.t 51)) none, none⟩,
  ⟨some 53, .call (.c (.func (.func 40) #[] #[])) [(.t 52)], none⟩,
  ⟨some 49, .mov (.t 53), none⟩,
  ⟨some 54, .extract (.t 49) 0, none⟩,
  ⟨some 55, .extract (.t 49) 1, none⟩,
  ⟨some 14, .mov (.t 54), none⟩,
  ⟨some 15, .mov (.t 55), none⟩]
def f42r13 : List AIns := [⟨some 56, .mov (.t 15), none⟩,
  ⟨some 57, .bin .eql (.t 56) (.c (.int .i64 0)), none⟩]
def f42r14 : List AIns := [⟨some 58, .loadN 5 (.t 9), none⟩,
  ⟨some 59, .mov (.t 1), none⟩,
  ⟨none, .store 5 (.t 6) (.t 58), none⟩,
  ⟨some 7, .mov (.t 59), none⟩,
  ⟨some 8, .mov (.c (.bool false)), none⟩]
def f42r15 : List AIns := [⟨some 60, .mov (.t 14), none⟩,
  ⟨some 61, .addOff 4 (.t 9), none⟩,
  ⟨none, .store 1 (.t 61) (.t 60), none⟩]
def f42r16 : List AIns := [⟨some 62, .mov (.t 1), none⟩,
  ⟨some 63, .mov (.t 15), none⟩,
  ⟨some 64, .bin .add (.t 62) (.t 63), none⟩,
  ⟨some 1, .mov (.t 64), none⟩]
def f42r17 : List AIns := [⟨some 65, .loadN 5 (.t 9), none⟩,
  ⟨some 66, .mov (.t 1), none⟩,
  ⟨none, .store 5 (.t 6) (.t 65), none⟩,
  ⟨some 7, .mov (.t 66), none⟩,
  ⟨some 8, .mov (.c (.bool true)), none⟩]
def f42b : ACode := (.seq (.reg f42r0) (.seq (.reg f42r1) (.seq (.reg f42r2) (.seq (.seq (.reg f42r3) (.cond (.t 24) (.seq (.reg f42r4) .ret) .skip)) (.seq (.reg f42r5) (.seq (.reg f42r6) (.seq (.seq (.reg f42r7) (.cond (.t 38) (.seq (.reg f42r8) .ret) .skip)) (.seq (.reg f42r9) (.seq (.reg f42r10) (.seq (.seq (.reg f42r11) (.cond (.t 48) (.seq (.reg f42r12) (.seq (.seq (.reg f42r13) (.cond (.t 57) (.seq (.reg f42r14) .ret) .skip)) (.seq (.reg f42r15) (.reg f42r16)))) .skip)) (.seq (.reg f42r17) .ret)))))))))))
def f42 : AFn := ⟨67, f42b, [.cellN 6 5, .tmp 7, .tmp 8], .pure⟩
theorem f42_is : cFn Tryz.prog .pure 42 = some f42 := by kernel_rfl

/-- slices.Equal[[]byte,byte] -/
def f43r0 : List AIns := [⟨some 4, .mov (.c (.bool false)), none⟩]
def f43r1 : List AIns := [⟨some 6, .mov (.t 0), none⟩,
  ⟨some 7, .len (.t 6), none⟩,
  ⟨some 8, .mov (.t 1), none⟩,
  ⟨some 9, .len (.t 8), none⟩,
  ⟨some 10, .bin .neq (.t 7) (.t 9), none⟩]
def f43r2 : List AIns := [⟨some 4, .mov (.c (.bool false)), none⟩]
def f43r3 : List AIns := [⟨some 11, .mov (.t 0), none⟩,
  ⟨some 12, .len (.t 11), none⟩,
  ⟨some 13, .mov (.c (.int .i64 0)), none⟩]
def f43r4 : List AIns := [⟨some 14, .bin .lss (.t 13) (.t 12), none⟩]
def f43r5 : List AIns := [⟨some 15, .mov (.t 13), none⟩,
  ⟨some 5, .mov (.t 15), none⟩]
def f43r6 : List AIns := [⟨some 16, .mov (.t 0), none⟩,
  ⟨some 17, .mov (.t 5), none⟩,
  ⟨some 18, .idxA 1 (.t 16) (.t 17), none⟩,
  ⟨some 19, .load1 (.t 18), none⟩,
  ⟨some 20, .mov (.t 1), none⟩,
  ⟨some 21, .mov (.t 5), none⟩,
  ⟨some 22, .idxA 1 (.t 20) (.t 21), none⟩,
  ⟨some 23, .load1 (.t 22), none⟩,
  ⟨some 24, .bin .neq (.t 19) (.t 23), none⟩]
def f43r7 : List AIns := [⟨some 4, .mov (.c (.bool false)), none⟩]
def f43r8 : List AIns := [⟨some 25, .bin .add (.t 13) (.c (.int .i64 1)), none⟩,
  ⟨some 13, .mov (.t 25), none⟩]
def f43l9 : ACode := (.seq (.reg f43r4) (.seq (.cond (.t 14) .skip (.exit 0)) (.seq (.block 1 (.seq (.reg f43r5) (.seq (.regD f43r6 [(0, []), (1, []), (2, []), (3, []), (4, []), (5, []), (6, []), (7, []), (8, [])]) (.cond (.t 24) (.seq (.reg f43r7) .ret) .skip)))) (.reg f43r8))))
def f43r10 : List AIns := [⟨some 4, .mov (.c (.bool true)), none⟩]
def f43b : ACode := (.seq (.reg f43r0) (.seq (.seq (.reg f43r1) (.cond (.t 10) (.seq (.reg f43r2) .ret) .skip)) (.seq (.seq (.reg f43r3) (.block 0 (.loop f43l9))) (.seq (.reg f43r10) .ret))))
def f43 : AFn := ⟨26, f43b, [.tmp 4], .pure⟩
theorem f43_is : cFn Tryz.prog .pure 43 = some f43 := by kernel_rfl

/-- bocage/imap.New -/
def f44r0 : List AIns := [⟨some 3, .box 30 (.t 0), none⟩,
  ⟨some 6, .mov (.c (.pointer none)), none⟩,
  ⟨some 7, .mov (.c (.int .i64 0)), none⟩]
def f44r1 : List AIns := [⟨some 11, .mov (.t 1), none⟩,
  ⟨some 12, .mov (.t 2), none⟩,
  ⟨some 13, .call (.c (.func (.func 59) #[] #[])) [(.t 11), (.t 12)], none⟩,
  ⟨some 10, .mov (.t 13), none⟩,
  ⟨some 14, .extract (.t 10) 0, none⟩,
  ⟨some 15, .extract (.t 10) 1, none⟩,
  ⟨some 8, .mov (.t 14), none⟩,
  ⟨some 9, .mov (.t 15), none⟩]
def f44r2 : List AIns := [⟨some 16, .mov (.t 9), none⟩,
  ⟨some 17, .bin .neq (.t 16) (.c (.int .i64 0)), none⟩,
  ⟨some 18, .mov (.t 17), none⟩,
  ⟨some 19, .loadN 3 (.t 3), some (18, false)⟩,
  ⟨some 20, .call (.c (.func (.func 60) #[] #[])) [(.t 19)], some (18, false)⟩,
  ⟨some 21, .un .not (.t 20), some (18, false)⟩,
  ⟨some 22, .pick (.t 18) (.c (.bool true)) (.t 21), none⟩]
def f44r3 : List AIns := [⟨some 6, .mov (.c (.pointer none)), none⟩,
  ⟨some 7, .mov (.c (.int .i64 1)), none⟩]
def f44r4 : List AIns := [⟨some 23, .loadN 3 (.t 3), none⟩,
  ⟨some 24, .mov (.t 8), none⟩,
  ⟨some 25, .build [(.int .i64 0), (.bool false), (.int .i64 0), (.pointer none)] [(0, 3, (.t 23)), (3, 1, (.t 24))], none⟩,
  ⟨some 26, .box 105 (.t 25), none⟩,
  ⟨some 6, .mov (.t 26), none⟩,
  ⟨some 7, .mov (.c (.int .i64 0)), none⟩]
def f44b : ACode := (.seq (.reg f44r0) (.seq (.reg f44r1) (.seq (.seq (.reg f44r2) (.cond (.t 22) (.seq (.reg f44r3) .ret) .skip)) (.seq (.reg f44r4) .ret))))
def f44 : AFn := ⟨27, f44b, [.tmp 6, .tmp 7], .plain⟩
theorem f44_is : cFn Tryz.prog .plain 44 = some f44 := by kernel_rfl

/-- bocage/span.Sorted -/
def f45r0 : List AIns := [⟨some 2, .mov (.c (.bool false)), none⟩]
def f45r1 : List AIns := [⟨some 5, .mov (.t 0), none⟩,
  ⟨some 6, .len (.t 5), none⟩,
  ⟨some 7, .mov (.c (.int .i64 0)), none⟩]
def f45r2 : List AIns := [⟨some 8, .bin .lss (.t 7) (.t 6), none⟩]
def f45r3 : List AIns := [⟨some 9, .mov (.t 7), none⟩,
  ⟨some 10, .idxA 4 (.t 5) (.t 7), none⟩,
  ⟨some 11, .loadN 4 (.t 10), none⟩,
  ⟨some 4, .alloc 50 [(.int .i64 0), (.int .i64 0), (.int .i64 0), (.int .i64 0)], none⟩,
  ⟨some 3, .mov (.t 9), none⟩,
  ⟨none, .store 4 (.t 4) (.t 11), none⟩]
def f45r4 : List AIns := [⟨some 12, .loadN 4 (.t 4), none⟩,
  ⟨some 13, .call (.c (.func (.func 61) #[] #[])) [(.t 12)], none⟩,
  ⟨some 14, .un .not (.t 13), none⟩,
  ⟨some 15, .mov (.t 14), none⟩,
  ⟨some 16, .mov (.t 3), some (15, false)⟩,
  ⟨some 17, .bin .gtr (.t 16) (.c (.int .i64 0)), some (15, false)⟩,
  ⟨some 18, .mov (.t 17), some (15, false)⟩,
  ⟨some 19, .mov (.t 0), some (18, true)⟩,
  ⟨some 20, .mov (.t 3), some (18, true)⟩,
  ⟨some 21, .bin .sub (.t 20) (.c (.int .i64 1)), some (18, true)⟩,
  ⟨some 22, .idxA 4 (.t 19) (.t 21), some (18, true)⟩,
  ⟨some 23, .addOff 2 (.t 22), some (18, true)⟩,
  ⟨some 24, .loadN 2 (.t 23), some (18, true)⟩,
  ⟨some 25, .addOff 0 (.t 4), some (18, true)⟩,
  ⟨some 26, .loadN 2 (.t 25), some (18, true)⟩,
  ⟨some 27, .call (.c (.func (.func 62) #[] #[])) [(.t 24), (.t 26)], some (18, true)⟩,
  ⟨some 28, .bin .gtr (.t 27) (.c (.int .i64 0)), some (18, true)⟩,
  ⟨some 29, .pick (.t 18) (.t 28) (.c (.bool false)), some (15, false)⟩,
  ⟨some 30, .pick (.t 15) (.c (.bool true)) (.t 29), none⟩]
def f45r5 : List AIns := [⟨some 2, .mov (.c (.bool false)), none⟩]
def f45r6 : List AIns := [⟨some 31, .bin .add (.t 7) (.c (.int .i64 1)), none⟩,
  ⟨some 7, .mov (.t 31), none⟩]
def f45l7 : ACode := (.seq (.reg f45r2) (.seq (.cond (.t 8) .skip (.exit 0)) (.seq (.block 1 (.seq (.reg f45r3) (.seq (.regD f45r4 [(0, []), (1, []), (2, []), (3, []), (4, []), (5, []), (6, []), (7, []), (8, []), (9, []), (10, []), (11, []), (12, []), (13, []), (14, []), (15, []), (16, []), (17, []), (18, [])]) (.cond (.t 30) (.seq (.reg f45r5) .ret) .skip)))) (.reg f45r6))))
def f45r8 : List AIns := [⟨some 2, .mov (.c (.bool true)), none⟩]
def f45b : ACode := (.seq (.reg f45r0) (.seq (.seq (.reg f45r1) (.block 0 (.loop f45l7))) (.seq (.reg f45r8) .ret)))
def f45 : AFn := ⟨32, f45b, [.tmp 2], .pure⟩
theorem f45_is : cFn Tryz.prog .pure 45 = some f45 := by kernel_rfl

/-- bocage/imap.spans -/
def f46r0 : List AIns := [⟨some 2, .mov (.c (.slice none 0 0)), none⟩]
def f46r1 : List AIns := [⟨some 3, .mov (.c (.slice none 0 0)), none⟩]
def f46r2 : List AIns := [⟨some 6, .mov (.t 0), none⟩,
  ⟨some 7, .len (.t 6), none⟩,
  ⟨some 8, .mov (.c (.int .i64 0)), none⟩]
def f46r3 : List AIns := [⟨some 9, .bin .lss (.t 8) (.t 7), none⟩]
def f46r4 : List AIns := [⟨some 10, .idxA 5 (.t 6) (.t 8), none⟩,
  ⟨some 11, .loadN 5 (.t 10), none⟩,
  ⟨some 5, .alloc 58 [(.int .i64 0), (.int .i64 0), (.int .i64 0), (.int .i64 0), (.int .i64 0)], none⟩,
  ⟨none, .store 5 (.t 5) (.t 11), none⟩]
def f46r5 : List AIns := [⟨some 12, .mov (.t 3), none⟩,
  ⟨some 13, .addOff 0 (.t 5), none⟩,
  ⟨some 14, .loadN 4 (.t 13), none⟩,
  ⟨some 15, .buildSlice 50 1 [(.int .i64 0), (.int .i64 0), (.int .i64 0), (.int .i64 0)] [(0, 4, (.t 14))], none⟩,
  ⟨some 16, .append 50 4 32 (.t 12) (.t 15), none⟩,
  ⟨some 3, .mov (.t 16), none⟩]
def f46r6 : List AIns := [⟨some 17, .bin .add (.t 8) (.c (.int .i64 1)), none⟩,
  ⟨some 8, .mov (.t 17), none⟩]
def f46l7 : ACode := (.seq (.reg f46r3) (.seq (.cond (.t 9) .skip (.exit 0)) (.seq (.block 1 (.seq (.reg f46r4) (.reg f46r5))) (.reg f46r6))))
def f46r8 : List AIns := [⟨some 18, .mov (.t 3), none⟩,
  ⟨some 2, .mov (.t 18), none⟩]
def f46b : ACode := (.seq (.reg f46r0) (.seq (.reg f46r1) (.seq (.seq (.reg f46r2) (.block 0 (.loop f46l7))) (.seq (.reg f46r8) .ret))))
def f46 : AFn := ⟨19, f46b, [.tmp 2], .pure⟩
theorem f46_is : cFn Tryz.prog .pure 46 = some f46 := by kernel_rfl

/-- slices.Equal[[]bocage/api.Seg,bocage/api.Seg] -/
def f47r0 : List AIns := [⟨some 4, .mov (.c (.bool false)), none⟩]
def f47r1 : List AIns := [⟨some 6, .mov (.t 0), none⟩,
  ⟨some 7, .len (.t 6), none⟩,
  ⟨some 8, .mov (.t 1), none⟩,
  ⟨some 9, .len (.t 8), none⟩,
  ⟨some 10, .bin .neq (.t 7) (.t 9), none⟩]
def f47r2 : List AIns := [⟨some 4, .mov (.c (.bool false)), none⟩]
def f47r3 : List AIns := [⟨some 11, .mov (.t 0), none⟩,
  ⟨some 12, .len (.t 11), none⟩,
  ⟨some 13, .mov (.c (.int .i64 0)), none⟩]
def f47r4 : List AIns := [⟨some 14, .bin .lss (.t 13) (.t 12), none⟩]
def f47r5 : List AIns := [⟨some 15, .mov (.t 13), none⟩,
  ⟨some 5, .mov (.t 15), none⟩]
def f47r6 : List AIns := [⟨some 16, .mov (.t 0), none⟩,
  ⟨some 17, .mov (.t 5), none⟩,
  ⟨some 18, .idxA 5 (.t 16) (.t 17), none⟩,
  ⟨some 19, .loadN 5 (.t 18), none⟩,
  ⟨some 20, .mov (.t 1), none⟩,
  ⟨some 21, .mov (.t 5), none⟩,
  ⟨some 22, .idxA 5 (.t 20) (.t 21), none⟩,
  ⟨some 23, .loadN 5 (.t 22), none⟩,
  ⟨some 24, .eqv true [.i, .i, .i, .i, .i] true (.t 19) (.t 23), none⟩]
def f47r7 : List AIns := [⟨some 4, .mov (.c (.bool false)), none⟩]
def f47r8 : List AIns := [⟨some 25, .bin .add (.t 13) (.c (.int .i64 1)), none⟩,
  ⟨some 13, .mov (.t 25), none⟩]
def f47l9 : ACode := (.seq (.reg f47r4) (.seq (.cond (.t 14) .skip (.exit 0)) (.seq (.block 1 (.seq (.reg f47r5) (.seq (.regD f47r6 [(0, []), (1, []), (2, []), (3, []), (4, []), (5, []), (6, []), (7, []), (8, [])]) (.cond (.t 24) (.seq (.reg f47r7) .ret) .skip)))) (.reg f47r8))))
def f47r10 : List AIns := [⟨some 4, .mov (.c (.bool true)), none⟩]
def f47b : ACode := (.seq (.reg f47r0) (.seq (.seq (.reg f47r1) (.cond (.t 10) (.seq (.reg f47r2) .ret) .skip)) (.seq (.seq (.reg f47r3) (.block 0 (.loop f47l9))) (.seq (.reg f47r10) .ret))))
def f47 : AFn := ⟨26, f47b, [.tmp 4], .pure⟩
theorem f47_is : cFn Tryz.prog .pure 47 = some f47 := by kernel_rfl

/-- bocage/imap.Tidy -/
def f48r0 : List AIns := [⟨some 2, .box 30 (.t 0), none⟩,
  ⟨some 4, .mov (.c (.slice none 0 0)), none⟩]
def f48r1 : List AIns := [⟨some 9, .mov (.t 1), none⟩,
  ⟨some 10, .call (.c (.func (.func 46) #[] #[])) [(.t 9)], none⟩,
  ⟨some 11, .call (.c (.func (.func 45) #[] #[])) [(.t 10)], none⟩,
  ⟨some 12, .un .not (.t 11), none⟩]
def f48r2 : List AIns := [⟨some 4, .mov (.c (.slice none 0 0)), none⟩]
def f48r3 : List AIns := [⟨some 5, .alloc 24 [(.slice none 0 0)], none⟩]
def f48r4 : List AIns := [⟨some 13, .mkFunc (.func 63) [] [(.t 5), (.t 2)], none⟩,
  ⟨some 6, .mov (.t 13), none⟩]
def f48r5 : List AIns := [⟨some 14, .mov (.t 1), none⟩,
  ⟨some 15, .len (.t 14), none⟩,
  ⟨some 16, .mov (.c (.int .i64 0)), none⟩]
def f48r6 : List AIns := [⟨some 17, .bin .lss (.t 16) (.t 15), none⟩]
def f48r7 : List AIns := [⟨some 18, .idxA 5 (.t 14) (.t 16), none⟩,
  ⟨some 19, .loadN 5 (.t 18), none⟩,
  ⟨some 8, .alloc 58 [(.int .i64 0), (.int .i64 0), (.int .i64 0), (.int .i64 0), (.int .i64 0)], none⟩,
  ⟨none, .store 5 (.t 8) (.t 19), none⟩]
def f48r8 : List AIns := [⟨some 20, .addOff 1 (.t 2), none⟩,
  ⟨some 21, .load1 (.t 20), none⟩,
  ⟨some 22, .un .not (.t 21), none⟩,
  ⟨some 23, .mov (.t 22), none⟩,
  ⟨some 24, .addOff 4 (.t 8), some (23, false)⟩,
  ⟨some 25, .load1 (.t 24), some (23, false)⟩,
  ⟨some 26, .addOff 2 (.t 2), some (23, false)⟩,
  ⟨some 27, .load1 (.t 26), some (23, false)⟩,
  ⟨some 28, .bin .neq (.t 25) (.t 27), some (23, false)⟩,
  ⟨some 29, .pick (.t 23) (.c (.bool true)) (.t 28), none⟩]
def f48r9 : List AIns := [⟨some 30, .mov (.t 6), none⟩,
  ⟨some 31, .loadN 5 (.t 8), none⟩,
  ⟨some 32, .call (.t 30) [(.t 31)], none⟩]
def f48r10 : List AIns := [⟨some 33, .bin .add (.t 16) (.c (.int .i64 1)), none⟩,
  ⟨some 16, .mov (.t 33), none⟩]
def f48l11 : ACode := (.seq (.reg f48r6) (.seq (.cond (.t 17) .skip (.exit 0)) (.seq (.block 1 (.seq (.reg f48r7) (.seq (.reg f48r8) (.cond (.t 29) (.reg f48r9) .skip)))) (.reg f48r10))))
def f48r12 : List AIns := [⟨some 34, .load1 (.t 5), none⟩,
  ⟨some 4, .mov (.t 34), none⟩]
def f48b : ACode := (.seq (.reg f48r0) (.seq (.seq (.reg f48r1) (.cond (.t 12) (.seq (.reg f48r2) .ret) .skip)) (.seq (.reg f48r3) (.seq (.reg f48r4) (.seq (.seq (.reg f48r5) (.block 0 (.loop f48l11))) (.seq (.reg f48r12) .ret))))))
def f48 : AFn := ⟨35, f48b, [.tmp 4], .pure⟩
theorem f48_is : cFn Tryz.prog .pure 48 = some f48 := by kernel_rfl

/-- bocage/cut.Canon -/
def f49r0 : List AIns := [⟨some 1, .box 48 (.t 0), none⟩,
  ⟨some 2, .alloc 48 [(.int .i64 0), (.int .i64 0)], none⟩]
def f49r1 : List AIns := [⟨some 4, .addOff 0 (.t 1), none⟩,
  ⟨some 5, .load1 (.t 4), none⟩,
  ⟨some 6, .bin .lss (.t 5) (.c (.int .i64 0)), none⟩,
  ⟨some 7, .mov (.t 6), none⟩,
  ⟨some 8, .addOff 0 (.t 1), some (7, false)⟩,
  ⟨some 9, .load1 (.t 8), some (7, false)⟩,
  ⟨some 10, .bin .eql (.t 9) (.c (.int .i64 0)), some (7, false)⟩,
  ⟨some 11, .mov (.t 10), some (7, false)⟩,
  ⟨some 12, .addOff 1 (.t 1), some (11, true)⟩,
  ⟨some 13, .load1 (.t 12), some (11, true)⟩,
  ⟨some 14, .bin .eql (.t 13) (.c (.int .i64 (-9223372036854775808))), some (11, true)⟩,
  ⟨some 15, .pick (.t 11) (.t 14) (.c (.bool false)), some (7, false)⟩,
  ⟨some 16, .pick (.t 7) (.c (.bool true)) (.t 15), none⟩,
  ⟨some 3, .mov (.t 16), none⟩]
def f49r2 : List AIns := [⟨some 17, .call (.c (.func (.func 64) #[] #[])) [], none⟩,
  ⟨none, .store 2 (.t 2) (.t 17), none⟩]
def f49r3 : List AIns := [⟨some 19, .addOff 0 (.t 1), none⟩,
  ⟨some 20, .load1 (.t 19), none⟩,
  ⟨some 21, .bin .gtr (.t 20) (.c (.int .i64 0)), none⟩,
  ⟨some 18, .mov (.t 21), none⟩]
def f49r4 : List AIns := [⟨some 22, .call (.c (.func (.func 65) #[] #[])) [], none⟩,
  ⟨none, .store 2 (.t 2) (.t 22), none⟩]
def f49r5 : List AIns := [⟨some 23, .loadN 2 (.t 1), none⟩,
  ⟨none, .store 2 (.t 2) (.t 23), none⟩]
def f49b : ACode := (.seq (.reg f49r0) (.seq (.block 0 (.seq (.reg f49r1) (.cond (.t 3) (.seq (.reg f49r2) .ret) (.seq (.reg f49r3) (.cond (.t 18) (.seq (.reg f49r4) .ret) .skip))))) (.seq (.reg f49r5) .ret)))
def f49 : AFn := ⟨24, f49b, [.cellN 2 2], .pure⟩
theorem f49_is : cFn Tryz.prog .pure 49 = some f49 := by kernel_rfl

/-- bocage/bocageref02.Canon -/
def f50r0 : List AIns := [⟨some 1, .box 48 (.t 0), none⟩,
  ⟨some 2, .alloc 48 [(.int .i64 0), (.int .i64 0)], none⟩]
def f50r1 : List AIns := [⟨some 3, .addOff 0 (.t 1), none⟩,
  ⟨some 4, .load1 (.t 3), none⟩,
  ⟨some 5, .bin .lss (.t 4) (.c (.int .i64 0)), none⟩,
  ⟨some 6, .mov (.t 5), none⟩,
  ⟨some 7, .addOff 0 (.t 1), some (6, false)⟩,
  ⟨some 8, .load1 (.t 7), some (6, false)⟩,
  ⟨some 9, .bin .eql (.t 8) (.c (.int .i64 0)), some (6, false)⟩,
  ⟨some 10, .mov (.t 9), some (6, false)⟩,
  ⟨some 11, .addOff 1 (.t 1), some (10, true)⟩,
  ⟨some 12, .load1 (.t 11), some (10, true)⟩,
  ⟨some 13, .call (.c (.func (.func 66) #[] #[])) [], some (10, true)⟩,
  ⟨some 14, .bin .eql (.t 12) (.t 13), some (10, true)⟩,
  ⟨some 15, .pick (.t 10) (.t 14) (.c (.bool false)), some (6, false)⟩,
  ⟨some 16, .pick (.t 6) (.c (.bool true)) (.t 15), none⟩]
def f50r2 : List AIns := [⟨some 17, .build [(.int .i64 0), (.int .i64 0)] [(0, 1, (.c (.int .i64 (-1))))], none⟩,
  ⟨none, .store 2 (.t 2) (.t 17), none⟩]
def f50r3 : List AIns := [⟨some 18, .addOff 0 (.t 1), none⟩,
  ⟨some 19, .load1 (.t 18), none⟩,
  ⟨some 20, .bin .gtr (.t 19) (.c (.int .i64 0)), none⟩]
def f50r4 : List AIns := [⟨some 21, .build [(.int .i64 0), (.int .i64 0)] [(0, 1, (.c (.int .i64 1)))], none⟩,
  ⟨none, .store 2 (.t 2) (.t 21), none⟩]
def f50r5 : List AIns := [⟨some 22, .loadN 2 (.t 1), none⟩,
  ⟨none, .store 2 (.t 2) (.t 22), none⟩]
def f50b : ACode := (.seq (.reg f50r0) (.seq (.seq (.regD f50r1 [(0, []), (1, []), (2, []), (3, []), (4, []), (5, []), (6, []), (7, []), (8, []), (9, []), (10, [9]), (11, []), (12, []), (13, [])]) (.cond (.t 16) (.seq (.reg f50r2) .ret) .skip)) (.seq (.seq (.reg f50r3) (.cond (.t 20) (.seq (.reg f50r4) .ret) .skip)) (.seq (.reg f50r5) .ret))))
def f50 : AFn := ⟨23, f50b, [.cellN 2 2], .pure⟩
theorem f50_is : cFn Tryz.prog .pure 50 = some f50 := by kernel_rfl

/-- bocage/bocageref09.Sound -/
def f51r0 : List AIns := [⟨some 2, .mov (.c (.bool false)), none⟩]
def f51r1 : List AIns := [⟨some 3, .mov (.t 0), none⟩,
  ⟨some 4, .call (.c (.func (.func 14) #[] #[])) [(.t 3)], none⟩,
  ⟨some 5, .call (.c (.func (.func 53) #[] #[])) [(.t 4)], none⟩,
  ⟨some 2, .mov (.t 5), none⟩]
def f51b : ACode := (.seq (.reg f51r0) (.seq (.reg f51r1) .ret))
def f51 : AFn := ⟨6, f51b, [.tmp 2], .pure⟩
theorem f51_is : cFn Tryz.prog .pure 51 = some f51 := by kernel_rfl

/-- bocage/bocageref14.Tidy -/
def f52r0 : List AIns := [⟨some 2, .box 23 (.t 0), none⟩,
  ⟨some 4, .mov (.c (.slice none 0 0)), none⟩]
def f52r1 : List AIns := [⟨some 8, .mov (.t 1), none⟩,
  ⟨some 9, .call (.c (.func (.func 51) #[] #[])) [(.t 8)], none⟩,
  ⟨some 10, .un .not (.t 9), none⟩]
def f52r2 : List AIns := [⟨some 4, .mov (.c (.slice none 0 0)), none⟩]
def f52r3 : List AIns := [⟨some 5, .mov (.c (.slice none 0 0)), none⟩]
def f52r4 : List AIns := [⟨some 6, .mov (.c (.int .i64 0)), none⟩]
def f52r5 : List AIns := [⟨some 11, .mov (.t 6), none⟩,
  ⟨some 12, .mov (.t 1), none⟩,
  ⟨some 13, .len (.t 12), none⟩,
  ⟨some 14, .bin .lss (.t 11) (.t 13), none⟩]
def f52r6 : List AIns := [⟨some 17, .addOff 1 (.t 2), none⟩,
  ⟨some 18, .load1 (.t 17), none⟩,
  ⟨some 19, .mov (.t 18), none⟩,
  ⟨some 20, .mov (.t 1), some (19, true)⟩,
  ⟨some 21, .mov (.t 6), some (19, true)⟩,
  ⟨some 22, .idxA 5 (.t 20) (.t 21), some (19, true)⟩,
  ⟨some 23, .addOff 4 (.t 22), some (19, true)⟩,
  ⟨some 24, .load1 (.t 23), some (19, true)⟩,
  ⟨some 25, .addOff 2 (.t 2), some (19, true)⟩,
  ⟨some 26, .load1 (.t 25), some (19, true)⟩,
  ⟨some 27, .bin .eql (.t 24) (.t 26), some (19, true)⟩,
  ⟨some 28, .pick (.t 19) (.t 27) (.c (.bool false)), none⟩]
def f52r7 : List AIns := [⟨some 29, .mov (.t 5), none⟩,
  ⟨some 30, .len (.t 29), none⟩,
  ⟨some 31, .bin .sub (.t 30) (.c (.int .i64 1)), none⟩,
  ⟨some 7, .mov (.t 31), none⟩]
def f52r8 : List AIns := [⟨some 32, .addOff 0 (.t 2), none⟩,
  ⟨some 33, .load1 (.t 32), none⟩,
  ⟨some 34, .bin .eql (.t 33) (.c (.int .i64 0)), none⟩,
  ⟨some 35, .mov (.t 34), none⟩,
  ⟨some 36, .mov (.t 7), some (35, true)⟩,
  ⟨some 37, .bin .geq (.t 36) (.c (.int .i64 0)), some (35, true)⟩,
  ⟨some 38, .pick (.t 35) (.t 37) (.c (.bool false)), none⟩,
  ⟨some 39, .mov (.t 38), none⟩,
  ⟨some 40, .mov (.t 5), some (39, true)⟩,
  ⟨some 41, .mov (.t 7), some (39, true)⟩,
  ⟨some 42, .idxA 5 (.t 40) (.t 41), some (39, true)⟩,
  ⟨some 43, .addOff 4 (.t 42), some (39, true)⟩,
  ⟨some 44, .load1 (.t 43), some (39, true)⟩,
  ⟨some 45, .mov (.t 1), some (39, true)⟩,
  ⟨some 46, .mov (.t 6), some (39, true)⟩,
  ⟨some 47, .idxA 5 (.t 45) (.t 46), some (39, true)⟩,
  ⟨some 48, .addOff 4 (.t 47), some (39, true)⟩,
  ⟨some 49, .load1 (.t 48), some (39, true)⟩,
  ⟨some 50, .bin .eql (.t 44) (.t 49), some (39, true)⟩,
  ⟨some 51, .pick (.t 39) (.t 50) (.c (.bool false)), none⟩,
  ⟨some 52, .mov (.t 51), none⟩,
  ⟨some 53, .mov (.t 5), some (52, true)⟩,
  ⟨some 54, .mov (.t 7), some (52, true)⟩,
  ⟨some 55, .idxA 5 (.t 53) (.t 54), some (52, true)⟩,
  ⟨some 56, .addOff 0 (.t 55), some (52, true)⟩,
  ⟨some 57, .addOff 2 (.t 56), some (52, true)⟩,
  ⟨some 58, .loadN 2 (.t 57), some (52, true)⟩,
  ⟨some 59, .mov (.t 1), some (52, true)⟩,
  ⟨some 60, .mov (.t 6), some (52, true)⟩,
  ⟨some 61, .idxA 5 (.t 59) (.t 60), some (52, true)⟩,
  ⟨some 62, .addOff 0 (.t 61), some (52, true)⟩,
  ⟨some 63, .addOff 0 (.t 62), some (52, true)⟩,
  ⟨some 64, .loadN 2 (.t 63), some (52, true)⟩,
  ⟨some 65, .eqv false [.i, .i] true (.t 58) (.t 64), some (52, true)⟩,
  ⟨some 66, .pick (.t 52) (.t 65) (.c (.bool false)), none⟩]
def f52r9 : List AIns := [⟨some 67, .mov (.t 5), none⟩,
  ⟨some 68, .mov (.t 7), none⟩,
  ⟨some 69, .mov (.t 5), none⟩,
  ⟨some 70, .mov (.t 7), none⟩,
  ⟨some 71, .idxA 5 (.t 69) (.t 70), none⟩,
  ⟨some 72, .addOff 0 (.t 71), none⟩,
  ⟨some 73, .addOff 0 (.t 72), none⟩,
  ⟨some 74, .loadN 2 (.t 73), none⟩,
  ⟨some 75, .mov (.t 1), none⟩,
  ⟨some 76, .mov (.t 6), none⟩,
  ⟨some 77, .idxA 5 (.t 75) (.t 76), none⟩,
  ⟨some 78, .addOff 0 (.t 77), none⟩,
  ⟨some 79, .addOff 2 (.t 78), none⟩,
  ⟨some 80, .loadN 2 (.t 79), none⟩,
  ⟨some 81, .build [(.int .i64 0), (.int .i64 0), (.int .i64 0), (.int .i64 0)] [(0, 2, (.t 74)), (2, 2, (.t 80))], none⟩,
  ⟨some 82, .idxA 5 (.t 67) (.t 68), none⟩,
  ⟨some 83, .addOff 0 (.t 82), none⟩,
  ⟨none, .store 4 (.t 83) (.t 81), none⟩]
def f52r10 : List AIns := [⟨some 84, .mov (.t 5), none⟩,
  ⟨some 85, .mov (.t 1), none⟩,
  ⟨some 86, .mov (.t 6), none⟩,
  ⟨some 87, .idxA 5 (.t 85) (.t 86), none⟩,
  ⟨some 88, .loadN 5 (.t 87), none⟩,
  ⟨some 89, .buildSlice 58 1 [(.int .i64 0), (.int .i64 0), (.int .i64 0), (.int .i64 0), (.int .i64 0)] [(0, 5, (.t 88))], none⟩,
  ⟨some 90, .append 58 5 40 (.t 84) (.t 89), none⟩,
  ⟨some 5, .mov (.t 90), none⟩]
def f52r11 : List AIns := [⟨some 15, .mov (.t 6), none⟩,
  ⟨some 16, .bin .add (.t 15) (.c (.int .i64 1)), none⟩,
  ⟨some 6, .mov (.t 16), none⟩]
def f52l12 : ACode := (.seq (.seq (.reg f52r5) (.cond (.t 14) .skip (.exit 0))) (.seq (.block 1 (.seq (.seq (.regD f52r6 [(0, []), (1, []), (2, []), (3, []), (4, []), (5, []), (6, []), (7, []), (8, []), (9, []), (10, []), (11, [])]) (.cond (.t 28) (.exit 1) .skip)) (.seq (.reg f52r7) (.seq (.regD f52r8 [(0, []), (1, []), (2, []), (3, []), (4, []), (5, []), (6, []), (7, []), (8, []), (9, []), (10, []), (11, []), (12, []), (13, []), (14, []), (15, []), (16, []), (17, []), (18, []), (19, []), (20, []), (21, []), (22, []), (23, []), (24, []), (25, []), (26, []), (27, []), (28, []), (29, []), (30, []), (31, []), (32, []), (33, []), (34, [])]) (.cond (.t 66) (.regD f52r9 [(0, []), (1, []), (2, []), (3, []), (4, []), (5, []), (6, []), (7, []), (8, []), (9, []), (10, []), (11, []), (12, []), (13, []), (14, []), (15, []), (16, []), (17, [])]) (.reg f52r10)))))) (.reg f52r11)))
def f52r13 : List AIns := [⟨some 91, .mov (.t 5), none⟩,
  ⟨some 4, .mov (.t 91), none⟩]
def f52b : ACode := (.seq (.reg f52r0) (.seq (.seq (.reg f52r1) (.cond (.t 10) (.seq (.reg f52r2) .ret) .skip)) (.seq (.reg f52r3) (.seq (.seq (.reg f52r4) (.block 0 (.loop f52l12))) (.seq (.reg f52r13) .ret)))))
def f52 : AFn := ⟨92, f52b, [.tmp 4], .pure⟩
theorem f52_is : cFn Tryz.prog .pure 52 = some f52 := by kernel_rfl

/-- bocage/bocageref03.Sorted -/
def f53r0 : List AIns := [⟨some 2, .mov (.c (.bool false)), none⟩]
def f53r1 : List AIns := [⟨some 3, .mov (.c (.int .i64 0)), none⟩]
def f53r2 : List AIns := [⟨some 4, .mov (.t 3), none⟩,
  ⟨some 5, .mov (.t 0), none⟩,
  ⟨some 6, .len (.t 5), none⟩,
  ⟨some 7, .bin .lss (.t 4) (.t 6), none⟩]
def f53r3 : List AIns := [⟨some 10, .mov (.t 0), none⟩,
  ⟨some 11, .mov (.t 3), none⟩,
  ⟨some 12, .idxA 4 (.t 10) (.t 11), none⟩,
  ⟨some 13, .loadN 4 (.t 12), none⟩,
  ⟨some 14, .call (.c (.func (.func 67) #[] #[])) [(.t 13)], none⟩,
  ⟨some 15, .un .not (.t 14), none⟩,
  ⟨some 16, .mov (.t 15), none⟩,
  ⟨some 17, .mov (.t 3), some (16, false)⟩,
  ⟨some 18, .bin .gtr (.t 17) (.c (.int .i64 0)), some (16, false)⟩,
  ⟨some 19, .mov (.t 18), some (16, false)⟩,
  ⟨some 20, .mov (.t 0), some (19, true)⟩,
  ⟨some 21, .mov (.t 3), some (19, true)⟩,
  ⟨some 22, .idxA 4 (.t 20) (.t 21), some (19, true)⟩,
  ⟨some 23, .addOff 0 (.t 22), some (19, true)⟩,
  ⟨some 24, .loadN 2 (.t 23), some (19, true)⟩,
  ⟨some 25, .mov (.t 0), some (19, true)⟩,
  ⟨some 26, .mov (.t 3), some (19, true)⟩,
  ⟨some 27, .bin .sub (.t 26) (.c (.int .i64 1)), some (19, true)⟩,
  ⟨some 28, .idxA 4 (.t 25) (.t 27), some (19, true)⟩,
  ⟨some 29, .addOff 2 (.t 28), some (19, true)⟩,
  ⟨some 30, .loadN 2 (.t 29), some (19, true)⟩,
  ⟨some 31, .call (.c (.func (.func 68) #[] #[])) [(.t 24), (.t 30)], some (19, true)⟩,
  ⟨some 32, .pick (.t 19) (.t 31) (.c (.bool false)), some (16, false)⟩,
  ⟨some 33, .pick (.t 16) (.c (.bool true)) (.t 32), none⟩]
def f53r4 : List AIns := [⟨some 2, .mov (.c (.bool false)), none⟩]
def f53r5 : List AIns := [⟨some 8, .mov (.t 3), none⟩,
  ⟨some 9, .bin .add (.t 8) (.c (.int .i64 1)), none⟩,
  ⟨some 3, .mov (.t 9), none⟩]
def f53l6 : ACode := (.seq (.seq (.reg f53r2) (.cond (.t 7) .skip (.exit 0))) (.seq (.block 1 (.seq (.regD f53r3 [(0, []), (1, []), (2, []), (3, []), (4, []), (5, []), (6, []), (7, []), (8, []), (9, []), (10, []), (11, []), (12, []), (13, []), (14, []), (15, []), (16, []), (17, []), (18, []), (19, []), (20, []), (21, []), (22, []), (23, [])]) (.cond (.t 33) (.seq (.reg f53r4) .ret) .skip))) (.reg f53r5)))
def f53r7 : List AIns := [⟨some 2, .mov (.c (.bool true)), none⟩]
def f53b : ACode := (.seq (.reg f53r0) (.seq (.seq (.reg f53r1) (.block 0 (.loop f53l6))) (.seq (.reg f53r7) .ret)))
def f53 : AFn := ⟨34, f53b, [.tmp 2], .pure⟩
theorem f53_is : cFn Tryz.prog .pure 53 = some f53 := by kernel_rfl

/-- (*bocage/codec.reader).on -/
def f54r0 : List AIns := [⟨some 4, .mov (.t 0), none⟩,
  ⟨some 5, .mov (.t 0), none⟩,
  ⟨some 6, .nilCheck (.t 5), none⟩,
  ⟨some 7, .addOff 2 (.t 6), none⟩,
  ⟨some 8, .load1 (.t 7), none⟩,
  ⟨some 9, .mov (.t 8), none⟩,
  ⟨some 10, .mov (.t 1), some (9, false)⟩,
  ⟨some 11, .bin .eql (.t 10) (.c (.int .i64 0)), some (9, false)⟩,
  ⟨some 12, .pick (.t 9) (.c (.bool true)) (.t 11), none⟩,
  ⟨some 13, .nilCheck (.t 4), none⟩,
  ⟨some 14, .addOff 2 (.t 13), none⟩,
  ⟨none, .store 1 (.t 14) (.t 12), none⟩]
def f54r1 : List AIns := [⟨some 15, .mov (.t 0), none⟩,
  ⟨some 16, .nilCheck (.t 15), none⟩,
  ⟨some 17, .addOff 2 (.t 16), none⟩,
  ⟨some 18, .load1 (.t 17), none⟩,
  ⟨some 19, .un .not (.t 18), none⟩]
def f54r2 : List AIns := [⟨some 20, .mov (.t 0), none⟩,
  ⟨some 21, .nilCheck (.t 20), none⟩,
  ⟨some 22, .addOff 1 (.t 21), none⟩,
  ⟨some 23, .load1 (.t 22), none⟩,
  ⟨some 24, .mov (.t 1), none⟩,
  ⟨some 25, .bin .add (.t 23) (.t 24), none⟩,
  ⟨some 26, .nilCheck (.t 20), none⟩,
  ⟨some 27, .addOff 1 (.t 26), none⟩,
  ⟨none, .store 1 (.t 27) (.t 25), none⟩]
def f54b : ACode := (.seq (.reg f54r0) (.seq (.reg f54r1) (.cond (.t 19) (.reg f54r2) .skip)))
def f54 : AFn := ⟨28, f54b, [], .plain⟩
theorem f54_is : cFn Tryz.prog .plain 54 = some f54 := by kernel_rfl

/-- slices.Contains[[]byte,byte] -/
def f55r0 : List AIns := [⟨some 4, .mov (.c (.bool false)), none⟩]
def f55r1 : List AIns := [⟨some 5, .mov (.t 0), none⟩,
  ⟨some 6, .mov (.t 1), none⟩,
  ⟨some 7, .call (.c (.func (.func 69) #[] #[])) [(.t 5), (.t 6)], none⟩,
  ⟨some 8, .bin .geq (.t 7) (.c (.int .i64 0)), none⟩,
  ⟨some 4, .mov (.t 8), none⟩]
def f55b : ACode := (.seq (.reg f55r0) (.seq (.reg f55r1) .ret))
def f55 : AFn := ⟨9, f55b, [.tmp 4], .pure⟩
theorem f55_is : cFn Tryz.prog .pure 55 = some f55 := by kernel_rfl

/-- (*bocage/codec.reader).cut -/
def f56r0 : List AIns := [⟨some 2, .alloc 48 [(.int .i64 0), (.int .i64 0)], none⟩]
def f56r1 : List AIns := [⟨some 6, .mov (.t 0), none⟩,
  ⟨some 7, .nilCheck (.t 6), none⟩,
  ⟨some 8, .addOff 0 (.t 7), none⟩,
  ⟨some 9, .load1 (.t 8), none⟩,
  ⟨some 10, .mov (.t 0), none⟩,
  ⟨some 11, .nilCheck (.t 10), none⟩,
  ⟨some 12, .addOff 1 (.t 11), none⟩,
  ⟨some 13, .load1 (.t 12), none⟩,
  ⟨some 14, .slice 5 1 (.t 9) (some (.t 13)) none none, none⟩,
  ⟨some 15, .call (.c (.func (.func 70) #[] #[])) [(.t 14)], none⟩,
  ⟨some 5, .mov (.t 15), none⟩,
  ⟨some 16, .extract (.t 5) 0, none⟩,
  ⟨some 17, .extract (.t 5) 1, none⟩,
  ⟨some 3, .alloc 48 [(.int .i64 0), (.int .i64 0)], none⟩,
  ⟨none, .store 2 (.t 3) (.t 16), none⟩,
  ⟨some 4, .mov (.t 17), none⟩]
def f56r2 : List AIns := [⟨some 18, .mov (.t 0), none⟩,
  ⟨some 19, .mov (.t 4), none⟩,
  ⟨some 20, .call (.c (.func (.func 54) #[] #[])) [(.t 18), (.t 19)], none⟩]
def f56r3 : List AIns := [⟨some 21, .loadN 2 (.t 3), none⟩,
  ⟨none, .store 2 (.t 2) (.t 21), none⟩]
def f56b : ACode := (.seq (.reg f56r0) (.seq (.regD f56r1 [(0, []), (1, []), (2, []), (3, []), (4, []), (5, []), (6, []), (7, []), (8, []), (13, []), (9, []), (10, []), (11, []), (12, []), (14, []), (15, [])]) (.seq (.reg f56r2) (.seq (.reg f56r3) .ret))))
def f56 : AFn := ⟨22, f56b, [.cellN 2 2], .plain⟩
theorem f56_is : cFn Tryz.prog .plain 56 = some f56 := by kernel_rfl

/-- bocage/span.Touch -/
def f57r0 : List AIns := [⟨some 2, .box 50 (.t 0), none⟩,
  ⟨some 3, .box 50 (.t 1), none⟩,
  ⟨some 4, .mov (.c (.bool false)), none⟩]
def f57r1 : List AIns := [⟨some 5, .loadN 4 (.t 2), none⟩,
  ⟨some 6, .loadN 4 (.t 3), none⟩,
  ⟨some 7, .call (.c (.func (.func 71) #[] #[])) [(.t 5), (.t 6)], none⟩,
  ⟨some 8, .mov (.t 7), none⟩,
  ⟨some 9, .addOff 2 (.t 2), some (8, true)⟩,
  ⟨some 10, .loadN 2 (.t 9), some (8, true)⟩,
  ⟨some 11, .addOff 0 (.t 3), some (8, true)⟩,
  ⟨some 12, .loadN 2 (.t 11), some (8, true)⟩,
  ⟨some 13, .eqv false [.i, .i] true (.t 10) (.t 12), some (8, true)⟩,
  ⟨some 14, .mov (.t 13), some (8, true)⟩,
  ⟨some 15, .addOff 2 (.t 3), some (14, false)⟩,
  ⟨some 16, .loadN 2 (.t 15), some (14, false)⟩,
  ⟨some 17, .addOff 0 (.t 2), some (14, false)⟩,
  ⟨some 18, .loadN 2 (.t 17), some (14, false)⟩,
  ⟨some 19, .eqv false [.i, .i] true (.t 16) (.t 18), some (14, false)⟩,
  ⟨some 20, .pick (.t 14) (.c (.bool true)) (.t 19), some (8, true)⟩,
  ⟨some 21, .pick (.t 8) (.t 20) (.c (.bool false)), none⟩,
  ⟨some 4, .mov (.t 21), none⟩]
def f57b : ACode := (.seq (.reg f57r0) (.seq (.reg f57r1) .ret))
def f57 : AFn := ⟨22, f57b, [.tmp 4], .pure⟩
theorem f57_is : cFn Tryz.prog .pure 57 = some f57 := by kernel_rfl

/-- bocage/bocageref19.ReadCut -/
def f58r0 : List AIns := [⟨some 2, .alloc 48 [(.int .i64 0), (.int .i64 0)], none⟩,
  ⟨some 3, .mov (.c (.int .i64 0)), none⟩]
def f58r1 : List AIns := [⟨some 6, .mov (.t 0), none⟩,
  ⟨some 7, .bin .eql (.t 6) (.c (.string ⟨#[]⟩)), none⟩,
  ⟨some 8, .mov (.t 7), none⟩,
  ⟨some 9, .mov (.t 0), some (8, false)⟩,
  ⟨some 10, .ixStr (.t 9) (.c (.int .i64 0)), some (8, false)⟩,
  ⟨some 11, .bin .gtr (.t 10) (.c (.int .u8 2)), some (8, false)⟩,
  ⟨some 12, .pick (.t 8) (.c (.bool true)) (.t 11), none⟩]
def f58r2 : List AIns := [⟨some 13, .build [(.int .i64 0), (.int .i64 0)] [], none⟩,
  ⟨none, .store 2 (.t 2) (.t 13), none⟩,
  ⟨some 3, .mov (.c (.int .i64 0)), none⟩]
def f58r3 : List AIns := [⟨some 14, .mov (.t 0), none⟩,
  ⟨some 15, .ixStr (.t 14) (.c (.int .i64 0)), none⟩,
  ⟨some 16, .bin .eql (.t 15) (.c (.int .u8 0)), none⟩]
def f58r4 : List AIns := [⟨some 17, .build [(.int .i64 0), (.int .i64 0)] [(0, 1, (.c (.int .i64 (-1))))], none⟩,
  ⟨none, .store 2 (.t 2) (.t 17), none⟩,
  ⟨some 3, .mov (.c (.int .i64 1)), none⟩]
def f58r5 : List AIns := [⟨some 18, .mov (.t 0), none⟩,
  ⟨some 19, .ixStr (.t 18) (.c (.int .i64 0)), none⟩,
  ⟨some 20, .bin .eql (.t 19) (.c (.int .u8 2)), none⟩]
def f58r6 : List AIns := [⟨some 21, .build [(.int .i64 0), (.int .i64 0)] [(0, 1, (.c (.int .i64 1)))], none⟩,
  ⟨none, .store 2 (.t 2) (.t 21), none⟩,
  ⟨some 3, .mov (.c (.int .i64 1)), none⟩]
def f58r7 : List AIns := [⟨some 23, .mov (.t 0), none⟩,
  ⟨some 24, .sliceStr (.t 23) (some (.c (.int .i64 1))) none, none⟩,
  ⟨some 25, .call (.c (.func (.func 40) #[] #[])) [(.t 24)], none⟩,
  ⟨some 22, .mov (.t 25), none⟩,
  ⟨some 26, .extract (.t 22) 0, none⟩,
  ⟨some 27, .extract (.t 22) 1, none⟩,
  ⟨some 4, .mov (.t 26), none⟩,
  ⟨some 5, .mov (.t 27), none⟩]
def f58r8 : List AIns := [⟨some 28, .mov (.t 5), none⟩,
  ⟨some 29, .bin .eql (.t 28) (.c (.int .i64 0)), none⟩,
  ⟨some 30, .mov (.t 29), none⟩,
  ⟨some 31, .mov (.t 4), some (30, false)⟩,
  ⟨some 32, .call (.c (.func (.func 66) #[] #[])) [], some (30, false)⟩,
  ⟨some 33, .bin .eql (.t 31) (.t 32), some (30, false)⟩,
  ⟨some 34, .pick (.t 30) (.c (.bool true)) (.t 33), none⟩]
def f58r9 : List AIns := [⟨some 35, .build [(.int .i64 0), (.int .i64 0)] [], none⟩,
  ⟨none, .store 2 (.t 2) (.t 35), none⟩,
  ⟨some 3, .mov (.c (.int .i64 0)), none⟩]
def f58r10 : List AIns := [⟨some 36, .mov (.t 4), none⟩,
  ⟨some 37, .build [(.int .i64 0), (.int .i64 0)] [(1, 1, (.t 36))], none⟩,
  ⟨some 38, .mov (.t 5), none⟩,
  ⟨some 39, .bin .add (.c (.int .i64 1)) (.t 38), none⟩,
  ⟨none, .store 2 (.t 2) (.t 37), none⟩,
  ⟨some 3, .mov (.t 39), none⟩]
def f58b : ACode := (.seq (.reg f58r0) (.seq (.seq (.reg f58r1) (.cond (.t 12) (.seq (.reg f58r2) .ret) .skip)) (.seq (.seq (.reg f58r3) (.cond (.t 16) (.seq (.reg f58r4) .ret) .skip)) (.seq (.seq (.reg f58r5) (.cond (.t 20) (.seq (.reg f58r6) .ret) .skip)) (.seq (.reg f58r7) (.seq (.seq (.reg f58r8) (.cond (.t 34) (.seq (.reg f58r9) .ret) .skip)) (.seq (.reg f58r10) .ret)))))))
def f58 : AFn := ⟨40, f58b, [.cellN 2 2, .tmp 3], .pure⟩
theorem f58_is : cFn Tryz.prog .pure 58 = some f58 := by kernel_rfl

/-- bocage/ordmap.New -/
def f59r0 : List AIns := [⟨some 4, .mov (.c (.pointer none)), none⟩,
  ⟨some 5, .mov (.c (.int .i64 0)), none⟩]
def f59r1 : List AIns := [⟨some 9, .mov (.t 0), none⟩,
  ⟨some 10, .mov (.t 1), none⟩,
  ⟨some 11, .call (.c (.func (.func 72) #[] #[])) [(.t 9), (.t 10)], none⟩,
  ⟨some 8, .mov (.t 11), none⟩,
  ⟨some 12, .extract (.t 8) 0, none⟩,
  ⟨some 13, .extract (.t 8) 1, none⟩,
  ⟨some 6, .mov (.t 12), none⟩,
  ⟨some 7, .mov (.t 13), none⟩]
def f59r2 : List AIns := [⟨some 14, .mov (.t 7), none⟩,
  ⟨some 15, .bin .neq (.t 14) (.c (.int .i64 0)), none⟩]
def f59r3 : List AIns := [⟨some 16, .mov (.t 7), none⟩,
  ⟨some 4, .mov (.c (.pointer none)), none⟩,
  ⟨some 5, .mov (.t 16), none⟩]
def f59r4 : List AIns := [⟨some 17, .mov (.t 6), none⟩,
  ⟨some 18, .build [.nilIface] [(0, 1, (.t 17))], none⟩,
  ⟨some 19, .box 117 (.t 18), none⟩,
  ⟨some 4, .mov (.t 19), none⟩,
  ⟨some 5, .mov (.c (.int .i64 0)), none⟩]
def f59b : ACode := (.seq (.reg f59r0) (.seq (.reg f59r1) (.seq (.seq (.reg f59r2) (.cond (.t 15) (.seq (.reg f59r3) .ret) .skip)) (.seq (.reg f59r4) .ret))))
def f59 : AFn := ⟨20, f59b, [.tmp 4, .tmp 5], .plain⟩
theorem f59_is : cFn Tryz.prog .plain 59 = some f59 := by kernel_rfl

/-- (bocage/imap.Rule).right -/
def f60r0 : List AIns := [⟨some 1, .box 30 (.t 0), none⟩,
  ⟨some 2, .mov (.c (.bool false)), none⟩]
def f60r1 : List AIns := [⟨some 3, .addOff 0 (.t 1), none⟩,
  ⟨some 4, .load1 (.t 3), none⟩,
  ⟨some 5, .bin .eql (.t 4) (.c (.int .i64 0)), none⟩,
  ⟨some 6, .mov (.t 5), none⟩,
  ⟨some 7, .addOff 0 (.t 1), some (6, false)⟩,
  ⟨some 8, .load1 (.t 7), some (6, false)⟩,
  ⟨some 9, .bin .eql (.t 8) (.c (.int .i64 2)), some (6, false)⟩,
  ⟨some 10, .pick (.t 6) (.c (.bool true)) (.t 9), none⟩,
  ⟨some 11, .mov (.t 10), none⟩,
  ⟨some 12, .addOff 1 (.t 1), some (11, true)⟩,
  ⟨some 13, .load1 (.t 12), some (11, true)⟩,
  ⟨some 14, .mov (.t 13), some (11, true)⟩,
  ⟨some 15, .addOff 2 (.t 1), some (14, false)⟩,
  ⟨some 16, .load1 (.t 15), some (14, false)⟩,
  ⟨some 17, .bin .eql (.t 16) (.c (.int .i64 0)), some (14, false)⟩,
  ⟨some 18, .pick (.t 14) (.c (.bool true)) (.t 17), some (11, true)⟩,
  ⟨some 19, .pick (.t 11) (.t 18) (.c (.bool false)), none⟩,
  ⟨some 2, .mov (.t 19), none⟩]
def f60b : ACode := (.seq (.reg f60r0) (.seq (.reg f60r1) .ret))
def f60 : AFn := ⟨20, f60b, [.tmp 2], .pure⟩
theorem f60_is : cFn Tryz.prog .pure 60 = some f60 := by kernel_rfl

/-- bocage/span.Right -/
def f61r0 : List AIns := [⟨some 1, .box 50 (.t 0), none⟩,
  ⟨some 2, .mov (.c (.bool false)), none⟩]
def f61r1 : List AIns := [⟨some 3, .addOff 0 (.t 1), none⟩,
  ⟨some 4, .loadN 2 (.t 3), none⟩,
  ⟨some 5, .call (.c (.func (.func 73) #[] #[])) [(.t 4)], none⟩,
  ⟨some 6, .mov (.t 5), none⟩,
  ⟨some 7, .addOff 2 (.t 1), some (6, true)⟩,
  ⟨some 8, .loadN 2 (.t 7), some (6, true)⟩,
  ⟨some 9, .call (.c (.func (.func 73) #[] #[])) [(.t 8)], some (6, true)⟩,
  ⟨some 10, .pick (.t 6) (.t 9) (.c (.bool false)), none⟩,
  ⟨some 11, .mov (.t 10), none⟩,
  ⟨some 12, .addOff 0 (.t 1), some (11, true)⟩,
  ⟨some 13, .loadN 2 (.t 12), some (11, true)⟩,
  ⟨some 14, .addOff 2 (.t 1), some (11, true)⟩,
  ⟨some 15, .loadN 2 (.t 14), some (11, true)⟩,
  ⟨some 16, .call (.c (.func (.func 62) #[] #[])) [(.t 13), (.t 15)], some (11, true)⟩,
  ⟨some 17, .bin .lss (.t 16) (.c (.int .i64 0)), some (11, true)⟩,
  ⟨some 18, .pick (.t 11) (.t 17) (.c (.bool false)), none⟩,
  ⟨some 2, .mov (.t 18), none⟩]
def f61b : ACode := (.seq (.reg f61r0) (.seq (.reg f61r1) .ret))
def f61 : AFn := ⟨19, f61b, [.tmp 2], .pure⟩
theorem f61_is : cFn Tryz.prog .pure 61 = some f61 := by kernel_rfl

/-- bocage/cut.Compare -/
def f62r0 : List AIns := [⟨some 2, .box 48 (.t 0), none⟩,
  ⟨some 3, .box 48 (.t 1), none⟩,
  ⟨some 4, .mov (.c (.int .i64 0)), none⟩]
def f62r1 : List AIns := [⟨some 5, .loadN 2 (.t 2), none⟩,
  ⟨some 6, .call (.c (.func (.func 49) #[] #[])) [(.t 5)], none⟩,
  ⟨some 7, .loadN 2 (.t 3), none⟩,
  ⟨some 8, .call (.c (.func (.func 49) #[] #[])) [(.t 7)], none⟩,
  ⟨none, .store 2 (.t 2) (.t 6), none⟩,
  ⟨none, .store 2 (.t 3) (.t 8), none⟩]
def f62r2 : List AIns := [⟨some 9, .addOff 0 (.t 2), none⟩,
  ⟨some 10, .load1 (.t 9), none⟩,
  ⟨some 11, .addOff 0 (.t 3), none⟩,
  ⟨some 12, .load1 (.t 11), none⟩,
  ⟨some 13, .call (.c (.func (.func 75) #[] #[])) [(.t 10), (.t 12)], none⟩,
  ⟨some 14, .addOff 1 (.t 2), none⟩,
  ⟨some 15, .load1 (.t 14), none⟩,
  ⟨some 16, .addOff 1 (.t 3), none⟩,
  ⟨some 17, .load1 (.t 16), none⟩,
  ⟨some 18, .call (.c (.func (.func 76) #[] #[])) [(.t 15), (.t 17)], none⟩,
  ⟨some 19, .buildSlice 3 2 [(.int .i64 0), (.int .i64 0)] [(0, 1, (.t 13)), (1, 1, (.t 18))], none⟩,
  ⟨some 20, .call (.c (.func (.func 74) #[] #[])) [(.t 19)], none⟩,
  ⟨some 4, .mov (.t 20), none⟩]
def f62b : ACode := (.seq (.reg f62r0) (.seq (.regD f62r1 [(0, []), (2, []), (1, [2]), (3, []), (4, []), (5, [])]) (.seq (.regD f62r2 [(0, []), (1, []), (2, []), (3, []), (5, []), (6, []), (7, []), (8, []), (4, [8, 6]), (9, []), (10, []), (11, []), (12, [])]) .ret)))
def f62 : AFn := ⟨21, f62b, [.tmp 4], .pure⟩
theorem f62_is : cFn Tryz.prog .pure 62 = some f62 := by kernel_rfl

/-- bocage/imap.Tidy$1 -/
def f63r0 : List AIns := [⟨some 3, .box 58 (.t 0), none⟩]
def f63r1 : List AIns := [⟨some 5, .load1 (.t 1), none⟩,
  ⟨some 6, .len (.t 5), none⟩,
  ⟨some 7, .bin .sub (.t 6) (.c (.int .i64 1)), none⟩,
  ⟨some 4, .mov (.t 7), none⟩]
def f63r2 : List AIns := [⟨some 8, .mov (.t 4), none⟩,
  ⟨some 9, .bin .geq (.t 8) (.c (.int .i64 0)), none⟩,
  ⟨some 10, .mov (.t 9), none⟩,
  ⟨some 11, .addOff 0 (.t 2), some (10, true)⟩,
  ⟨some 12, .load1 (.t 11), some (10, true)⟩,
  ⟨some 13, .bin .eql (.t 12) (.c (.int .i64 0)), some (10, true)⟩,
  ⟨some 14, .pick (.t 10) (.t 13) (.c (.bool false)), none⟩,
  ⟨some 15, .mov (.t 14), none⟩,
  ⟨some 16, .load1 (.t 1), some (15, true)⟩,
  ⟨some 17, .mov (.t 4), some (15, true)⟩,
  ⟨some 18, .idxA 5 (.t 16) (.t 17), some (15, true)⟩,
  ⟨some 19, .addOff 4 (.t 18), some (15, true)⟩,
  ⟨some 20, .load1 (.t 19), some (15, true)⟩,
  ⟨some 21, .addOff 4 (.t 3), some (15, true)⟩,
  ⟨some 22, .load1 (.t 21), some (15, true)⟩,
  ⟨some 23, .bin .eql (.t 20) (.t 22), some (15, true)⟩,
  ⟨some 24, .pick (.t 15) (.t 23) (.c (.bool false)), none⟩,
  ⟨some 25, .mov (.t 24), none⟩,
  ⟨some 26, .load1 (.t 1), some (25, true)⟩,
  ⟨some 27, .mov (.t 4), some (25, true)⟩,
  ⟨some 28, .idxA 5 (.t 26) (.t 27), some (25, true)⟩,
  ⟨some 29, .addOff 0 (.t 28), some (25, true)⟩,
  ⟨some 30, .loadN 4 (.t 29), some (25, true)⟩,
  ⟨some 31, .addOff 0 (.t 3), some (25, true)⟩,
  ⟨some 32, .loadN 4 (.t 31), some (25, true)⟩,
  ⟨some 33, .call (.c (.func (.func 57) #[] #[])) [(.t 30), (.t 32)], some (25, true)⟩,
  ⟨some 34, .pick (.t 25) (.t 33) (.c (.bool false)), none⟩]
def f63r3 : List AIns := [⟨some 35, .load1 (.t 1), none⟩,
  ⟨some 36, .mov (.t 4), none⟩,
  ⟨some 37, .addOff 0 (.t 3), none⟩,
  ⟨some 38, .addOff 2 (.t 37), none⟩,
  ⟨some 39, .loadN 2 (.t 38), none⟩,
  ⟨some 40, .idxA 5 (.t 35) (.t 36), none⟩,
  ⟨some 41, .addOff 0 (.t 40), none⟩,
  ⟨some 42, .addOff 2 (.t 41), none⟩,
  ⟨none, .store 2 (.t 42) (.t 39), none⟩]
def f63r4 : List AIns := [⟨some 43, .load1 (.t 1), none⟩,
  ⟨some 44, .loadN 5 (.t 3), none⟩,
  ⟨some 45, .buildSlice 58 1 [(.int .i64 0), (.int .i64 0), (.int .i64 0), (.int .i64 0), (.int .i64 0)] [(0, 5, (.t 44))], none⟩,
  ⟨some 46, .append 58 5 40 (.t 43) (.t 45), none⟩,
  ⟨none, .store 1 (.t 1) (.t 46), none⟩]
def f63b : ACode := (.seq (.reg f63r0) (.seq (.reg f63r1) (.seq (.seq (.regD f63r2 [(0, []), (1, []), (2, []), (3, []), (4, []), (5, []), (6, []), (7, []), (8, []), (9, []), (10, []), (11, []), (12, []), (13, []), (14, []), (15, []), (16, []), (17, []), (18, []), (19, []), (20, []), (21, []), (22, []), (23, []), (24, []), (25, []), (26, [])]) (.cond (.t 34) (.seq (.reg f63r3) .ret) .skip)) (.reg f63r4))))
def f63 : AFn := ⟨47, f63b, [], .plain⟩
theorem f63_is : cFn Tryz.prog .plain 63 = some f63 := by kernel_rfl

/-- bocage/cut.First -/
def f64r0 : List AIns := [⟨some 0, .alloc 48 [(.int .i64 0), (.int .i64 0)], none⟩]
def f64r1 : List AIns := [⟨some 1, .build [(.int .i64 0), (.int .i64 0)] [(0, 1, (.c (.int .i64 (-1))))], none⟩,
  ⟨none, .store 2 (.t 0) (.t 1), none⟩]
def f64b : ACode := (.seq (.reg f64r0) (.seq (.reg f64r1) .ret))
def f64 : AFn := ⟨2, f64b, [.cellN 0 2], .pure⟩
theorem f64_is : cFn Tryz.prog .pure 64 = some f64 := by kernel_rfl

/-- bocage/cut.Last -/
def f65r0 : List AIns := [⟨some 0, .alloc 48 [(.int .i64 0), (.int .i64 0)], none⟩]
def f65r1 : List AIns := [⟨some 1, .build [(.int .i64 0), (.int .i64 0)] [(0, 1, (.c (.int .i64 1)))], none⟩,
  ⟨none, .store 2 (.t 0) (.t 1), none⟩]
def f65b : ACode := (.seq (.reg f65r0) (.seq (.reg f65r1) .ret))
def f65 : AFn := ⟨2, f65b, [.cellN 0 2], .pure⟩
theorem f65_is : cFn Tryz.prog .pure 65 = some f65 := by kernel_rfl

/-- bocage/bocageref02.Least64 -/
def f66r0 : List AIns := [⟨some 0, .mov (.c (.int .i64 0)), none⟩]
def f66r1 : List AIns := [⟨some 0, .mov (.c (.int .i64 (-9223372036854775808))), none⟩]
def f66b : ACode := (.seq (.reg f66r0) (.seq (.reg f66r1) .ret))
def f66 : AFn := ⟨1, f66b, [.tmp 0], .pure⟩
theorem f66_is : cFn Tryz.prog .pure 66 = some f66 := by kernel_rfl

/-- bocage/bocageref03.Right -/
def f67r0 : List AIns := [⟨some 1, .box 50 (.t 0), none⟩,
  ⟨some 2, .mov (.c (.bool false)), none⟩]
def f67r1 : List AIns := [⟨some 3, .addOff 0 (.t 1), none⟩,
  ⟨some 4, .loadN 2 (.t 3), none⟩,
  ⟨some 5, .call (.c (.func (.func 50) #[] #[])) [(.t 4)], none⟩,
  ⟨some 6, .addOff 0 (.t 1), none⟩,
  ⟨some 7, .loadN 2 (.t 6), none⟩,
  ⟨some 8, .eqv false [.i, .i] true (.t 5) (.t 7), none⟩,
  ⟨some 9, .mov (.t 8), none⟩,
  ⟨some 10, .addOff 2 (.t 1), some (9, true)⟩,
  ⟨some 11, .loadN 2 (.t 10), some (9, true)⟩,
  ⟨some 12, .call (.c (.func (.func 50) #[] #[])) [(.t 11)], some (9, true)⟩,
  ⟨some 13, .addOff 2 (.t 1), some (9, true)⟩,
  ⟨some 14, .loadN 2 (.t 13), some (9, true)⟩,
  ⟨some 15, .eqv false [.i, .i] true (.t 12) (.t 14), some (9, true)⟩,
  ⟨some 16, .pick (.t 9) (.t 15) (.c (.bool false)), none⟩,
  ⟨some 17, .mov (.t 16), none⟩,
  ⟨some 18, .addOff 0 (.t 1), some (17, true)⟩,
  ⟨some 19, .loadN 2 (.t 18), some (17, true)⟩,
  ⟨some 20, .addOff 2 (.t 1), some (17, true)⟩,
  ⟨some 21, .loadN 2 (.t 20), some (17, true)⟩,
  ⟨some 22, .call (.c (.func (.func 68) #[] #[])) [(.t 19), (.t 21)], some (17, true)⟩,
  ⟨some 23, .pick (.t 17) (.t 22) (.c (.bool false)), none⟩,
  ⟨some 2, .mov (.t 23), none⟩]
def f67b : ACode := (.seq (.reg f67r0) (.seq (.regD f67r1 [(0, []), (1, []), (3, []), (4, []), (2, [4]), (5, []), (6, []), (7, []), (8, []), (10, []), (11, []), (9, [11]), (12, []), (13, []), (14, []), (15, []), (16, []), (17, []), (18, []), (19, []), (20, []), (21, [])]) .ret))
def f67 : AFn := ⟨24, f67b, [.tmp 2], .pure⟩
theorem f67_is : cFn Tryz.prog .pure 67 = some f67 := by kernel_rfl

/-- bocage/bocageref02.Less -/
def f68r0 : List AIns := [⟨some 2, .box 48 (.t 0), none⟩,
  ⟨some 3, .box 48 (.t 1), none⟩,
  ⟨some 4, .mov (.c (.bool false)), none⟩]
def f68r1 : List AIns := [⟨some 5, .loadN 2 (.t 2), none⟩,
  ⟨some 6, .call (.c (.func (.func 50) #[] #[])) [(.t 5)], none⟩,
  ⟨none, .store 2 (.t 2) (.t 6), none⟩]
def f68r2 : List AIns := [⟨some 7, .loadN 2 (.t 3), none⟩,
  ⟨some 8, .call (.c (.func (.func 50) #[] #[])) [(.t 7)], none⟩,
  ⟨none, .store 2 (.t 3) (.t 8), none⟩]
def f68r3 : List AIns := [⟨some 9, .addOff 0 (.t 2), none⟩,
  ⟨some 10, .load1 (.t 9), none⟩,
  ⟨some 11, .addOff 0 (.t 3), none⟩,
  ⟨some 12, .load1 (.t 11), none⟩,
  ⟨some 13, .bin .neq (.t 10) (.t 12), none⟩]
def f68r4 : List AIns := [⟨some 14, .addOff 0 (.t 2), none⟩,
  ⟨some 15, .load1 (.t 14), none⟩,
  ⟨some 16, .addOff 0 (.t 3), none⟩,
  ⟨some 17, .load1 (.t 16), none⟩,
  ⟨some 18, .bin .lss (.t 15) (.t 17), none⟩,
  ⟨some 4, .mov (.t 18), none⟩]
def f68r5 : List AIns := [⟨some 19, .addOff 1 (.t 2), none⟩,
  ⟨some 20, .load1 (.t 19), none⟩,
  ⟨some 21, .addOff 1 (.t 3), none⟩,
  ⟨some 22, .load1 (.t 21), none⟩,
  ⟨some 23, .bin .lss (.t 20) (.t 22), none⟩,
  ⟨some 4, .mov (.t 23), none⟩]
def f68b : ACode := (.seq (.reg f68r0) (.seq (.reg f68r1) (.seq (.reg f68r2) (.seq (.seq (.reg f68r3) (.cond (.t 13) (.seq (.reg f68r4) .ret) .skip)) (.seq (.reg f68r5) .ret)))))
def f68 : AFn := ⟨24, f68b, [.tmp 4], .pure⟩
theorem f68_is : cFn Tryz.prog .pure 68 = some f68 := by kernel_rfl

/-- slices.Index[[]byte,byte] -/
def f69r0 : List AIns := [⟨some 4, .mov (.c (.int .i64 0)), none⟩]
def f69r1 : List AIns := [⟨some 6, .mov (.t 0), none⟩,
  ⟨some 7, .len (.t 6), none⟩,
  ⟨some 8, .mov (.c (.int .i64 0)), none⟩]
def f69r2 : List AIns := [⟨some 9, .bin .lss (.t 8) (.t 7), none⟩]
def f69r3 : List AIns := [⟨some 10, .mov (.t 8), none⟩,
  ⟨some 5, .mov (.t 10), none⟩]
def f69r4 : List AIns := [⟨some 11, .mov (.t 1), none⟩,
  ⟨some 12, .mov (.t 0), none⟩,
  ⟨some 13, .mov (.t 5), none⟩,
  ⟨some 14, .idxA 1 (.t 12) (.t 13), none⟩,
  ⟨some 15, .load1 (.t 14), none⟩,
  ⟨some 16, .bin .eql (.t 11) (.t 15), none⟩]
def f69r5 : List AIns := [⟨some 17, .mov (.t 5), none⟩,
  ⟨some 4, .mov (.t 17), none⟩]
def f69r6 : List AIns := [⟨some 18, .bin .add (.t 8) (.c (.int .i64 1)), none⟩,
  ⟨some 8, .mov (.t 18), none⟩]
def f69l7 : ACode := (.seq (.reg f69r2) (.seq (.cond (.t 9) .skip (.exit 0)) (.seq (.block 1 (.seq (.reg f69r3) (.seq (.reg f69r4) (.cond (.t 16) (.seq (.reg f69r5) .ret) .skip)))) (.reg f69r6))))
def f69r8 : List AIns := [⟨some 4, .mov (.c (.int .i64 (-1))), none⟩]
def f69b : ACode := (.seq (.reg f69r0) (.seq (.seq (.reg f69r1) (.block 0 (.loop f69l7))) (.seq (.reg f69r8) .ret)))
def f69 : AFn := ⟨19, f69b, [.tmp 4], .pure⟩
theorem f69_is : cFn Tryz.prog .pure 69 = some f69 := by kernel_rfl

/-- bocage/codec.ReadCut -/
def f70r0 : List AIns := [⟨some 2, .alloc 48 [(.int .i64 0), (.int .i64 0)], none⟩,
  ⟨some 3, .mov (.c (.int .i64 0)), none⟩]
def f70r1 : List AIns := [⟨some 8, .mov (.t 0), none⟩,
  ⟨some 9, .len (.t 8), none⟩,
  ⟨some 10, .bin .eql (.t 9) (.c (.int .i64 0)), none⟩,
  ⟨some 7, .mov (.t 10), none⟩]
def f70r2 : List AIns := [⟨some 11, .build [(.int .i64 0), (.int .i64 0)] [], none⟩,
  ⟨none, .store 2 (.t 2) (.t 11), none⟩,
  ⟨some 3, .mov (.c (.int .i64 0)), none⟩]
def f70r3 : List AIns := [⟨some 13, .mov (.t 0), none⟩,
  ⟨some 14, .idxA 1 (.t 13) (.c (.int .i64 0)), none⟩,
  ⟨some 15, .load1 (.t 14), none⟩,
  ⟨some 16, .bin .eql (.t 15) (.c (.int .u8 0)), none⟩,
  ⟨some 12, .mov (.t 16), none⟩]
def f70r4 : List AIns := [⟨some 17, .call (.c (.func (.func 64) #[] #[])) [], none⟩,
  ⟨none, .store 2 (.t 2) (.t 17), none⟩,
  ⟨some 3, .mov (.c (.int .i64 1)), none⟩]
def f70r5 : List AIns := [⟨some 19, .mov (.t 0), none⟩,
  ⟨some 20, .idxA 1 (.t 19) (.c (.int .i64 0)), none⟩,
  ⟨some 21, .load1 (.t 20), none⟩,
  ⟨some 22, .bin .eql (.t 21) (.c (.int .u8 2)), none⟩,
  ⟨some 18, .mov (.t 22), none⟩]
def f70r6 : List AIns := [⟨some 23, .call (.c (.func (.func 65) #[] #[])) [], none⟩,
  ⟨none, .store 2 (.t 2) (.t 23), none⟩,
  ⟨some 3, .mov (.c (.int .i64 1)), none⟩]
def f70r7 : List AIns := [⟨some 25, .mov (.t 0), none⟩,
  ⟨some 26, .slice 5 1 (.t 25) (some (.c (.int .i64 1))) none none, none⟩,
  ⟨some 27, .call (.c (.func (.func 17) #[] #[])) [(.t 26)], none⟩,
  ⟨some 24, .mov (.t 27), none⟩,
  ⟨some 28, .extract (.t 24) 0, none⟩,
  ⟨some 29, .extract (.t 24) 1, none⟩,
  ⟨some 4, .mov (.t 28), none⟩,
  ⟨some 5, .mov (.t 29), none⟩]
def f70r8 : List AIns := [⟨some 30, .mov (.t 4), none⟩,
  ⟨some 31, .build [(.int .i64 0), (.int .i64 0)] [(1, 1, (.t 30))], none⟩,
  ⟨some 6, .alloc 48 [(.int .i64 0), (.int .i64 0)], none⟩,
  ⟨none, .store 2 (.t 6) (.t 31), none⟩]
def f70r9 : List AIns := [⟨some 32, .mov (.t 0), none⟩,
  ⟨some 33, .idxA 1 (.t 32) (.c (.int .i64 0)), none⟩,
  ⟨some 34, .load1 (.t 33), none⟩,
  ⟨some 35, .bin .neq (.t 34) (.c (.int .u8 1)), none⟩,
  ⟨some 36, .mov (.t 35), none⟩,
  ⟨some 37, .mov (.t 5), some (36, false)⟩,
  ⟨some 38, .bin .eql (.t 37) (.c (.int .i64 0)), some (36, false)⟩,
  ⟨some 39, .pick (.t 36) (.c (.bool true)) (.t 38), none⟩,
  ⟨some 40, .mov (.t 39), none⟩,
  ⟨some 41, .loadN 2 (.t 6), some (40, false)⟩,
  ⟨some 42, .call (.c (.func (.func 73) #[] #[])) [(.t 41)], some (40, false)⟩,
  ⟨some 43, .un .not (.t 42), some (40, false)⟩,
  ⟨some 44, .pick (.t 40) (.c (.bool true)) (.t 43), none⟩]
def f70r10 : List AIns := [⟨some 45, .build [(.int .i64 0), (.int .i64 0)] [], none⟩,
  ⟨none, .store 2 (.t 2) (.t 45), none⟩,
  ⟨some 3, .mov (.c (.int .i64 0)), none⟩]
def f70r11 : List AIns := [⟨some 46, .loadN 2 (.t 6), none⟩,
  ⟨some 47, .mov (.t 5), none⟩,
  ⟨some 48, .bin .add (.c (.int .i64 1)) (.t 47), none⟩,
  ⟨none, .store 2 (.t 2) (.t 46), none⟩,
  ⟨some 3, .mov (.t 48), none⟩]
def f70b : ACode := (.seq (.reg f70r0) (.seq (.block 0 (.seq (.reg f70r1) (.cond (.t 7) (.seq (.reg f70r2) .ret) (.seq (.reg f70r3) (.cond (.t 12) (.seq (.reg f70r4) .ret) (.seq (.reg f70r5) (.cond (.t 18) (.seq (.reg f70r6) .ret) .skip))))))) (.seq (.reg f70r7) (.seq (.reg f70r8) (.seq (.seq (.reg f70r9) (.cond (.t 44) (.seq (.reg f70r10) .ret) .skip)) (.seq (.reg f70r11) .ret))))))
def f70 : AFn := ⟨49, f70b, [.cellN 2 2, .tmp 3], .pure⟩
theorem f70_is : cFn Tryz.prog .pure 70 = some f70 := by kernel_rfl

/-- bocage/span.both -/
def f71r0 : List AIns := [⟨some 2, .box 50 (.t 0), none⟩,
  ⟨some 3, .box 50 (.t 1), none⟩,
  ⟨some 4, .mov (.c (.bool false)), none⟩]
def f71r1 : List AIns := [⟨some 5, .loadN 4 (.t 2), none⟩,
  ⟨some 6, .call (.c (.func (.func 61) #[] #[])) [(.t 5)], none⟩,
  ⟨some 7, .mov (.t 6), none⟩,
  ⟨some 8, .loadN 4 (.t 3), some (7, true)⟩,
  ⟨some 9, .call (.c (.func (.func 61) #[] #[])) [(.t 8)], some (7, true)⟩,
  ⟨some 10, .pick (.t 7) (.t 9) (.c (.bool false)), none⟩,
  ⟨some 4, .mov (.t 10), none⟩]
def f71b : ACode := (.seq (.reg f71r0) (.seq (.reg f71r1) .ret))
def f71 : AFn := ⟨11, f71b, [.tmp 4], .pure⟩
theorem f71_is : cFn Tryz.prog .pure 71 = some f71 := by kernel_rfl

/-- bocage/ordmap.made -/
def f72r0 : List AIns := [⟨some 4, .mov (.c .nilIface), none⟩,
  ⟨some 5, .mov (.c (.int .i64 0)), none⟩]
def f72r1 : List AIns := [⟨some 10, .mov (.t 0), none⟩,
  ⟨some 11, .bin .eql (.t 10) (.c (.int .i64 0)), none⟩]
def f72r2 : List AIns := [⟨some 13, .mov (.t 1), none⟩,
  ⟨some 14, .call (.c (.func (.func 77) #[] #[])) [(.t 13)], none⟩,
  ⟨some 12, .mov (.t 14), none⟩,
  ⟨some 15, .extract (.t 12) 0, none⟩,
  ⟨some 16, .extract (.t 12) 1, none⟩,
  ⟨some 6, .mov (.t 15), none⟩,
  ⟨some 7, .mov (.t 16), none⟩]
def f72r3 : List AIns := [⟨some 17, .mov (.t 6), none⟩,
  ⟨some 18, .mkIface 122 (.t 17), none⟩,
  ⟨some 19, .mov (.t 7), none⟩,
  ⟨some 4, .mov (.t 18), none⟩,
  ⟨some 5, .mov (.t 19), none⟩]
def f72r4 : List AIns := [⟨some 21, .mov (.t 0), none⟩,
  ⟨some 22, .mov (.t 1), none⟩,
  ⟨some 23, .call (.c (.func (.func 78) #[] #[])) [(.t 21), (.t 22)], none⟩,
  ⟨some 20, .mov (.t 23), none⟩,
  ⟨some 24, .extract (.t 20) 0, none⟩,
  ⟨some 25, .extract (.t 20) 1, none⟩,
  ⟨some 8, .mov (.t 24), none⟩,
  ⟨some 9, .mov (.t 25), none⟩]
def f72r5 : List AIns := [⟨some 26, .mov (.t 8), none⟩,
  ⟨some 27, .mkIface 125 (.t 26), none⟩,
  ⟨some 28, .mov (.t 9), none⟩,
  ⟨some 4, .mov (.t 27), none⟩,
  ⟨some 5, .mov (.t 28), none⟩]
def f72b : ACode := (.seq (.reg f72r0) (.seq (.seq (.reg f72r1) (.cond (.t 11) (.seq (.reg f72r2) (.seq (.reg f72r3) .ret)) .skip)) (.seq (.reg f72r4) (.seq (.reg f72r5) .ret))))
def f72 : AFn := ⟨29, f72b, [.tmp 4, .tmp 5], .plain⟩
theorem f72_is : cFn Tryz.prog .plain 72 = some f72 := by kernel_rfl

/-- bocage/cut.Right -/
def f73r0 : List AIns := [⟨some 1, .box 48 (.t 0), none⟩,
  ⟨some 2, .mov (.c (.bool false)), none⟩]
def f73r1 : List AIns := [⟨some 3, .loadN 2 (.t 1), none⟩,
  ⟨some 4, .call (.c (.func (.func 49) #[] #[])) [(.t 3)], none⟩,
  ⟨some 5, .loadN 2 (.t 1), none⟩,
  ⟨some 6, .eqv false [.i, .i] true (.t 4) (.t 5), none⟩,
  ⟨some 2, .mov (.t 6), none⟩]
def f73b : ACode := (.seq (.reg f73r0) (.seq (.regD f73r1 [(0, []), (2, []), (1, [2]), (3, []), (4, [])]) .ret))
def f73 : AFn := ⟨7, f73b, [.tmp 2], .pure⟩
theorem f73_is : cFn Tryz.prog .pure 73 = some f73 := by kernel_rfl

/-- cmp.Or[int] -/
def f74r0 : List AIns := [⟨some 2, .mov (.c (.int .i64 0)), none⟩]
def f74r1 : List AIns := [⟨some 3, .mov (.c (.int .i64 0)), none⟩]
def f74r2 : List AIns := [⟨some 6, .mov (.t 0), none⟩,
  ⟨some 7, .len (.t 6), none⟩,
  ⟨some 8, .mov (.c (.int .i64 0)), none⟩]
def f74r3 : List AIns := [⟨some 9, .bin .lss (.t 8) (.t 7), none⟩]
def f74r4 : List AIns := [⟨some 10, .idxA 1 (.t 6) (.t 8), none⟩,
  ⟨some 11, .load1 (.t 10), none⟩,
  ⟨some 5, .mov (.t 11), none⟩]
def f74r5 : List AIns := [⟨some 12, .mov (.t 5), none⟩,
  ⟨some 13, .mov (.t 3), none⟩,
  ⟨some 14, .bin .neq (.t 12) (.t 13), none⟩]
def f74r6 : List AIns := [⟨some 15, .mov (.t 5), none⟩,
  ⟨some 2, .mov (.t 15), none⟩]
def f74r7 : List AIns := [⟨some 16, .bin .add (.t 8) (.c (.int .i64 1)), none⟩,
  ⟨some 8, .mov (.t 16), none⟩]
def f74l8 : ACode := (.seq (.reg f74r3) (.seq (.cond (.t 9) .skip (.exit 0)) (.seq (.block 1 (.seq (.reg f74r4) (.seq (.reg f74r5) (.cond (.t 14) (.seq (.reg f74r6) .ret) .skip)))) (.reg f74r7))))
def f74r9 : List AIns := [⟨some 17, .mov (.t 3), none⟩,
  ⟨some 2, .mov (.t 17), none⟩]
def f74b : ACode := (.seq (.reg f74r0) (.seq (.reg f74r1) (.seq (.seq (.reg f74r2) (.block 0 (.loop f74l8))) (.seq (.reg f74r9) .ret))))
def f74 : AFn := ⟨18, f74b, [.tmp 2], .pure⟩
theorem f74_is : cFn Tryz.prog .pure 74 = some f74 := by kernel_rfl

/-- cmp.Compare[int] -/
def f75r0 : List AIns := [⟨some 4, .mov (.c (.int .i64 0)), none⟩]
def f75r1 : List AIns := [⟨some 7, .mov (.t 0), none⟩,
  ⟨some 8, .call (.c (.func (.func 79) #[] #[])) [(.t 7)], none⟩,
  ⟨some 5, .mov (.t 8), none⟩]
def f75r2 : List AIns := [⟨some 9, .mov (.t 1), none⟩,
  ⟨some 10, .call (.c (.func (.func 79) #[] #[])) [(.t 9)], none⟩,
  ⟨some 6, .mov (.t 10), none⟩]
def f75r3 : List AIns := [⟨some 11, .mov (.t 5), none⟩]
def f75r4 : List AIns := [⟨some 12, .mov (.t 6), none⟩]
def f75r5 : List AIns := [⟨some 4, .mov (.c (.int .i64 0)), none⟩]
def f75r6 : List AIns := [⟨some 4, .mov (.c (.int .i64 (-1))), none⟩]
def f75r7 : List AIns := [⟨some 13, .mov (.t 6), none⟩]
def f75r8 : List AIns := [⟨some 4, .mov (.c (.int .i64 1)), none⟩]
def f75r9 : List AIns := [⟨some 14, .mov (.t 0), none⟩,
  ⟨some 15, .mov (.t 1), none⟩,
  ⟨some 16, .bin .lss (.t 14) (.t 15), none⟩]
def f75r10 : List AIns := [⟨some 4, .mov (.c (.int .i64 (-1))), none⟩]
def f75r11 : List AIns := [⟨some 17, .mov (.t 0), none⟩,
  ⟨some 18, .mov (.t 1), none⟩,
  ⟨some 19, .bin .gtr (.t 17) (.t 18), none⟩]
def f75r12 : List AIns := [⟨some 4, .mov (.c (.int .i64 1)), none⟩]
def f75r13 : List AIns := [⟨some 4, .mov (.c (.int .i64 0)), none⟩]
def f75b : ACode := (.seq (.reg f75r0) (.seq (.reg f75r1) (.seq (.reg f75r2) (.seq (.seq (.reg f75r3) (.cond (.t 11) (.seq (.seq (.reg f75r4) (.cond (.t 12) (.seq (.reg f75r5) .ret) .skip)) (.seq (.reg f75r6) .ret)) .skip)) (.seq (.seq (.reg f75r7) (.cond (.t 13) (.seq (.reg f75r8) .ret) .skip)) (.seq (.seq (.reg f75r9) (.cond (.t 16) (.seq (.reg f75r10) .ret) .skip)) (.seq (.seq (.reg f75r11) (.cond (.t 19) (.seq (.reg f75r12) .ret) .skip)) (.seq (.reg f75r13) .ret))))))))
def f75 : AFn := ⟨20, f75b, [.tmp 4], .pure⟩
theorem f75_is : cFn Tryz.prog .pure 75 = some f75 := by kernel_rfl

/-- cmp.Compare[int64] -/
def f76r0 : List AIns := [⟨some 4, .mov (.c (.int .i64 0)), none⟩]
def f76r1 : List AIns := [⟨some 7, .mov (.t 0), none⟩,
  ⟨some 8, .call (.c (.func (.func 80) #[] #[])) [(.t 7)], none⟩,
  ⟨some 5, .mov (.t 8), none⟩]
def f76r2 : List AIns := [⟨some 9, .mov (.t 1), none⟩,
  ⟨some 10, .call (.c (.func (.func 80) #[] #[])) [(.t 9)], none⟩,
  ⟨some 6, .mov (.t 10), none⟩]
def f76r3 : List AIns := [⟨some 11, .mov (.t 5), none⟩]
def f76r4 : List AIns := [⟨some 12, .mov (.t 6), none⟩]
def f76r5 : List AIns := [⟨some 4, .mov (.c (.int .i64 0)), none⟩]
def f76r6 : List AIns := [⟨some 4, .mov (.c (.int .i64 (-1))), none⟩]
def f76r7 : List AIns := [⟨some 13, .mov (.t 6), none⟩]
def f76r8 : List AIns := [⟨some 4, .mov (.c (.int .i64 1)), none⟩]
def f76r9 : List AIns := [⟨some 14, .mov (.t 0), none⟩,
  ⟨some 15, .mov (.t 1), none⟩,
  ⟨some 16, .bin .lss (.t 14) (.t 15), none⟩]
def f76r10 : List AIns := [⟨some 4, .mov (.c (.int .i64 (-1))), none⟩]
def f76r11 : List AIns := [⟨some 17, .mov (.t 0), none⟩,
  ⟨some 18, .mov (.t 1), none⟩,
  ⟨some 19, .bin .gtr (.t 17) (.t 18), none⟩]
def f76r12 : List AIns := [⟨some 4, .mov (.c (.int .i64 1)), none⟩]
def f76r13 : List AIns := [⟨some 4, .mov (.c (.int .i64 0)), none⟩]
def f76b : ACode := (.seq (.reg f76r0) (.seq (.reg f76r1) (.seq (.reg f76r2) (.seq (.seq (.reg f76r3) (.cond (.t 11) (.seq (.seq (.reg f76r4) (.cond (.t 12) (.seq (.reg f76r5) .ret) .skip)) (.seq (.reg f76r6) .ret)) .skip)) (.seq (.seq (.reg f76r7) (.cond (.t 13) (.seq (.reg f76r8) .ret) .skip)) (.seq (.seq (.reg f76r9) (.cond (.t 16) (.seq (.reg f76r10) .ret) .skip)) (.seq (.seq (.reg f76r11) (.cond (.t 19) (.seq (.reg f76r12) .ret) .skip)) (.seq (.reg f76r13) .ret))))))))
def f76 : AFn := ⟨20, f76b, [.tmp 4], .pure⟩
theorem f76_is : cFn Tryz.prog .pure 76 = some f76 := by kernel_rfl

/-- bocage/rbtree.New -/
def f77r0 : List AIns := [⟨some 2, .mov (.c (.pointer none)), none⟩,
  ⟨some 3, .mov (.c (.int .i64 0)), none⟩]
def f77r1 : List AIns := [⟨some 6, .mov (.t 0), none⟩,
  ⟨some 7, .bin .lss (.t 6) (.c (.int .i64 0)), none⟩,
  ⟨some 8, .mov (.t 7), none⟩,
  ⟨some 9, .mov (.t 0), some (8, false)⟩,
  ⟨some 10, .bin .gtr (.t 9) (.c (.int .i64 4096)), some (8, false)⟩,
  ⟨some 11, .pick (.t 8) (.c (.bool true)) (.t 10), none⟩]
def f77r2 : List AIns := [⟨some 2, .mov (.c (.pointer none)), none⟩,
  ⟨some 3, .mov (.c (.int .i64 1)), none⟩]
def f77r3 : List AIns := [⟨some 13, .mov (.t 0), none⟩,
  ⟨some 14, .call (.c (.func (.func 81) #[] #[])) [(.t 13)], none⟩,
  ⟨some 12, .mov (.t 14), none⟩,
  ⟨some 15, .extract (.t 12) 0, none⟩,
  ⟨some 16, .extract (.t 12) 1, none⟩,
  ⟨some 4, .mov (.t 15), none⟩,
  ⟨some 5, .mov (.t 16), none⟩]
def f77r4 : List AIns := [⟨some 17, .mov (.t 5), none⟩,
  ⟨some 18, .bin .neq (.t 17) (.c (.int .i64 0)), none⟩]
def f77r5 : List AIns := [⟨some 19, .mov (.t 5), none⟩,
  ⟨some 2, .mov (.c (.pointer none)), none⟩,
  ⟨some 3, .mov (.t 19), none⟩]
def f77r6 : List AIns := [⟨some 20, .mov (.t 4), none⟩,
  ⟨some 21, .build [(.pointer none), (.int .i64 0)] [(0, 1, (.t 20)), (1, 1, (.c (.int .i64 (-1))))], none⟩,
  ⟨some 22, .box 138 (.t 21), none⟩,
  ⟨some 2, .mov (.t 22), none⟩,
  ⟨some 3, .mov (.c (.int .i64 0)), none⟩]
def f77b : ACode := (.seq (.reg f77r0) (.seq (.seq (.reg f77r1) (.cond (.t 11) (.seq (.reg f77r2) .ret) .skip)) (.seq (.reg f77r3) (.seq (.seq (.reg f77r4) (.cond (.t 18) (.seq (.reg f77r5) .ret) .skip)) (.seq (.reg f77r6) .ret)))))
def f77 : AFn := ⟨23, f77b, [.tmp 2, .tmp 3], .plain⟩
theorem f77_is : cFn Tryz.prog .plain 77 = some f77 := by kernel_rfl

/-- bocage/btree.New -/
def f78r0 : List AIns := [⟨some 4, .mov (.c (.pointer none)), none⟩,
  ⟨some 5, .mov (.c (.int .i64 0)), none⟩]
def f78r1 : List AIns := [⟨some 8, .mov (.t 0), none⟩,
  ⟨some 9, .bin .lss (.t 8) (.c (.int .i64 2)), none⟩,
  ⟨some 10, .mov (.t 9), none⟩,
  ⟨some 11, .mov (.t 0), some (10, false)⟩,
  ⟨some 12, .bin .gtr (.t 11) (.c (.int .i64 64)), some (10, false)⟩,
  ⟨some 13, .pick (.t 10) (.c (.bool true)) (.t 12), none⟩,
  ⟨some 14, .mov (.t 13), none⟩,
  ⟨some 15, .mov (.t 1), some (14, false)⟩,
  ⟨some 16, .bin .lss (.t 15) (.c (.int .i64 0)), some (14, false)⟩,
  ⟨some 17, .pick (.t 14) (.c (.bool true)) (.t 16), none⟩,
  ⟨some 18, .mov (.t 17), none⟩,
  ⟨some 19, .mov (.t 1), some (18, false)⟩,
  ⟨some 20, .bin .gtr (.t 19) (.c (.int .i64 4096)), some (18, false)⟩,
  ⟨some 21, .pick (.t 18) (.c (.bool true)) (.t 20), none⟩]
def f78r2 : List AIns := [⟨some 4, .mov (.c (.pointer none)), none⟩,
  ⟨some 5, .mov (.c (.int .i64 1)), none⟩]
def f78r3 : List AIns := [⟨some 23, .mov (.t 1), none⟩,
  ⟨some 24, .bin .mul (.c (.int .i64 2)) (.t 23), none⟩,
  ⟨some 25, .bin .add (.t 24) (.c (.int .i64 4)), none⟩,
  ⟨some 26, .call (.c (.func (.func 82) #[] #[])) [(.t 25)], none⟩,
  ⟨some 22, .mov (.t 26), none⟩,
  ⟨some 27, .extract (.t 22) 0, none⟩,
  ⟨some 28, .extract (.t 22) 1, none⟩,
  ⟨some 6, .mov (.t 27), none⟩,
  ⟨some 7, .mov (.t 28), none⟩]
def f78r4 : List AIns := [⟨some 29, .mov (.t 7), none⟩,
  ⟨some 30, .bin .neq (.t 29) (.c (.int .i64 0)), none⟩]
def f78r5 : List AIns := [⟨some 31, .mov (.t 7), none⟩,
  ⟨some 4, .mov (.c (.pointer none)), none⟩,
  ⟨some 5, .mov (.t 31), none⟩]
def f78r6 : List AIns := [⟨some 32, .mov (.t 6), none⟩,
  ⟨some 33, .mov (.t 0), none⟩,
  ⟨some 34, .mov (.t 1), none⟩,
  ⟨some 35, .build [(.pointer none), (.int .i64 0), (.int .i64 0), (.int .i64 0), (.int .i64 0)] [(0, 1, (.t 32)), (1, 1, (.c (.int .i64 (-1)))), (2, 1, (.t 33)), (3, 1, (.t 34)), (4, 1, (.c (.int .i64 0)))], none⟩,
  ⟨some 36, .box 145 (.t 35), none⟩,
  ⟨some 4, .mov (.t 36), none⟩,
  ⟨some 5, .mov (.c (.int .i64 0)), none⟩]
def f78b : ACode := (.seq (.reg f78r0) (.seq (.seq (.reg f78r1) (.cond (.t 21) (.seq (.reg f78r2) .ret) .skip)) (.seq (.reg f78r3) (.seq (.seq (.reg f78r4) (.cond (.t 30) (.seq (.reg f78r5) .ret) .skip)) (.seq (.reg f78r6) .ret)))))
def f78 : AFn := ⟨37, f78b, [.tmp 4, .tmp 5], .plain⟩
theorem f78_is : cFn Tryz.prog .plain 78 = some f78 := by kernel_rfl

/-- cmp.isNaN[int] -/
def f79r0 : List AIns := [⟨some 2, .mov (.c (.bool false)), none⟩]
def f79r1 : List AIns := [⟨some 3, .mov (.t 0), none⟩,
  ⟨some 4, .mov (.t 0), none⟩,
  ⟨some 5, .bin .neq (.t 3) (.t 4), none⟩,
  ⟨some 2, .mov (.t 5), none⟩]
def f79b : ACode := (.seq (.reg f79r0) (.seq (.reg f79r1) .ret))
def f79 : AFn := ⟨6, f79b, [.tmp 2], .pure⟩
theorem f79_is : cFn Tryz.prog .pure 79 = some f79 := by kernel_rfl

/-- cmp.isNaN[int64] -/
def f80r0 : List AIns := [⟨some 2, .mov (.c (.bool false)), none⟩]
def f80r1 : List AIns := [⟨some 3, .mov (.t 0), none⟩,
  ⟨some 4, .mov (.t 0), none⟩,
  ⟨some 5, .bin .neq (.t 3) (.t 4), none⟩,
  ⟨some 2, .mov (.t 5), none⟩]
def f80b : ACode := (.seq (.reg f80r0) (.seq (.reg f80r1) .ret))
def f80 : AFn := ⟨6, f80b, [.tmp 2], .pure⟩
theorem f80_is : cFn Tryz.prog .pure 80 = some f80 := by kernel_rfl

/-- bocage/arena.New[bocage/rbtree.node] -/
def f81r0 : List AIns := [⟨some 2, .mov (.c (.pointer none)), none⟩,
  ⟨some 3, .mov (.c (.int .i64 0)), none⟩]
def f81r1 : List AIns := [⟨some 4, .mov (.t 0), none⟩,
  ⟨some 5, .bin .lss (.t 4) (.c (.int .i64 0)), none⟩,
  ⟨some 6, .mov (.t 5), none⟩,
  ⟨some 7, .mov (.t 0), some (6, false)⟩,
  ⟨some 8, .bin .gtr (.t 7) (.c (.int .i64 65536)), some (6, false)⟩,
  ⟨some 9, .pick (.t 6) (.c (.bool true)) (.t 8), none⟩]
def f81r2 : List AIns := [⟨some 2, .mov (.c (.pointer none)), none⟩,
  ⟨some 3, .mov (.c (.int .i64 1)), none⟩]
def f81r3 : List AIns := [⟨some 10, .mov (.t 0), none⟩,
  ⟨some 11, .build [(.int .i64 0), (.slice none 0 0), (.slice none 0 0)] [(0, 1, (.t 10))], none⟩,
  ⟨some 12, .box 148 (.t 11), none⟩,
  ⟨some 2, .mov (.t 12), none⟩,
  ⟨some 3, .mov (.c (.int .i64 0)), none⟩]
def f81b : ACode := (.seq (.reg f81r0) (.seq (.seq (.reg f81r1) (.cond (.t 9) (.seq (.reg f81r2) .ret) .skip)) (.seq (.reg f81r3) .ret)))
def f81 : AFn := ⟨13, f81b, [.tmp 2, .tmp 3], .plain⟩
theorem f81_is : cFn Tryz.prog .plain 81 = some f81 := by kernel_rfl

/-- bocage/arena.New[bocage/btree.node] -/
def f82r0 : List AIns := [⟨some 2, .mov (.c (.pointer none)), none⟩,
  ⟨some 3, .mov (.c (.int .i64 0)), none⟩]
def f82r1 : List AIns := [⟨some 4, .mov (.t 0), none⟩,
  ⟨some 5, .bin .lss (.t 4) (.c (.int .i64 0)), none⟩,
  ⟨some 6, .mov (.t 5), none⟩,
  ⟨some 7, .mov (.t 0), some (6, false)⟩,
  ⟨some 8, .bin .gtr (.t 7) (.c (.int .i64 65536)), some (6, false)⟩,
  ⟨some 9, .pick (.t 6) (.c (.bool true)) (.t 8), none⟩]
def f82r2 : List AIns := [⟨some 2, .mov (.c (.pointer none)), none⟩,
  ⟨some 3, .mov (.c (.int .i64 1)), none⟩]
def f82r3 : List AIns := [⟨some 10, .mov (.t 0), none⟩,
  ⟨some 11, .build [(.int .i64 0), (.slice none 0 0), (.slice none 0 0)] [(0, 1, (.t 10))], none⟩,
  ⟨some 12, .box 151 (.t 11), none⟩,
  ⟨some 2, .mov (.t 12), none⟩,
  ⟨some 3, .mov (.c (.int .i64 0)), none⟩]
def f82b : ACode := (.seq (.reg f82r0) (.seq (.seq (.reg f82r1) (.cond (.t 9) (.seq (.reg f82r2) .ret) .skip)) (.seq (.reg f82r3) .ret)))
def f82 : AFn := ⟨13, f82b, [.tmp 2, .tmp 3], .plain⟩
theorem f82_is : cFn Tryz.prog .plain 82 = some f82 := by kernel_rfl

def flS (g : FuncId) : Flag := if [18, 21, 22, 29, 30, 31, 32, 33, 34, 35, 36, 37, 38, 44, 54, 56, 59, 63, 72, 77, 78, 81, 82].contains g then .plain else .pure
end Go.Proofs.YtmjaanhphkbkeaaGreat
end
